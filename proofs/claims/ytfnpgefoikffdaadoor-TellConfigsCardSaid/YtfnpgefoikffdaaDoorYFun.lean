/- Functions by contracts: what they hand back; lists. -/
import Derived.Test.YtfnpgefoikffdaaDoorYLoop
namespace Go.Y

/-! ### What is handed back, by the slots that live on -/
def lookV : List (Nat × V) → Nat → Option V
  | [], _ => none
  | (s, v) :: r, t => if s = t then some v else lookV r t

def resV1 (Y : YP) (l : List (Nat × V)) : ResultVar → Option V
  | .tmp t => match (lookV l t).map V.plain with
    | none | some .undef => none
    | some v => some v
  | .cell a t => match Y.ty t, lookV l a with
    | some ti, some (.lb cs) => (takeX ti.size cs).bind (ofCells ti.kd.agg)
    | _, _ => none

def resVs (Y : YP) (l : List (Nat × V)) : List ResultVar → Option (List V)
  | [] => some []
  | r :: rs => match resV1 Y l r, resVs Y l rs with
    | some v, some vs => some (v :: vs)
    | _, _ => none

def resV (Y : YP) (fn : Func) (l : List (Nat × V)) : Option V :=
  match resVs Y l fn.results.toList with
  | some [v] => some v
  | some vs => some (.tup vs)
  | none => none

theorem lookV_ok {σ : St} : ∀ {slots : List Nat} {t : Nat} {v : V}, lookV (slots.zip (slots.map fun i => lv i σ)) t = some v → lv t σ = v
  | [], t, v, h => by simp [lookV] at h
  | s :: r, t, v, h => by
    simp only [List.map_cons, List.zip_cons_cons, lookV] at h
    split at h
    · rename_i he; subst he; simpa using h
    · exact lookV_ok h

theorem resV1_ok {Y : YP} {σ : St} {slots : List Nat} {r : ResultVar} {v : V} (h : resV1 Y (slots.zip (slots.map fun i => lv i σ)) r = some v) : resultY Y σ r = some v := by
  cases r with
  | tmp t =>
    simp only [resV1] at h
    cases hl : lookV (slots.zip (slots.map fun i => lv i σ)) t with
    | none => rw [hl] at h; cases h
    | some x =>
      rw [hl] at h
      have hx : σ.env.getD t .undef = x := lookV_ok hl
      simp only [resultY, ev, hx]
      simp only [Option.map_some] at h
      split at h
      · cases h
      · cases h
      · rename_i w hw1 hw2
        simp only [Option.some.injEq] at hw2 h
        subst h hw2
        split
        · rename_i h3; exact absurd (by rw [h3]) hw1
        · rfl
  | cell a t =>
    simp only [resV1] at h
    split at h
    · rename_i ti cs hti hl
      have hx : σ.env.getD a .undef = .lb cs := lookV_ok hl
      simp only [resultY, hti, addr, hx]
      simp only [cellsAt, hx, List.drop_zero]
      exact h
    · cases h

theorem resVs_ok {Y : YP} {σ : St} {slots : List Nat} : ∀ {rs : List ResultVar} {vs : List V}, resVs Y (slots.zip (slots.map fun i => lv i σ)) rs = some vs → resultYs Y σ rs = some vs
  | [], vs, h => by simpa [resVs, resultYs] using h
  | r :: rs, vs, h => by
    simp only [resVs] at h
    split at h
    · rename_i v vs' h1 h2
      simp only [resultYs, resV1_ok h1, resVs_ok h2]
      exact h
    · cases h

/-- The end of a function, by the slots that live on. -/
def Fin (Y : YP) (fn : Func) (slots : List Nat) (P : V → Heap → Prop) (o : Out) (_ : Nat) (vs : List V) (h : Heap) : Prop :=
  (o = .normal ∨ o = .ret) ∧ ∃ v, resV Y fn (slots.zip vs) = some v ∧ P v h

/-- The same, by the state. -/
def FinS (Y : YP) (fn : Func) (P : V → Heap → Prop) (o : Out) (σ : St) : Prop := (o = .normal ∨ o = .ret) ∧ ∃ v, resultsY Y fn σ = some v ∧ P v σ.h

theorem fin_ok {Y : YP} {fn : Func} {slots : List Nat} {P : V → Heap → Prop} {o : Out} {n : Nat} {vs : List V} {h : Heap} (f : Fin Y fn slots P o n vs h) : AtV slots (FinS Y fn P) o n vs h := by
  rintro τ _ rfl rfl
  obtain ⟨h1, v, h2, h3⟩ := f
  refine ⟨h1, v, ?_, h3⟩
  unfold resV at h2
  unfold resultsY
  split at h2
  · rename_i x hx
    rw [resVs_ok hx]; exact h2
  · rename_i vs hne hx
    rw [resVs_ok hx]
    simp only [Option.some.injEq] at h2
    subst h2
    split
    · rename_i y hy; simp only [Option.some.injEq] at hy; exact absurd hy (hne y)
    · rename_i hy; simp only [Option.some.injEq] at hy; rw [hy]
    · rename_i hy; cases hy
  · cases h2

/-- A function that starts from nothing and hands back what is read-only. -/
theorem pcon_of {Y : YP} (hY : YOK Y) {f : FuncId} {fn : Func} (hf : Y.P.funcs[f]? = some fn) (hb : fn.body.isSome = true) {args : List V} (hc : coldAll args = true) {P : V → Prop}
    (ht : TriL Y (flat (bodyOf fn)) ⟨args ++ List.replicate (fn.ntmps - args.length) .undef, [], .empty⟩ (FinS Y fn fun v h => ∃ r, Frz h v r ∧ P r)) : PCon Y f args P := by
  have c := con_of hY hf hb (Q := fun v h => ∃ r, Frz h v r ∧ P r) ht
  exact ⟨c.body, PTr.of (coldAll_cold hc) c.tr fun v h hq => hq⟩

theorem finV1 {Y : YP} {fn : Func} {slots : List Nat} {o : Out} {n : Nat} {vs : List V} {h : Heap} {v1 r1 R : V} (ho : o = .normal ∨ o = .ret) (hv : resV Y fn (slots.zip vs) = some v1) (h1 : Frz h v1 r1) (hr : r1 = R) :
    Fin Y fn slots (fun v h => ∃ r, Frz h v r ∧ r = R) o n vs h := ⟨ho, _, hv, _, h1, hr⟩
theorem finV2 {Y : YP} {fn : Func} {slots : List Nat} {o : Out} {n : Nat} {vs : List V} {h : Heap} {v1 v2 r1 r2 R : V} (ho : o = .normal ∨ o = .ret) (hv : resV Y fn (slots.zip vs) = some (.tup [v1, v2])) (h1 : Frz h v1 r1) (h2 : Frz h v2 r2) (hr : .tup [r1, r2] = R) :
    Fin Y fn slots (fun v h => ∃ r, Frz h v r ∧ r = R) o n vs h := ⟨ho, _, hv, _, .tup _ _ (.cons _ _ _ _ h1 (.cons _ _ _ _ h2 .nil)), hr⟩
theorem fin1 {Y : YP} {fn : Func} {slots : List Nat} {o : Out} {n : Nat} {vs : List V} {h : Heap} {v1 r1 R : V} (ho : o = .normal ∨ o = .ret) (hv : resV Y fn (slots.zip vs) = some v1) (h1 : Frz h v1 r1) (hr : r1 = R) :
    AtV slots (FinS Y fn fun v h => ∃ r, Frz h v r ∧ r = R) o n vs h := fin_ok ⟨ho, _, hv, _, h1, hr⟩
theorem fin2 {Y : YP} {fn : Func} {slots : List Nat} {o : Out} {n : Nat} {vs : List V} {h : Heap} {v1 v2 r1 r2 R : V} (ho : o = .normal ∨ o = .ret) (hv : resV Y fn (slots.zip vs) = some (.tup [v1, v2])) (h1 : Frz h v1 r1) (h2 : Frz h v2 r2) (hr : .tup [r1, r2] = R) :
    AtV slots (FinS Y fn fun v h => ∃ r, Frz h v r ∧ r = R) o n vs h := fin_ok ⟨ho, _, hv, _, .tup _ _ (.cons _ _ _ _ h1 (.cons _ _ _ _ h2 .nil)), hr⟩
theorem fin3 {Y : YP} {fn : Func} {slots : List Nat} {o : Out} {n : Nat} {vs : List V} {h : Heap} {v1 v2 v3 r1 r2 r3 R : V} (ho : o = .normal ∨ o = .ret) (hv : resV Y fn (slots.zip vs) = some (.tup [v1, v2, v3])) (h1 : Frz h v1 r1) (h2 : Frz h v2 r2) (h3 : Frz h v3 r3) (hr : .tup [r1, r2, r3] = R) :
    AtV slots (FinS Y fn fun v h => ∃ r, Frz h v r ∧ r = R) o n vs h := fin_ok ⟨ho, _, hv, _, .tup _ _ (.cons _ _ _ _ h1 (.cons _ _ _ _ h2 (.cons _ _ _ _ h3 .nil))), hr⟩

theorem ltI_pos (t : Nat) : ltI 0 (t : Int) = decide (0 < t) := by simp [ltI]
theorem ltI_nat (a b : Nat) : ltI (a : Int) (b : Int) = decide (a < b) := by simp [ltI]
theorem if_dec {c : Prop} [Decidable c] {p q : Prop} (h : c → p) (g : ¬ c → q) : If (decide c) p q := if_mk (fun hc => h (by simpa using hc)) (fun hc => g (by simpa using hc))
theorem if_pos_nat {t : Nat} {p q : Prop} (h : 0 < t → p) (g : t = 0 → q) : If (ltI 0 (t : Int)) p q := if_mk (fun hc => h (by simpa [ltI] using hc)) (fun hc => g (by simp [ltI] at hc; omega))
theorem if_lt_nat {a b : Nat} {p q : Prop} (h : a < b → p) (g : b ≤ a → q) : If (ltI (a : Int) (b : Int)) p q := if_mk (fun hc => h (by simpa [ltI] using hc)) (fun hc => g (by simp [ltI] at hc; omega))
theorem if_lt {a b : Int} {p q : Prop} (h : a < b → p) (g : b ≤ a → q) : If (ltI a b) p q := if_mk (fun hc => h (by simpa [ltI] using hc)) (fun hc => g (by simpa [ltI] using hc))
theorem if_le {a b : Int} {p q : Prop} (h : a ≤ b → p) (g : b < a → q) : If (leI a b) p q := if_mk (fun hc => h (by simpa [leI] using hc)) (fun hc => g (by simpa [leI] using hc))

/-! ### Code, cut -/
def loopId : List Code → Nat
  | .block id (.loop _) :: _ => id
  | _ => 0
def loopB : List Code → Code
  | .block _ (.loop b) :: _ => b
  | _ => .skip
def isLoop : List Code → Bool
  | .block _ (.loop _) :: _ :: _ => true
  | _ => false

theorem isLoop_eq {l : List Code} (h : isLoop l = true) : l = .block (loopId l) (.loop (loopB l)) :: l.drop 1 ∧ l.drop 1 ≠ [] := by
  unfold isLoop at h
  split at h
  · exact ⟨rfl, by simp⟩
  · cases h

theorem pre_rule {Y : YP} (hY : YOK Y) {loc : Nat → Bool} (fuel : Nat) {n : Nat} (slots : List Nat) {σ : St} {l : List Code} {Q : Out → St → Prop} (hc : (post l).isEmpty = false)
    (h : codeP Y loc fuel (pre l) σ (VQ slots (PreV Y n slots (post l) Q))) : TriL Y l σ Q :=
  triL_pre hY (fun e => by rw [e] at hc; cases hc) h

theorem round_exit {Y : YP} {n : Nat} {slots : List Nat} {I : Nat → List V → Heap → Prop} {m id j : Nat} {r : List Code} {Q : Out → St → Prop} {len : Nat} {vs : List V} {h : Heap} (hj : j = id) (hn : len = n)
    (ht : TriL Y r ⟨mk n (slots.zip vs), [], h⟩ Q) : RoundV Y n slots I m id r Q (.exit j) len vs h := by
  simp only [RoundV]
  rw [if_pos hj]
  exact ⟨hn, ht⟩

/-- A loop; its body may hold loops. -/
theorem loop_rule {Y : YP} {n : Nat} (slots : List Nat) {σ : St} {l : List Code} {Q : Out → St → Prop} (hl : isLoop l = true) (I : Nat → List V → Heap → Prop) (m0 : Nat) (hn : σ.env.length = n)
    (h0 : I m0 (slots.map fun i => lv i σ) σ.h)
    (round : ∀ m vs h, I m vs h → TriL Y (flat (loopB l)) ⟨mk n (slots.zip vs), [], h⟩ (VQ slots (RoundV Y n slots I m (loopId l) (l.drop 1) Q))) : TriL Y l σ Q := by
  obtain ⟨h1, h2⟩ := isLoop_eq hl
  rw [h1]
  refine triL_loop h2 I m0 hn h0 fun m vs h hi => ?_
  have := round m vs h hi
  exact triL_flat (c := loopB l) (r := []) (by simpa using this)

/-- The end of an inner piece, seen by more slots than the outer one asks for. -/
theorem at_view {slots : List Nat} {K : Out → Nat → List V → Heap → Prop} {slots' : List Nat} {o : Out} {n : Nat} {vs : List V} {h : Heap}
    (hk : ∀ τ : St, τ.env.length = n → (slots'.map fun i => lv i τ) = vs → τ.h = h → K o n (slots.map fun i => lv i τ) h) : AtV slots' (VQ slots K) o n vs h := by
  intro τ h1 h2 h3
  have := hk τ h1 h2 h3
  unfold VQ
  rw [h1, h3]
  exact this

theorem at_same {slots : List Nat} {K : Out → Nat → List V → Heap → Prop} {o : Out} {n : Nat} {vs : List V} {h : Heap} (hk : K o n vs h) : AtV slots (VQ slots K) o n vs h :=
  at_view fun τ _ h2 _ => by rw [h2]; exact hk

def blockId : List Code → Nat
  | .block id _ :: _ => id
  | _ => 0
def blockB : List Code → Code
  | .block _ b :: _ => b
  | _ => .skip
def isBlock : List Code → Bool
  | .block _ _ :: _ :: _ => true
  | _ => false

theorem isBlock_eq {l : List Code} (h : isBlock l = true) : l = .block (blockId l) (blockB l) :: l.drop 1 ∧ l.drop 1 ≠ [] := by
  unfold isBlock at h
  split at h
  · exact ⟨rfl, by simp⟩
  · cases h

/-- What a block comes to: something follows it. -/
def ContV (Y : YP) (n : Nat) (slots : List Nat) (id : Nat) (r : List Code) (Q : Out → St → Prop) (o : Out) (len : Nat) (vs : List V) (h : Heap) : Prop :=
  match o with
  | .normal => len = n ∧ TriL Y r ⟨mk n (slots.zip vs), [], h⟩ Q
  | .exit j => if j = id then len = n ∧ TriL Y r ⟨mk n (slots.zip vs), [], h⟩ Q else AtV slots Q (.exit j) len vs h
  | .ret => AtV slots Q .ret len vs h

theorem block_rule {Y : YP} {n : Nat} (slots : List Nat) {σ : St} {l : List Code} {Q : Out → St → Prop} (hl : isBlock l = true)
    (h : TriL Y (flat (blockB l)) σ (VQ slots (ContV Y n slots (blockId l) (l.drop 1) Q))) : TriL Y l σ Q := by
  obtain ⟨h1, h2⟩ := isBlock_eq hl
  rw [h1]
  have h3 := triL_flat (c := blockB l) (r := []) (by rw [List.append_nil]; exact h)
  refine triL_block (Tri.mono h3 ?_)
  intro o σ' ho
  cases o with
  | normal => exact triL_view h2 ho.1 rfl rfl ho.2
  | ret => exact ho σ' rfl rfl rfl
  | exit j =>
    have ho : ContV Y n slots (blockId l) (l.drop 1) Q (.exit j) _ _ _ := ho
    simp only [ContV] at ho
    by_cases hj : j = blockId l
    · rw [if_pos hj] at ho
      simp only [if_pos hj]
      exact triL_view h2 ho.1 rfl rfl ho.2
    · rw [if_neg hj] at ho
      simp only [if_neg hj]
      exact ho σ' rfl rfl rfl

theorem cont_exit {Y : YP} {n : Nat} {slots : List Nat} {id j : Nat} {r : List Code} {Q : Out → St → Prop} {len : Nat} {vs : List V} {h : Heap} (hj : j = id) (hn : len = n)
    (ht : TriL Y r ⟨mk n (slots.zip vs), [], h⟩ Q) : ContV Y n slots id r Q (.exit j) len vs h := by
  simp only [ContV]
  rw [if_pos hj]
  exact ⟨hn, ht⟩

/-- What a block comes to that stands last. -/
def LastV (id : Nat) (K : Out → Nat → List V → Heap → Prop) (o : Out) (n : Nat) (vs : List V) (h : Heap) : Prop :=
  match o with
  | .exit j => if j = id then K .normal n vs h else K (.exit j) n vs h
  | o => K o n vs h

def isLast : List Code → Bool
  | [.block _ _] => true
  | _ => false

theorem last_rule {Y : YP} {slots : List Nat} {σ : St} {l : List Code} {K : Out → Nat → List V → Heap → Prop} (hl : isLast l = true)
    (h : TriL Y (flat (blockB l)) σ (VQ slots (LastV (blockId l) K))) : TriL Y l σ (VQ slots K) := by
  unfold isLast at hl
  split at hl
  · rename_i id b
    have h3 := triL_flat (c := b) (r := []) (by rw [List.append_nil]; exact h)
    refine triL_block (Tri.mono h3 ?_)
    intro o σ' ho
    cases o with
    | normal => exact ho
    | ret => exact ho
    | exit j =>
      have ho : LastV id K (.exit j) _ _ _ := ho
      simp only [LastV] at ho
      by_cases hj : j = id
      · rw [if_pos hj] at ho; simp only [if_pos hj]; exact ho
      · rw [if_neg hj] at ho; simp only [if_neg hj]; exact ho
  · cases hl

def condT : List Code → Code
  | .cond _ a _ :: _ => a
  | _ => .skip
def condF : List Code → Code
  | .cond _ _ b :: _ => b
  | _ => .skip
def condX : List Code → Operand
  | .cond x _ _ :: _ => x
  | _ => .tmp 0
def isCond : List Code → Bool
  | [.cond _ _ _] => true
  | _ => false

/-- A test that stands last. -/
theorem cond_rule {Y : YP} {σ : St} {l : List Code} {Q : Out → St → Prop} (hl : isCond l = true) {b : Bool} (hx : ev σ.env (condX l) = .b b) (h : TriL Y (flat (if b then condT l else condF l)) σ Q) : TriL Y l σ Q := by
  unfold isCond at hl
  split at hl
  · rename_i x p q
    have h3 := triL_flat (c := if b then p else q) (r := []) (by rw [List.append_nil]; exact h)
    exact triL_cons (tri_cond hx (Tri.mono h3 fun o σ' ho => by cases o <;> exact ho))
  · cases hl

theorem at_prefix {slots more : List Nat} {K : Out → Nat → List V → Heap → Prop} {o : Out} {n : Nat} {vs1 vs2 : List V} {h : Heap} (hlen : vs1.length = slots.length) (hk : K o n vs1 h) : AtV (slots ++ more) (VQ slots K) o n (vs1 ++ vs2) h := by
  refine at_view fun τ _ h2 _ => ?_
  rw [List.map_append] at h2
  have := List.append_inj_left h2 (by simp [hlen])
  rw [this]; exact hk

/-- Code without a loop, into a view. -/
theorem all_rule {Y : YP} (hY : YOK Y) {loc : Nat → Bool} (fuel : Nat) (slots : List Nat) {σ : St} {l : List Code} {K : Out → Nat → List V → Heap → Prop} (h : codeP Y loc fuel l σ (VQ slots K)) : TriL Y l σ (VQ slots K) := codeP_ok hY _ _ _ _ h

theorem end_rule {Y : YP} (hY : YOK Y) {loc : Nat → Bool} (fuel : Nat) (slots : List Nat) {σ : St} {l : List Code} {fn : Func} {P : V → Heap → Prop} (h : codeP Y loc fuel l σ (VQ slots (Fin Y fn slots P))) : TriL Y l σ (FinS Y fn P) :=
  (codeP_ok hY _ _ _ _ h).mono fun _ σ' ho => fin_ok ho σ' rfl rfl rfl

theorem mk_len {n : Nat} {l : List (Nat × V)} : (mk n l).length = n := mk_length n l

/-! ### Lists -/
/-- A list as a value. -/
abbrev lst {α : Type} (f : α → List V) (l : List α) : V := .ts (row f l) l.length none

theorem frz_nil {α : Type} (f : α → List V) (h : Heap) (c : Option Nat) (k : Nat) : Frz h (.sl none 0 c k) (lst f []) := .sln _ _ _ (fun x hx => by cases hx)

theorem coldCells : ∀ {l : List V}, colds1 l = true → ∀ (h : Heap), FrzL h l l := fun hc h => colds1_ok h hc

theorem frzL_row {α : Type} {f : α → List V} (hf : ∀ x, colds1 (f x) = true) (h : Heap) : ∀ l : List α, FrzL h (row f l) (row f l)
  | [] => .nil
  | x :: l => by
    have e : row f (x :: l) = f x ++ row f l := by simp [row]
    rw [e]
    exact (coldCells (hf x) h).append (frzL_row hf h l)

theorem frz_isL {α : Type} {f : α → List V} (hf : ∀ x, colds1 (f x) = true) {h : Heap} {k : Nat} (hk : k ≠ 0) (hfl : ∀ x, (f x).length = k) {a : Option (Nat × Nat)} {l : Nat} {c : Option Nat} {kk : Nat} {xs : List α} (hl : IsL h k a l c kk (row f xs)) :
    Frz h (.sl a l c kk) (lst f xs) := by
  have hlen : l = xs.length := by
    have := hl.1
    rw [row_length hfl] at this
    exact Nat.eq_of_mul_eq_mul_right (Nat.pos_of_ne_zero hk) this
  subst hlen
  rcases hl.2 with ⟨rfl, h0, h1⟩ | ⟨id, rfl, rfl, rfl, h3, h4⟩
  · unfold lst
    rw [h1, h0]
    exact .sln _ _ _ (fun x hx => by cases hx)
  · exact .sl _ _ _ _ _ _ _ _ _ _ h4 (by rw [List.drop_zero, ← row_length hfl xs]; exact takeX_all _) (fun x hx => by cases hx) hk (frzL_row hf h xs)

/-- An append of elements that are read-only. -/
theorem append_ts {Y : YP} {h : Heap} {k : Nat} {a : Option (Nat × Nat)} {l : Nat} {c : Option Nat} {kk : Nat} {cs new : List V} {st e : TypeId} {te : TI} {m : Nat} {cap : Option Nat}
    (hk : Y.kd st = some (.slice e)) (hte : Y.ty e = some te) (hs : te.size = k) (hk0 : k ≠ 0) (hl : IsL h k a l c kk cs) (hm : m ≠ 0) (hn : takeX (m * k) new = some new) (hc : allCells new = true)
    (hb : (l + m) * te.bytes ≤ most) (hb' : l + m ≤ most) :
    ∃ a' l' c' k' h', appendH Y h st st (.sl a l c kk) (.ts new m cap) = some (.sl a' l' c' k', h') ∧ IsL h' k a' l' c' k' (cs ++ new) ∧ Fr h a h' ∧ l' = l + m ∧ ∃ j, a' = some (j, 0) ∧ h.nx ≤ j := by
  have hnl := takeX_length hn
  have hsrc : source Y ⟨[], [], h⟩ te st (.ts new m cap) = some (m, new) := by
    simp only [source, hk, elems, elemsS, hs, hn]; rfl
  rcases hl.2 with ⟨rfl, rfl, rfl⟩ | ⟨id, rfl, rfl, rfl, hid, hget⟩
  · refine ⟨some (h.nx, 0), m, none, k, h.pushT (Y.tag e) (.arr new true), ?_, ⟨by simp [hnl], .inr ⟨h.nx, rfl, rfl, rfl, by simp, by simp⟩⟩, (Fr.refl _ _).pushT, by simp, h.nx, rfl, Nat.le_refl _⟩
    have h1 : m * te.bytes ≤ most := by simpa using hb
    have h2 : m ≤ most := by simpa using hb'
    simp [appendH, appendY, hk, hte, hsrc, hc, hm, h1, h2, hs, hk0]
  · have hlen := hl.1
    refine ⟨some (h.nx, 0), l + m, none, kk, ((h.set id none).pushT (if 0 = 0 ∧ h.tagOf id = some e then some e else none) (.arr (cs ++ new) true)), ?_, ⟨by rw [Nat.add_mul, hlen, ← hnl, List.length_append], .inr ⟨h.nx, rfl, rfl, rfl, by simp, by simp [Heap.get_push]⟩⟩, ?_, rfl, h.nx, rfl, Nat.le_refl _⟩
    · have hb1 : ¬ ((l + m) * te.bytes > most ∨ l + m > most) := by omega
      have hne : ¬ (0 + (l + m) * kk ≤ cs.length) := by
        rw [← hlen, Nat.add_mul]
        have : 0 < m * kk := Nat.mul_pos (by omega) (by omega)
        omega
      have htk : takeX (l * kk) (cs.drop 0) = some cs := by rw [List.drop_zero]; exact takeX_len hlen
      simp only [appendH, appendY, hk, hte, hsrc, if_false, hm, hs, ne_eq, not_true_eq_false, hb1, hget, hne, Bool.true_or, if_true, htk]
      rw [if_neg (by simp [hc, hk0])]
    · refine ⟨by simp, fun j hj ha => ?_⟩
      have hji : j ≠ id := fun he => by subst he; exact ha 0 rfl
      rw [Heap.get_pushT, if_neg (by simp; omega), Heap.get_set, if_neg hji]
end Go.Y
