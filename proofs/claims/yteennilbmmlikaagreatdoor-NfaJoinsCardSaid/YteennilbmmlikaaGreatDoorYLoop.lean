/- Loops by what lies in the slots that live on. -/
import Derived.Test.YteennilbmmlikaaGreatDoorYSym
namespace Go.Y
abbrev KT := Out → Nat → List V → Heap → Prop
section
variable {Y : YP} {W : Vw} {σ : St} {a : Act} {w : World}

def lv (n : Nat) (σ : St) : V := σ.env.getD n .undef

def mk (n : Nat) (l : List (Nat × V)) : List V := l.foldl (fun e p => e.set p.1 p.2) (List.replicate n .undef)

theorem mk_aux : ∀ (l : List (Nat × V)) (e : List V), (l.foldl (fun e p => e.set p.1 p.2) e).length = e.length ∧
    ∀ t v, (l.foldl (fun e p => e.set p.1 p.2) e)[t]? = some v → e[t]? = some v ∨ (t, v) ∈ l
  | [], e => ⟨rfl, fun _ _ h => .inl h⟩
  | p :: l, e => by
    obtain ⟨h1, h2⟩ := mk_aux l (e.set p.1 p.2)
    refine ⟨by simpa using h1, fun t v h => ?_⟩
    rcases h2 t v h with h | h
    · rw [set_env] at h
      split at h
      · rename_i he
        split at h
        · simp at h; subst h; subst he; exact .inr (by simp)
        · cases h
      · exact .inl h
    · exact .inr (List.mem_cons_of_mem _ h)

theorem mk_length (n : Nat) (l : List (Nat × V)) : (mk n l).length = n := by simpa [mk] using (mk_aux l (List.replicate n .undef)).1
theorem mk_get {n : Nat} {l : List (Nat × V)} {t : Nat} {v : V} (h : (mk n l)[t]? = some v) : v = .undef ∨ (t, v) ∈ l := by
  rcases (mk_aux l (List.replicate n .undef)).2 t v h with h | h
  · simp [List.getElem?_replicate] at h
    exact .inl h.2.symm
  · exact .inr h

theorem Rel.fewer (h : Rel W σ a w) {σ2 : St} (hh : σ2.h = σ.h) (hl : σ2.env.length = σ.env.length) (hr : σ2.refs = []) (he : ∀ (t : Nat) (v : V), σ2.env[t]? = some v → v = V.undef ∨ σ.env[t]? = some v) :
    Rel W σ2 a w ∧ ∀ b, mine W σ2 a b → mine W σ a b := by
  have hbox : ∀ t b, boxAt σ2 a t b → boxAt σ a t b := by
    rintro t b ⟨⟨cs, h1⟩, h2⟩
    rcases he t _ h1 with h3 | h3
    · cases h3
    · exact ⟨⟨cs, h3⟩, h2⟩
  refine ⟨⟨hh ▸ h.heap, by rw [hl]; exact h.size, fun t v ht => ?_, fun t t' b h1 h2 => h.box t t' b (hbox _ _ h1) (hbox _ _ h2), fun _ _ _ hm => by simp [hr] at hm, h.defers⟩, ?_⟩
  · rcases he t v ht with rfl | h3
    · have hlt : t < a.tmps.size := by
        rw [h.size, ← hl]
        exact (List.getElem?_eq_some_iff.1 ht).1
      exact ⟨a.tmps[t], by simp [hlt], .undef _⟩
    · exact h.env t v h3
  · rintro b (h1 | ⟨t, h1⟩ | h1)
    · exact .inl h1
    · exact .inr (.inl ⟨t, hbox _ _ h1⟩)
    · exact .inr (.inr h1)

theorem tri_sees {n : Nat} {l : List (Nat × V)} {c : Code} {Q : Out → St → Prop} (hn : σ.env.length = n) (hl : ∀ p ∈ l, lv p.1 σ = p.2) (h : Tri Y c ⟨mk n l, [], σ.h⟩ Q) : Tri Y c σ Q := by
  intro W a w W0 own0 w0 hr hs
  have hf := hr.fewer (σ2 := ⟨mk n l, [], σ.h⟩) rfl (by simp [mk_length, hn]) rfl (fun t v ht => by
    rcases mk_get ht with rfl | hm
    · exact .inl rfl
    · have := hl _ hm
      simp only [lv, List.getD] at this
      cases hg : σ.env[t]? with
      | none => rw [hg] at this; exact .inl this.symm
      | some x => rw [hg] at this; simp at this; rw [this]; exact .inr rfl)
  exact h W a w W0 own0 w0 hf.1 (hs.weaken hf.2)

def VQ (slots : List Nat) (K : Out → Nat → List V → Heap → Prop) : Out → St → Prop := fun o σ => K o σ.env.length (slots.map fun i => lv i σ) σ.h

theorem tri_view {n : Nat} {slots : List Nat} {c : Code} {Q : Out → St → Prop} {vs : List V} {h : Heap} (hn : σ.env.length = n) (hv : slots.map (fun i => lv i σ) = vs) (hh : σ.h = h)
    (ht : Tri Y c ⟨mk n (slots.zip vs), [], h⟩ Q) : Tri Y c σ Q := by
  subst hh hv
  refine tri_sees hn (fun p hp => ?_) ht
  have key : ∀ l : List Nat, l.zip (l.map fun i => lv i σ) = l.map fun i => (i, lv i σ) := by
    intro l
    induction l with
    | nil => rfl
    | cons x l ih => simp [ih]
  rw [key] at hp
  simp only [List.mem_map] at hp
  obtain ⟨i, _, rfl⟩ := hp
  rfl

def AtV (slots : List Nat) (Q : Out → St → Prop) (o : Out) (len : Nat) (vs : List V) (h : Heap) : Prop :=
  ∀ τ : St, τ.env.length = len → (slots.map fun i => lv i τ) = vs → τ.h = h → Q o τ

def RoundV (Y : YP) (n : Nat) (slots : List Nat) (I : Nat → List V → Heap → Prop) (m id : Nat) (r : List Code) (Q : Out → St → Prop) (o : Out) (len : Nat) (vs : List V) (h : Heap) : Prop :=
  match o with
  | .normal => len = n ∧ ∃ m', m' < m ∧ I m' vs h
  | .exit j => if j = id then len = n ∧ TriL Y r ⟨mk n (slots.zip vs), [], h⟩ Q else AtV slots Q (.exit j) len vs h
  | .ret => AtV slots Q .ret len vs h

theorem triL_sees {n : Nat} {l : List (Nat × V)} {cs : List Code} {slots : List Nat} {Q : Out → St → Prop} (hn : σ.env.length = n) (hl : ∀ p ∈ l, lv p.1 σ = p.2) (hc : cs ≠ []) (h : TriL Y cs ⟨mk n l, [], σ.h⟩ Q) : TriL Y cs σ Q := by
  match cs, hc, h with
  | c :: r, _, h => exact tri_sees hn hl h

theorem triL_view {n : Nat} {slots : List Nat} {cs : List Code} {Q : Out → St → Prop} {vs : List V} {h : Heap} (hc : cs ≠ []) (hn : σ.env.length = n) (hv : slots.map (fun i => lv i σ) = vs) (hh : σ.h = h)
    (ht : TriL Y cs ⟨mk n (slots.zip vs), [], h⟩ Q) : TriL Y cs σ Q := by
  match cs, hc, ht with
  | c :: r, _, ht => exact tri_view hn hv hh ht

theorem triL_loop {n : Nat} {slots : List Nat} {id : Nat} {b : Code} {r : List Code} {Q : Out → St → Prop} (hc : r ≠ []) (I : Nat → List V → Heap → Prop) (m0 : Nat) (hn : σ.env.length = n)
    (h0 : I m0 (slots.map fun i => lv i σ) σ.h)
    (round : ∀ m vs h, I m vs h → TriL Y [b] ⟨mk n (slots.zip vs), [], h⟩ (VQ slots (RoundV Y n slots I m id r Q))) : TriL Y (.block id (.loop b) :: r) σ Q := by
  refine triL_block (tri_loop (fun m τ => τ.env.length = n ∧ I m (slots.map fun i => lv i τ) τ.h) (n := m0) ⟨hn, h0⟩ ?_)
  rintro m τ ⟨hτ, hI⟩
  refine (tri_view hτ rfl rfl (round m _ _ hI)).mono ?_
  intro o σ' ho
  cases o with
  | normal => obtain ⟨h1, m', h2, h3⟩ := ho; exact ⟨m', h2, h1, h3⟩
  | exit j =>
    have ho : RoundV Y n slots I m id r Q (.exit j) _ _ _ := ho
    simp only [RoundV] at ho
    by_cases hj : j = id
    · rw [if_pos hj] at ho
      simp only [if_pos hj]
      exact triL_view hc ho.1 rfl rfl ho.2
    · rw [if_neg hj] at ho
      simp only [if_neg hj]
      exact ho σ' rfl rfl rfl
  | ret => exact ho σ' rfl rfl rfl

def flat : Code → List Code
  | .seq a b => flat a ++ flat b
  | .scope a => flat a
  | c => [c]

def hasLoop : Code → Bool
  | .seq a b => hasLoop a || hasLoop b
  | .cond _ a b => hasLoop a || hasLoop b
  | .block _ b => hasLoop b
  | .scope b => hasLoop b
  | .loop _ => true
  | _ => false

def pre : List Code → List Code
  | [] => []
  | c :: r => if hasLoop c then [] else c :: pre r
def post : List Code → List Code
  | [] => []
  | c :: r => if hasLoop c then c :: r else post r

theorem triL_append : ∀ {l m : List Code} {σ : St} {Q : Out → St → Prop}, TriL Y l σ (fun o σ' => match o with
    | .normal => TriL Y m σ' Q
    | .exit i => Q (.exit i) σ'
    | .ret => Q .ret σ') → TriL Y (l ++ m) σ Q
  | [], _, _, _, h => h
  | c :: r, m, σ, Q, h => by
    refine Tri.mono h ?_
    intro o σ' ho
    cases o with
    | normal => exact triL_append (l := r) ho
    | exit i => exact ho
    | ret => exact ho

theorem triL_of_append : ∀ {l m : List Code} {σ : St} {Q : Out → St → Prop}, TriL Y (l ++ m) σ Q → TriL Y l σ (fun o σ' => match o with
    | .normal => TriL Y m σ' Q
    | .exit i => Q (.exit i) σ'
    | .ret => Q .ret σ')
  | [], _, _, _, h => h
  | c :: r, m, σ, Q, h => by
    refine Tri.mono h ?_
    intro o σ' ho
    cases o with
    | normal => exact triL_of_append (l := r) ho
    | exit i => exact ho
    | ret => exact ho

theorem triL_flat : ∀ {c : Code} {r : List Code} {σ : St} {Q : Out → St → Prop}, TriL Y (flat c ++ r) σ Q → TriL Y (c :: r) σ Q
  | .seq a b, r, σ, Q, h => by
    simp only [flat, List.append_assoc] at h
    have h1 := triL_flat (c := a) h
    refine triL_cons (tri_seq (Tri.mono h1 ?_))
    intro o σ' ho
    cases o with
    | normal => exact triL_flat (c := b) ho
    | exit i => exact ho
    | ret => exact ho
  | .scope a, r, σ, Q, h => by
    simp only [flat] at h
    exact triL_cons (tri_scope (triL_flat (c := a) h))
  | .skip, _, _, _, h | .region _ _ _, _, _, _, h | .cond _ _ _, _, _, _, h | .block _ _, _, _, _, h | .loop _, _, _, _, h | .rangeFunc _ _ _ _, _, _, _, h
  | .exit _, _, _, _, h | .label _, _, _, _, h | .goto _, _, _, _, h | .ret, _, _, _, h | .refuse _, _, _, _, h => h

theorem pre_post : ∀ l : List Code, pre l ++ post l = l
  | [] => rfl
  | c :: r => by
    simp only [pre, post]
    split
    · rfl
    · simp [pre_post r]

def PreV (Y : YP) (n : Nat) (slots : List Nat) (r : List Code) (Q : Out → St → Prop) (o : Out) (len : Nat) (vs : List V) (h : Heap) : Prop :=
  match o with
  | .normal => len = n ∧ TriL Y r ⟨mk n (slots.zip vs), [], h⟩ Q
  | o => AtV slots Q o len vs h

theorem triL_pre (hY : YOK Y) {loc : Nat → Bool} {fuel n : Nat} {slots : List Nat} {l : List Code} {Q : Out → St → Prop} (hc : post l ≠ [])
    (h : codeP Y loc fuel (pre l) σ (VQ slots (PreV Y n slots (post l) Q))) : TriL Y l σ Q := by
  rw [← pre_post l]
  refine triL_append ((codeP_ok hY _ _ _ _ h).mono ?_)
  intro o σ' ho
  cases o with
  | normal => exact triL_view hc ho.1 rfl rfl ho.2
  | exit i => exact ho σ' rfl rfl rfl
  | ret => exact ho σ' rfl rfl rfl

theorem triL_all (hY : YOK Y) {loc : Nat → Bool} {fuel : Nat} {slots : List Nat} {l : List Code} {Q : Out → St → Prop} (h : codeP Y loc fuel l σ (VQ slots (AtV slots Q))) : TriL Y l σ Q :=
  (codeP_ok hY _ _ _ _ h).mono fun _ σ' ho => ho σ' rfl rfl rfl

def bodyOf (fn : Func) : Code := fn.body.getD .skip

theorem con_of (hY : YOK Y) {f : FuncId} {fn : Func} (hf : Y.P.funcs[f]? = some fn) (hb : fn.body.isSome = true) {args : List V} {h : Heap} {Q : V → Heap → Prop}
    (ht : TriL Y (flat (bodyOf fn)) ⟨args ++ List.replicate (fn.ntmps - args.length) .undef, [], h⟩ fun o σ => (o = .normal ∨ o = .ret) ∧ ∃ v, resultsY Y fn σ = some v ∧ Q v σ.h) : Con Y f args h Q := by
  obtain ⟨body, hb⟩ := Option.isSome_iff_exists.1 hb
  have e : bodyOf fn = body := by simp [bodyOf, hb]
  rw [e] at ht
  refine ⟨⟨fn, body, hf, hb⟩, callTr_of hY hf hb ?_⟩
  have h1 := triL_flat (c := body) (r := []) (by simpa using ht)
  refine Tri.mono h1 ?_
  intro o σ' ho
  cases o <;> exact ho
end
end Go.Y

/- Lists that a function builds by append. -/
namespace Go.Y

def IsL (h : Heap) (k : Nat) (a : Option (Nat × Nat)) (l : Nat) (c : Option Nat) (kk : Nat) (cs : List V) : Prop :=
  l * k = cs.length ∧ ((a = none ∧ l = 0 ∧ cs = []) ∨ ∃ id, a = some (id, 0) ∧ c = none ∧ kk = k ∧ id < h.nx ∧ h.get id = some (.arr cs true))

def Fr (h : Heap) (a : Option (Nat × Nat)) (h' : Heap) : Prop := h.nx ≤ h'.nx ∧ ∀ j, j < h.nx → (∀ o, a ≠ some (j, o)) → h'.get j = h.get j

theorem Fr.refl (h : Heap) (a : Option (Nat × Nat)) : Fr h a h := ⟨Nat.le_refl _, fun _ _ _ => rfl⟩

theorem Fr.push {h h' : Heap} {a : Option (Nat × Nat)} {o : YObj} (f : Fr (h.push o) a h') : Fr h a h' := by
  refine ⟨by have := f.1; simp at this; omega, fun j hj ha => ?_⟩
  rw [f.2 j (by simp; omega) ha, Heap.get_push, if_neg (by omega)]

theorem Fr.pushT {h h' : Heap} {a : Option (Nat × Nat)} {t : Option TypeId} {o : YObj} (f : Fr (h.pushT t o) a h') : Fr h a h' := by
  refine ⟨by have := f.1; simp at this; omega, fun j hj ha => ?_⟩
  rw [f.2 j (by simp; omega) ha, Heap.get_pushT, if_neg (by omega)]

theorem IsL.nil (h : Heap) (k : Nat) (c : Option Nat) (kk : Nat) : IsL h k none 0 c kk [] := ⟨by simp, .inl ⟨rfl, rfl, rfl⟩⟩

theorem IsL.frame {h h' : Heap} {k : Nat} {a b : Option (Nat × Nat)} {l : Nat} {c : Option Nat} {kk : Nat} {cs : List V} (hl : IsL h k a l c kk cs) (f : Fr h b h') (hne : ∀ j o, a = some (j, o) → ∀ o', b ≠ some (j, o')) : IsL h' k a l c kk cs := by
  refine ⟨hl.1, ?_⟩
  rcases hl.2 with h1 | ⟨id, rfl, h2, h3, h4, h5⟩
  · exact .inl h1
  · refine .inr ⟨id, rfl, h2, h3, by have := f.1; omega, ?_⟩
    rw [f.2 id h4 (hne id 0 rfl), h5]

theorem takeX_all (l : List V) : takeX l.length l = some l := by
  induction l with
  | nil => rfl
  | cons v l ih => simp [takeX, ih]

theorem takeX_len {l : List V} {n : Nat} (h : n = l.length) : takeX n l = some l := by subst h; exact takeX_all l

theorem append_law {Y : YP} {h : Heap} {k : Nat} {a : Option (Nat × Nat)} {l : Nat} {c : Option Nat} {kk : Nat} {cs new : List V} {st e : TypeId} {te : TI} {m : Nat}
    (hk : Y.kd st = some (.slice e)) (hte : Y.ty e = some te) (hs : te.size = k) (hk0 : k ≠ 0) (hl : IsL h k a l c kk cs) (hm : m ≠ 0) (hn : m * k = new.length) (hc : allCells new = true)
    (hb : (l + m) * te.bytes ≤ most) (hb' : l + m ≤ most) :
    ∃ a' l' c' k' h', appendH Y (h.push (.arr new true)) st st (.sl a l c kk) (.sl (some (h.nx, 0)) m (some m) k) = some (.sl a' l' c' k', h') ∧
      IsL h' k a' l' c' k' (cs ++ new) ∧ Fr h a h' ∧ l' = l + m ∧ ∃ j, a' = some (j, 0) ∧ h.nx ≤ j := by
  have hsrc : source Y ⟨[], [], h.push (.arr new true)⟩ te st (.sl (some (h.nx, 0)) m (some m) k) = some (m, new) := by
    simp only [source, hk, elems, elemsS, hs, if_true, cellsAt, Heap.get_push, List.drop_zero]
    rw [takeX_len hn]; rfl
  have hg : ¬ ((!allCells new || decide (te.size = 0)) = true) := by simp [hc, hs, hk0]
  rcases hl.2 with ⟨rfl, rfl, rfl⟩ | ⟨id, rfl, rfl, rfl, hid, hget⟩
  · refine ⟨some (h.nx + 1, 0), m, none, k, (h.push (.arr new true)).pushT (Y.tag e) (.arr new true), ?_, ⟨by simpa using hn, .inr ⟨h.nx + 1, rfl, rfl, rfl, by simp, by simp [Heap.get_push]⟩⟩, ?_, by simp, h.nx + 1, rfl, by omega⟩
    · simp only [appendH, appendY, hk, hte, hsrc, hg, if_false, hm]
      have h1 : m * te.bytes ≤ most := by simpa using hb
      have h2 : m ≤ most := by simpa using hb'
      simp [h1, h2, hs]
    · exact ((Fr.refl _ _).pushT).push
  · have hlen := hl.1
    refine ⟨some (h.nx + 1, 0), l + m, none, kk, (((h.push (.arr new true)).set id none).pushT (if 0 = 0 ∧ (h.push (.arr new true)).tagOf id = some e then some e else none) (.arr (cs ++ new) true)), ?_, ⟨by rw [Nat.add_mul, hlen, hn, List.length_append], .inr ⟨h.nx + 1, rfl, rfl, rfl, by simp, by simp [Heap.get_push]⟩⟩, ?_, rfl, h.nx + 1, rfl, by omega⟩
    · have hgt : (h.push (.arr new true)).get id = some (.arr cs true) := by rw [Heap.get_push, if_neg (by omega), hget]
      have hb1 : ¬ ((l + m) * te.bytes > most ∨ l + m > most) := by omega
      have hne : ¬ (0 + (l + m) * kk ≤ cs.length) := by
        rw [← hlen, Nat.add_mul]
        have : 0 < m * kk := Nat.mul_pos (by omega) (by omega)
        omega
      have htk : takeX (l * kk) (cs.drop 0) = some cs := by rw [List.drop_zero]; exact takeX_len hlen
      simp only [appendH, appendY, hk, hte, hsrc, hg, if_false, hm, hs, ne_eq, not_true_eq_false, hb1, hgt, hne, Bool.true_or, if_true, htk]
      rw [if_neg (by simp [hc, hk0])]
      rfl
    · refine ⟨by simp; omega, fun j hj ha => ?_⟩
      have hji : j ≠ id := fun he => by subst he; exact ha 0 rfl
      rw [Heap.get_pushT, if_neg (by simp; omega), Heap.get_set, if_neg hji, Heap.get_push, if_neg (by omega)]
end Go.Y

/- Rows of elements of equal size. -/
namespace Go.Y

theorem takeX_eq_take {n : Nat} {l : List V} (h : n ≤ l.length) : takeX n l = some (l.take n) := by
  induction n generalizing l with
  | zero => simp [takeX]
  | succ n ih =>
    cases l with
    | nil => simp at h
    | cons v l => simp only [takeX, List.take_succ_cons]; rw [ih (by simpa using h)]; rfl

def row {α : Type} (f : α → List V) (l : List α) : List V := (l.map f).flatten

theorem row_length {α : Type} {f : α → List V} {k : Nat} (hk : ∀ x, (f x).length = k) (l : List α) : (row f l).length = l.length * k := by
  induction l with
  | nil => simp [row]
  | cons x l ih =>
    have : row f (x :: l) = f x ++ row f l := by simp [row]
    rw [this, List.length_append, hk, ih, List.length_cons, Nat.add_mul]; omega

theorem row_drop {α : Type} {f : α → List V} {k : Nat} (hk : ∀ x, (f x).length = k) : ∀ (l : List α) (i : Nat), (row f l).drop (i * k) = row f (l.drop i)
  | [], i => by simp [row]
  | x :: l, 0 => by simp
  | x :: l, i + 1 => by
    have h : row f (x :: l) = f x ++ row f l := by simp [row]
    rw [h, List.drop_succ_cons, ← row_drop hk l i, Nat.add_mul, Nat.one_mul, Nat.add_comm, ← List.drop_drop]
    congr 1
    rw [← hk x]; simp

theorem row_get {α : Type} {f : α → List V} {k : Nat} (hk : ∀ x, (f x).length = k) {l : List α} {i : Nat} (hi : i < l.length) : takeX k ((row f l).drop (i * k)) = some (f l[i]) := by
  rw [row_drop hk]
  have : l.drop i = l[i] :: l.drop (i + 1) := List.drop_eq_getElem_cons hi
  rw [this]
  have h2 : ∀ (x : α) (m : List α), row f (x :: m) = f x ++ row f m := fun x m => by simp [row]
  rw [h2, takeX_eq_take (by simp [hk])]
  congr 1
  rw [← hk l[i]]; simp

theorem row_append {α : Type} {f : α → List V} (l m : List α) : row f (l ++ m) = row f l ++ row f m := by simp [row]
end Go.Y

/- Functions by contracts: what they hand back; lists. -/
namespace Go.Y

def lookV : List (Nat × V) → Nat → Option V
  | [], _ => none
  | (s, v) :: r, t => if s = t then some v else lookV r t

def resV1 (Y : YP) (l : List (Nat × V)) : ResultVar → Option V
  | .tmp t => match (lookV l t).map V.plain with
    | none | some .undef => none
    | some v => some v
  | .cell a t => match Y.ty t, lookV l a with
    | some ti, some (.lb cs) => (takeX ti.size cs).bind (ofCells ti.kd.agg)
    | _, _ => none

def resVs (Y : YP) (l : List (Nat × V)) : List ResultVar → Option (List V)
  | [] => some []
  | r :: rs => match resV1 Y l r, resVs Y l rs with
    | some v, some vs => some (v :: vs)
    | _, _ => none

def resV (Y : YP) (fn : Func) (l : List (Nat × V)) : Option V :=
  match resVs Y l fn.results.toList with
  | some [v] => some v
  | some vs => some (.tup vs)
  | none => none

theorem lookV_ok {σ : St} : ∀ {slots : List Nat} {t : Nat} {v : V}, lookV (slots.zip (slots.map fun i => lv i σ)) t = some v → lv t σ = v
  | [], t, v, h => by simp [lookV] at h
  | s :: r, t, v, h => by
    simp only [List.map_cons, List.zip_cons_cons, lookV] at h
    split at h
    · rename_i he; subst he; simpa using h
    · exact lookV_ok h

theorem resV1_ok {Y : YP} {σ : St} {slots : List Nat} {r : ResultVar} {v : V} (h : resV1 Y (slots.zip (slots.map fun i => lv i σ)) r = some v) : resultY Y σ r = some v := by
  cases r with
  | tmp t =>
    simp only [resV1] at h
    cases hl : lookV (slots.zip (slots.map fun i => lv i σ)) t with
    | none => rw [hl] at h; cases h
    | some x =>
      rw [hl] at h
      have hx : σ.env.getD t .undef = x := lookV_ok hl
      simp only [resultY, ev, hx]
      simp only [Option.map_some] at h
      split at h
      · cases h
      · cases h
      · rename_i w hw1 hw2
        simp only [Option.some.injEq] at hw2 h
        subst h hw2
        split
        · rename_i h3; exact absurd (by rw [h3]) hw1
        · rfl
  | cell a t =>
    simp only [resV1] at h
    split at h
    · rename_i ti cs hti hl
      have hx : σ.env.getD a .undef = .lb cs := lookV_ok hl
      simp only [resultY, hti, addr, hx]
      simp only [cellsAt, hx, List.drop_zero]
      exact h
    · cases h

theorem resVs_ok {Y : YP} {σ : St} {slots : List Nat} : ∀ {rs : List ResultVar} {vs : List V}, resVs Y (slots.zip (slots.map fun i => lv i σ)) rs = some vs → resultYs Y σ rs = some vs
  | [], vs, h => by simpa [resVs, resultYs] using h
  | r :: rs, vs, h => by
    simp only [resVs] at h
    split at h
    · rename_i v vs' h1 h2
      simp only [resultYs, resV1_ok h1, resVs_ok h2]
      exact h
    · cases h

def Fin (Y : YP) (fn : Func) (slots : List Nat) (P : V → Heap → Prop) (o : Out) (_ : Nat) (vs : List V) (h : Heap) : Prop :=
  (o = .normal ∨ o = .ret) ∧ ∃ v, resV Y fn (slots.zip vs) = some v ∧ P v h

def FinS (Y : YP) (fn : Func) (P : V → Heap → Prop) (o : Out) (σ : St) : Prop := (o = .normal ∨ o = .ret) ∧ ∃ v, resultsY Y fn σ = some v ∧ P v σ.h

theorem fin_ok {Y : YP} {fn : Func} {slots : List Nat} {P : V → Heap → Prop} {o : Out} {n : Nat} {vs : List V} {h : Heap} (f : Fin Y fn slots P o n vs h) : AtV slots (FinS Y fn P) o n vs h := by
  rintro τ _ rfl rfl
  obtain ⟨h1, v, h2, h3⟩ := f
  refine ⟨h1, v, ?_, h3⟩
  unfold resV at h2
  unfold resultsY
  split at h2
  · rename_i x hx
    rw [resVs_ok hx]; exact h2
  · rename_i vs hne hx
    rw [resVs_ok hx]
    simp only [Option.some.injEq] at h2
    subst h2
    split
    · rename_i y hy; simp only [Option.some.injEq] at hy; exact absurd hy (hne y)
    · rename_i hy; simp only [Option.some.injEq] at hy; rw [hy]
    · rename_i hy; cases hy
  · cases h2

theorem pcon_of {Y : YP} (hY : YOK Y) {f : FuncId} {fn : Func} (hf : Y.P.funcs[f]? = some fn) (hb : fn.body.isSome = true) {args : List V} (hc : coldAll args = true) {P : V → Prop}
    (ht : TriL Y (flat (bodyOf fn)) ⟨args ++ List.replicate (fn.ntmps - args.length) .undef, [], .empty⟩ (FinS Y fn fun v h => ∃ r, Frz h v r ∧ P r)) : PCon Y f args P := by
  have c := con_of hY hf hb (Q := fun v h => ∃ r, Frz h v r ∧ P r) ht
  exact ⟨c.body, PTr.of (coldAll_cold hc) c.tr fun v h hq => hq⟩

theorem finV1 {Y : YP} {fn : Func} {slots : List Nat} {o : Out} {n : Nat} {vs : List V} {h : Heap} {v1 r1 R : V} (ho : o = .normal ∨ o = .ret) (hv : resV Y fn (slots.zip vs) = some v1) (h1 : Frz h v1 r1) (hr : r1 = R) :
    Fin Y fn slots (fun v h => ∃ r, Frz h v r ∧ r = R) o n vs h := ⟨ho, _, hv, _, h1, hr⟩
theorem finV2 {Y : YP} {fn : Func} {slots : List Nat} {o : Out} {n : Nat} {vs : List V} {h : Heap} {v1 v2 r1 r2 R : V} (ho : o = .normal ∨ o = .ret) (hv : resV Y fn (slots.zip vs) = some (.tup [v1, v2])) (h1 : Frz h v1 r1) (h2 : Frz h v2 r2) (hr : .tup [r1, r2] = R) :
    Fin Y fn slots (fun v h => ∃ r, Frz h v r ∧ r = R) o n vs h := ⟨ho, _, hv, _, .tup _ _ (.cons _ _ _ _ h1 (.cons _ _ _ _ h2 .nil)), hr⟩
theorem fin1 {Y : YP} {fn : Func} {slots : List Nat} {o : Out} {n : Nat} {vs : List V} {h : Heap} {v1 r1 R : V} (ho : o = .normal ∨ o = .ret) (hv : resV Y fn (slots.zip vs) = some v1) (h1 : Frz h v1 r1) (hr : r1 = R) :
    AtV slots (FinS Y fn fun v h => ∃ r, Frz h v r ∧ r = R) o n vs h := fin_ok ⟨ho, _, hv, _, h1, hr⟩
theorem fin2 {Y : YP} {fn : Func} {slots : List Nat} {o : Out} {n : Nat} {vs : List V} {h : Heap} {v1 v2 r1 r2 R : V} (ho : o = .normal ∨ o = .ret) (hv : resV Y fn (slots.zip vs) = some (.tup [v1, v2])) (h1 : Frz h v1 r1) (h2 : Frz h v2 r2) (hr : .tup [r1, r2] = R) :
    AtV slots (FinS Y fn fun v h => ∃ r, Frz h v r ∧ r = R) o n vs h := fin_ok ⟨ho, _, hv, _, .tup _ _ (.cons _ _ _ _ h1 (.cons _ _ _ _ h2 .nil)), hr⟩
theorem fin3 {Y : YP} {fn : Func} {slots : List Nat} {o : Out} {n : Nat} {vs : List V} {h : Heap} {v1 v2 v3 r1 r2 r3 R : V} (ho : o = .normal ∨ o = .ret) (hv : resV Y fn (slots.zip vs) = some (.tup [v1, v2, v3])) (h1 : Frz h v1 r1) (h2 : Frz h v2 r2) (h3 : Frz h v3 r3) (hr : .tup [r1, r2, r3] = R) :
    AtV slots (FinS Y fn fun v h => ∃ r, Frz h v r ∧ r = R) o n vs h := fin_ok ⟨ho, _, hv, _, .tup _ _ (.cons _ _ _ _ h1 (.cons _ _ _ _ h2 (.cons _ _ _ _ h3 .nil))), hr⟩

theorem ltI_pos (t : Nat) : ltI 0 (t : Int) = decide (0 < t) := by simp [ltI]
theorem ltI_nat (a b : Nat) : ltI (a : Int) (b : Int) = decide (a < b) := by simp [ltI]
theorem if_dec {c : Prop} [Decidable c] {p q : Prop} (h : c → p) (g : ¬ c → q) : If (decide c) p q := if_mk (fun hc => h (by simpa using hc)) (fun hc => g (by simpa using hc))
theorem if_pos_nat {t : Nat} {p q : Prop} (h : 0 < t → p) (g : t = 0 → q) : If (ltI 0 (t : Int)) p q := if_mk (fun hc => h (by simpa [ltI] using hc)) (fun hc => g (by simp [ltI] at hc; omega))
theorem if_lt_nat {a b : Nat} {p q : Prop} (h : a < b → p) (g : b ≤ a → q) : If (ltI (a : Int) (b : Int)) p q := if_mk (fun hc => h (by simpa [ltI] using hc)) (fun hc => g (by simp [ltI] at hc; omega))
theorem if_lt {a b : Int} {p q : Prop} (h : a < b → p) (g : b ≤ a → q) : If (ltI a b) p q := if_mk (fun hc => h (by simpa [ltI] using hc)) (fun hc => g (by simpa [ltI] using hc))
theorem if_le {a b : Int} {p q : Prop} (h : a ≤ b → p) (g : b < a → q) : If (leI a b) p q := if_mk (fun hc => h (by simpa [leI] using hc)) (fun hc => g (by simpa [leI] using hc))

def loopId : List Code → Nat
  | .block id (.loop _) :: _ => id
  | _ => 0
def loopB : List Code → Code
  | .block _ (.loop b) :: _ => b
  | _ => .skip
def isLoop : List Code → Bool
  | .block _ (.loop _) :: _ :: _ => true
  | _ => false

theorem isLoop_eq {l : List Code} (h : isLoop l = true) : l = .block (loopId l) (.loop (loopB l)) :: l.drop 1 ∧ l.drop 1 ≠ [] := by
  unfold isLoop at h
  split at h
  · exact ⟨rfl, by simp⟩
  · cases h

theorem pre_rule {Y : YP} (hY : YOK Y) {loc : Nat → Bool} (fuel : Nat) {n : Nat} (slots : List Nat) {σ : St} {l : List Code} {Q : Out → St → Prop} (hc : (post l).isEmpty = false)
    (h : codeP Y loc fuel (pre l) σ (VQ slots (PreV Y n slots (post l) Q))) : TriL Y l σ Q :=
  triL_pre hY (fun e => by rw [e] at hc; cases hc) h

theorem round_exit {Y : YP} {n : Nat} {slots : List Nat} {I : Nat → List V → Heap → Prop} {m id j : Nat} {r : List Code} {Q : Out → St → Prop} {len : Nat} {vs : List V} {h : Heap} (hj : j = id) (hn : len = n)
    (ht : TriL Y r ⟨mk n (slots.zip vs), [], h⟩ Q) : RoundV Y n slots I m id r Q (.exit j) len vs h := by
  simp only [RoundV]
  rw [if_pos hj]
  exact ⟨hn, ht⟩

theorem loop_rule {Y : YP} {n : Nat} (slots : List Nat) {σ : St} {l : List Code} {Q : Out → St → Prop} (hl : isLoop l = true) (I : Nat → List V → Heap → Prop) (m0 : Nat) (hn : σ.env.length = n)
    (h0 : I m0 (slots.map fun i => lv i σ) σ.h)
    (round : ∀ m vs h, I m vs h → TriL Y (flat (loopB l)) ⟨mk n (slots.zip vs), [], h⟩ (VQ slots (RoundV Y n slots I m (loopId l) (l.drop 1) Q))) : TriL Y l σ Q := by
  obtain ⟨h1, h2⟩ := isLoop_eq hl
  rw [h1]
  refine triL_loop h2 I m0 hn h0 fun m vs h hi => ?_
  have := round m vs h hi
  exact triL_flat (c := loopB l) (r := []) (by simpa using this)

theorem at_view {slots : List Nat} {K : Out → Nat → List V → Heap → Prop} {slots' : List Nat} {o : Out} {n : Nat} {vs : List V} {h : Heap}
    (hk : ∀ τ : St, τ.env.length = n → (slots'.map fun i => lv i τ) = vs → τ.h = h → K o n (slots.map fun i => lv i τ) h) : AtV slots' (VQ slots K) o n vs h := by
  intro τ h1 h2 h3
  have := hk τ h1 h2 h3
  unfold VQ
  rw [h1, h3]
  exact this

theorem at_same {slots : List Nat} {K : Out → Nat → List V → Heap → Prop} {o : Out} {n : Nat} {vs : List V} {h : Heap} (hk : K o n vs h) : AtV slots (VQ slots K) o n vs h :=
  at_view fun τ _ h2 _ => by rw [h2]; exact hk

def blockId : List Code → Nat
  | .block id _ :: _ => id
  | _ => 0
def blockB : List Code → Code
  | .block _ b :: _ => b
  | _ => .skip
def isBlock : List Code → Bool
  | .block _ _ :: _ :: _ => true
  | _ => false

theorem isBlock_eq {l : List Code} (h : isBlock l = true) : l = .block (blockId l) (blockB l) :: l.drop 1 ∧ l.drop 1 ≠ [] := by
  unfold isBlock at h
  split at h
  · exact ⟨rfl, by simp⟩
  · cases h

def ContV (Y : YP) (n : Nat) (slots : List Nat) (id : Nat) (r : List Code) (Q : Out → St → Prop) (o : Out) (len : Nat) (vs : List V) (h : Heap) : Prop :=
  match o with
  | .normal => len = n ∧ TriL Y r ⟨mk n (slots.zip vs), [], h⟩ Q
  | .exit j => if j = id then len = n ∧ TriL Y r ⟨mk n (slots.zip vs), [], h⟩ Q else AtV slots Q (.exit j) len vs h
  | .ret => AtV slots Q .ret len vs h

theorem block_rule {Y : YP} {n : Nat} (slots : List Nat) {σ : St} {l : List Code} {Q : Out → St → Prop} (hl : isBlock l = true)
    (h : TriL Y (flat (blockB l)) σ (VQ slots (ContV Y n slots (blockId l) (l.drop 1) Q))) : TriL Y l σ Q := by
  obtain ⟨h1, h2⟩ := isBlock_eq hl
  rw [h1]
  have h3 := triL_flat (c := blockB l) (r := []) (by rw [List.append_nil]; exact h)
  refine triL_block (Tri.mono h3 ?_)
  intro o σ' ho
  cases o with
  | normal => exact triL_view h2 ho.1 rfl rfl ho.2
  | ret => exact ho σ' rfl rfl rfl
  | exit j =>
    have ho : ContV Y n slots (blockId l) (l.drop 1) Q (.exit j) _ _ _ := ho
    simp only [ContV] at ho
    by_cases hj : j = blockId l
    · rw [if_pos hj] at ho
      simp only [if_pos hj]
      exact triL_view h2 ho.1 rfl rfl ho.2
    · rw [if_neg hj] at ho
      simp only [if_neg hj]
      exact ho σ' rfl rfl rfl

theorem cont_exit {Y : YP} {n : Nat} {slots : List Nat} {id j : Nat} {r : List Code} {Q : Out → St → Prop} {len : Nat} {vs : List V} {h : Heap} (hj : j = id) (hn : len = n)
    (ht : TriL Y r ⟨mk n (slots.zip vs), [], h⟩ Q) : ContV Y n slots id r Q (.exit j) len vs h := by
  simp only [ContV]
  rw [if_pos hj]
  exact ⟨hn, ht⟩

def LastV (id : Nat) (K : Out → Nat → List V → Heap → Prop) (o : Out) (n : Nat) (vs : List V) (h : Heap) : Prop :=
  match o with
  | .exit j => if j = id then K .normal n vs h else K (.exit j) n vs h
  | o => K o n vs h

def isLast : List Code → Bool
  | [.block _ _] => true
  | _ => false

theorem last_rule {Y : YP} {slots : List Nat} {σ : St} {l : List Code} {K : Out → Nat → List V → Heap → Prop} (hl : isLast l = true)
    (h : TriL Y (flat (blockB l)) σ (VQ slots (LastV (blockId l) K))) : TriL Y l σ (VQ slots K) := by
  unfold isLast at hl
  split at hl
  · rename_i id b
    have h3 := triL_flat (c := b) (r := []) (by rw [List.append_nil]; exact h)
    refine triL_block (Tri.mono h3 ?_)
    intro o σ' ho
    cases o with
    | normal => exact ho
    | ret => exact ho
    | exit j =>
      have ho : LastV id K (.exit j) _ _ _ := ho
      simp only [LastV] at ho
      by_cases hj : j = id
      · rw [if_pos hj] at ho; simp only [if_pos hj]; exact ho
      · rw [if_neg hj] at ho; simp only [if_neg hj]; exact ho
  · cases hl

def condT : List Code → Code
  | .cond _ a _ :: _ => a
  | _ => .skip
def condF : List Code → Code
  | .cond _ _ b :: _ => b
  | _ => .skip
def condX : List Code → Operand
  | .cond x _ _ :: _ => x
  | _ => .tmp 0
def isCond : List Code → Bool
  | [.cond _ _ _] => true
  | _ => false

theorem cond_rule {Y : YP} {σ : St} {l : List Code} {Q : Out → St → Prop} (hl : isCond l = true) {b : Bool} (hx : ev σ.env (condX l) = .b b) (h : TriL Y (flat (if b then condT l else condF l)) σ Q) : TriL Y l σ Q := by
  unfold isCond at hl
  split at hl
  · rename_i x p q
    have h3 := triL_flat (c := if b then p else q) (r := []) (by rw [List.append_nil]; exact h)
    exact triL_cons (tri_cond hx (Tri.mono h3 fun o σ' ho => by cases o <;> exact ho))
  · cases hl

theorem at_prefix {slots more : List Nat} {K : Out → Nat → List V → Heap → Prop} {o : Out} {n : Nat} {vs1 vs2 : List V} {h : Heap} (hlen : vs1.length = slots.length) (hk : K o n vs1 h) : AtV (slots ++ more) (VQ slots K) o n (vs1 ++ vs2) h := by
  refine at_view fun τ _ h2 _ => ?_
  rw [List.map_append] at h2
  have := List.append_inj_left h2 (by simp [hlen])
  rw [this]; exact hk

theorem all_rule {Y : YP} (hY : YOK Y) {loc : Nat → Bool} (fuel : Nat) (slots : List Nat) {σ : St} {l : List Code} {K : Out → Nat → List V → Heap → Prop} (h : codeP Y loc fuel l σ (VQ slots K)) : TriL Y l σ (VQ slots K) := codeP_ok hY _ _ _ _ h

theorem end_rule {Y : YP} (hY : YOK Y) {loc : Nat → Bool} (fuel : Nat) (slots : List Nat) {σ : St} {l : List Code} {fn : Func} {P : V → Heap → Prop} (h : codeP Y loc fuel l σ (VQ slots (Fin Y fn slots P))) : TriL Y l σ (FinS Y fn P) :=
  (codeP_ok hY _ _ _ _ h).mono fun _ σ' ho => fin_ok ho σ' rfl rfl rfl

theorem mk_len {n : Nat} {l : List (Nat × V)} : (mk n l).length = n := mk_length n l

abbrev lst {α : Type} (f : α → List V) (l : List α) : V := .ts (row f l) l.length none

theorem frz_nil {α : Type} (f : α → List V) (h : Heap) (c : Option Nat) (k : Nat) : Frz h (.sl none 0 c k) (lst f []) := .sln _ _ _ (fun x hx => by cases hx)

theorem coldCells : ∀ {l : List V}, colds1 l = true → ∀ (h : Heap), FrzL h l l := fun hc h => colds1_ok h hc

theorem frzL_row {α : Type} {f : α → List V} (hf : ∀ x, colds1 (f x) = true) (h : Heap) : ∀ l : List α, FrzL h (row f l) (row f l)
  | [] => .nil
  | x :: l => by
    have e : row f (x :: l) = f x ++ row f l := by simp [row]
    rw [e]
    exact (coldCells (hf x) h).append (frzL_row hf h l)

theorem frz_isL {α : Type} {f : α → List V} (hf : ∀ x, colds1 (f x) = true) {h : Heap} {k : Nat} (hk : k ≠ 0) (hfl : ∀ x, (f x).length = k) {a : Option (Nat × Nat)} {l : Nat} {c : Option Nat} {kk : Nat} {xs : List α} (hl : IsL h k a l c kk (row f xs)) :
    Frz h (.sl a l c kk) (lst f xs) := by
  have hlen : l = xs.length := by
    have := hl.1
    rw [row_length hfl] at this
    exact Nat.eq_of_mul_eq_mul_right (Nat.pos_of_ne_zero hk) this
  subst hlen
  rcases hl.2 with ⟨rfl, h0, h1⟩ | ⟨id, rfl, rfl, rfl, h3, h4⟩
  · unfold lst
    rw [h1, h0]
    exact .sln _ _ _ (fun x hx => by cases hx)
  · exact .sl _ _ _ _ _ _ _ _ _ _ h4 (by rw [List.drop_zero, ← row_length hfl xs]; exact takeX_all _) (fun x hx => by cases hx) hk (frzL_row hf h xs)

theorem append_ts {Y : YP} {h : Heap} {k : Nat} {a : Option (Nat × Nat)} {l : Nat} {c : Option Nat} {kk : Nat} {cs new : List V} {st e : TypeId} {te : TI} {m : Nat} {cap : Option Nat}
    (hk : Y.kd st = some (.slice e)) (hte : Y.ty e = some te) (hs : te.size = k) (hk0 : k ≠ 0) (hl : IsL h k a l c kk cs) (hm : m ≠ 0) (hn : takeX (m * k) new = some new) (hc : allCells new = true)
    (hb : (l + m) * te.bytes ≤ most) (hb' : l + m ≤ most) :
    ∃ a' l' c' k' h', appendH Y h st st (.sl a l c kk) (.ts new m cap) = some (.sl a' l' c' k', h') ∧ IsL h' k a' l' c' k' (cs ++ new) ∧ Fr h a h' ∧ l' = l + m ∧ ∃ j, a' = some (j, 0) ∧ h.nx ≤ j := by
  have hnl := takeX_length hn
  have hsrc : source Y ⟨[], [], h⟩ te st (.ts new m cap) = some (m, new) := by
    simp only [source, hk, elems, elemsS, hs, hn]; rfl
  rcases hl.2 with ⟨rfl, rfl, rfl⟩ | ⟨id, rfl, rfl, rfl, hid, hget⟩
  · refine ⟨some (h.nx, 0), m, none, k, h.pushT (Y.tag e) (.arr new true), ?_, ⟨by simp [hnl], .inr ⟨h.nx, rfl, rfl, rfl, by simp, by simp⟩⟩, (Fr.refl _ _).pushT, by simp, h.nx, rfl, Nat.le_refl _⟩
    have h1 : m * te.bytes ≤ most := by simpa using hb
    have h2 : m ≤ most := by simpa using hb'
    simp [appendH, appendY, hk, hte, hsrc, hc, hm, h1, h2, hs, hk0]
  · have hlen := hl.1
    refine ⟨some (h.nx, 0), l + m, none, kk, ((h.set id none).pushT (if 0 = 0 ∧ h.tagOf id = some e then some e else none) (.arr (cs ++ new) true)), ?_, ⟨by rw [Nat.add_mul, hlen, ← hnl, List.length_append], .inr ⟨h.nx, rfl, rfl, rfl, by simp, by simp [Heap.get_push]⟩⟩, ?_, rfl, h.nx, rfl, Nat.le_refl _⟩
    · have hb1 : ¬ ((l + m) * te.bytes > most ∨ l + m > most) := by omega
      have hne : ¬ (0 + (l + m) * kk ≤ cs.length) := by
        rw [← hlen, Nat.add_mul]
        have : 0 < m * kk := Nat.mul_pos (by omega) (by omega)
        omega
      have htk : takeX (l * kk) (cs.drop 0) = some cs := by rw [List.drop_zero]; exact takeX_len hlen
      simp only [appendH, appendY, hk, hte, hsrc, if_false, hm, hs, ne_eq, not_true_eq_false, hb1, hget, hne, Bool.true_or, if_true, htk]
      rw [if_neg (by simp [hc, hk0])]
    · refine ⟨by simp, fun j hj ha => ?_⟩
      have hji : j ≠ id := fun he => by subst he; exact ha 0 rfl
      rw [Heap.get_pushT, if_neg (by simp; omega), Heap.get_set, if_neg hji]
end Go.Y
