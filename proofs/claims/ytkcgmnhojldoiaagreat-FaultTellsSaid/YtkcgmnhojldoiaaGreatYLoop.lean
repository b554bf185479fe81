/- Loops by what lies in the slots that live on. -/
import Derived.Test.YtkcgmnhojldoiaaGreatYSym
namespace Go.Y
set_option maxRecDepth 1000000
set_option maxHeartbeats 0
abbrev KT := Out → Nat → List V → Heap → Prop
section
variable {Y : YP} {W : Vw} {σ : St} {a : Act} {w : World}

def lv (n : Nat) (σ : St) : V := σ.env.getD n .undef

def mk (n : Nat) (l : List (Nat × V)) : List V := l.foldl (fun e p => e.set p.1 p.2) (List.replicate n .undef)

theorem Zm6 : ∀ (l : List (Nat × V)) (e : List V), (l.foldl (fun e p => e.set p.1 p.2) e).length = e.length ∧
  ∀ t v, (l.foldl (fun e p => e.set p.1 p.2) e)[t]? = some v → e[t]? = some v ∨ (t, v) ∈ l
 | [], e => ⟨rfl, fun _ _ h => .inl h⟩
 | p :: l, e => by
  obtain ⟨h1, h2⟩ := Zm6 l (e.set p.1 p.2)
  refine ⟨by simpa using h1, fun t v h => ?_⟩
  rcases h2 t v h with h | h
  ·rw [XH] at h
   split at h
   ·rename_i he
    split at h
    ·simp at h; subst h; subst he; exact .inr (by simp)
    ·cases h
   ·exact .inl h
  ·exact .inr (List.mem_cons_of_mem _ h)

theorem Zbz (n : Nat) (l : List (Nat × V)) : (mk n l).length = n := by simpa [mk] using (Zm6 l (List.replicate n .undef)).1
theorem Zr2 {n : Nat} {l : List (Nat × V)} {t : Nat} {v : V} (h : (mk n l)[t]? = some v) : v = .undef ∨ (t, v) ∈ l := by
 rcases (Zm6 l (List.replicate n .undef)).2 t v h with h | h
 ·simp [List.getElem?_replicate] at h
  exact .inl h.2.symm
 ·exact .inr h

theorem Rel.fewer (h : Rel W σ a w) {σ2 : St} (hh : σ2.h = σ.h) (hl : σ2.env.length = σ.env.length) (hr : σ2.refs = []) (he : ∀ (t : Nat) (v : V), σ2.env[t]? = some v → v = V.undef ∨ σ.env[t]? = some v) :
  Rel W σ2 a w ∧ ∀ b, mine W σ2 a b → mine W σ a b := by
 have hbox : ∀ t b, Ja σ2 a t b → Ja σ a t b := by
  rintro t b ⟨⟨cs, h1⟩, h2⟩
  rcases he t _ h1 with h3 | h3
  ·cases h3
  ·exact ⟨⟨cs, h3⟩, h2⟩
 refine ⟨⟨hh ▸ h.heap, by rw [hl]; exact h.size, fun t v ht => ?_, fun t t' b h1 h2 => h.box t t' b (hbox _ _ h1) (hbox _ _ h2), fun _ _ _ hm => by simp [hr] at hm, h.defers⟩, ?_⟩
 ·rcases he t v ht with rfl | h3
  ·have hlt : t < a.tmps.size := by
    rw [h.size, ← hl]
    exact (List.getElem?_eq_some_iff.1 ht).1
   exact ⟨a.tmps[t], by simp [hlt], .undef _⟩
  ·exact h.env t v h3
 ·rintro b (h1 | ⟨t, h1⟩ | h1)
  ·exact .inl h1
  ·exact .inr (.inl ⟨t, hbox _ _ h1⟩)
  ·exact .inr (.inr h1)

theorem Zp0 {n : Nat} {l : List (Nat × V)} {c : Code} {Q : Out → St → Prop} (hn : σ.env.length = n) (hl : ∀ p ∈ l, lv p.1 σ = p.2) (h : Tri Y c ⟨mk n l, [], σ.h⟩ Q) : Tri Y c σ Q := by
 intro W a w W0 own0 w0 hr hs
 have hf := hr.fewer (σ2 := ⟨mk n l, [], σ.h⟩) rfl (by simp [Zbz, hn]) rfl (fun t v ht => by
  rcases Zr2 ht with rfl | hm
  ·exact .inl rfl
  ·have := hl _ hm
   simp only [lv, List.getD] at this
   cases hg : σ.env[t]? with
   | none => rw [hg] at this; exact .inl this.symm
   | some x => rw [hg] at this; simp at this; rw [this]; exact .inr rfl)
 exact h W a w W0 own0 w0 hf.1 (hs.weaken hf.2)

def VQ (slots : List Nat) (K : KT) : Out → St → Prop := fun o σ => K o σ.env.length (slots.map fun i => lv i σ) σ.h

theorem Zev {n : Nat} {slots : List Nat} {c : Code} {Q : Out → St → Prop} {vs : List V} {h : Heap} (hn : σ.env.length = n) (hv : slots.map (fun i => lv i σ) = vs) (hh : σ.h = h)
  (ht : Tri Y c ⟨mk n (slots.zip vs), [], h⟩ Q) : Tri Y c σ Q := by
 subst hh hv
 refine Zp0 hn (fun p hp => ?_) ht
 have key : ∀ l : List Nat, l.zip (l.map fun i => lv i σ) = l.map fun i => (i, lv i σ) := by
  intro l
  induction l with
  | nil => rfl
  | cons x l ih => simp [ih]
 rw [key] at hp
 simp only [List.mem_map] at hp
 obtain ⟨i, _, rfl⟩ := hp
 rfl

def AtV (slots : List Nat) (Q : Out → St → Prop) (o : Out) (len : Nat) (vs : List V) (h : Heap) : Prop :=
 ∀ τ : St, τ.env.length = len → (slots.map fun i => lv i τ) = vs → τ.h = h → Q o τ

def ZEu (Y : YP) (n : Nat) (slots : List Nat) (I : Nat → List V → Heap → Prop) (m id : Nat) (r : List Code) (Q : Out → St → Prop) (o : Out) (len : Nat) (vs : List V) (h : Heap) : Prop :=
 match o with
 | .normal => len = n ∧ ∃ m', m' < m ∧ I m' vs h
 | .exit j => if j = id then len = n ∧ TriL Y r ⟨mk n (slots.zip vs), [], h⟩ Q else AtV slots Q (.exit j) len vs h
 | .ret => AtV slots Q .ret len vs h

theorem JC {n : Nat} {slots : List Nat} {cs : List Code} {Q : Out → St → Prop} {vs : List V} {h : Heap} (hc : cs ≠ []) (hn : σ.env.length = n) (hv : slots.map (fun i => lv i σ) = vs) (hh : σ.h = h)
  (ht : TriL Y cs ⟨mk n (slots.zip vs), [], h⟩ Q) : TriL Y cs σ Q := by
 match cs, hc, ht with
 | c :: r, _, ht => exact Zev hn hv hh ht

/-! ### Code, cut at its loops -/
def flat : Code → List Code
 | .seq a b => flat a ++ flat b
 | .scope a => flat a
 | c => [c]

def Wp : Code → Bool
 | .seq a b => Wp a || Wp b
 | .cond _ a b => Wp a || Wp b
 | .block _ b => Wp b
 | .scope b => Wp b
 | .loop _ => true
 | _ => false

def pre : List Code → List Code
 | [] => []
 | c :: r => if Wp c then [] else c :: pre r
def post : List Code → List Code
 | [] => []
 | c :: r => if Wp c then c :: r else post r

theorem Vf : ∀ {l m : List Code} {σ : St} {Q : Out → St → Prop}, TriL Y l σ (fun o σ' => match o with
  | .normal => TriL Y m σ' Q
  | .exit i => Q (.exit i) σ'
  | .ret => Q .ret σ') → TriL Y (l ++ m) σ Q
 | [], _, _, _, h => h
 | c :: r, m, σ, Q, h => by
  refine Tri.mono h ?_
  intro o σ' ho
  cases o with
  | normal => exact Vf (l := r) ho
  | exit i => exact ho
  | ret => exact ho

theorem QN : ∀ {c : Code} {r : List Code} {σ : St} {Q : Out → St → Prop}, TriL Y (flat c ++ r) σ Q → TriL Y (c :: r) σ Q
 | .seq a b, r, σ, Q, h => by
  simp only [flat, List.append_assoc] at h
  have h1 := QN (c := a) h
  refine Xs (Zhr (Tri.mono h1 ?_))
  intro o σ' ho
  cases o with
  | normal => exact QN (c := b) ho
  | exit i => exact ho
  | ret => exact ho
 | .scope a, r, σ, Q, h => by
  simp only [flat] at h
  exact Xs (Zbk (QN (c := a) h))
 | .skip, _, _, _, h | .region _ _ _, _, _, _, h | .cond _ _ _, _, _, _, h | .block _ _, _, _, _, h | .loop _, _, _, _, h | .rangeFunc _ _ _ _, _, _, _, h
 | .exit _, _, _, _, h | .label _, _, _, _, h | .goto _, _, _, _, h | .ret, _, _, _, h | .refuse _, _, _, _, h => h

theorem Zjn : ∀ l : List Code, pre l ++ post l = l
 | [] => rfl
 | c :: r => by
  simp only [pre, post]
  split
  ·rfl
  ·simp [Zjn r]

def PreV (Y : YP) (n : Nat) (slots : List Nat) (r : List Code) (Q : Out → St → Prop) (o : Out) (len : Nat) (vs : List V) (h : Heap) : Prop :=
 match o with
 | .normal => len = n ∧ TriL Y r ⟨mk n (slots.zip vs), [], h⟩ Q
 | o => AtV slots Q o len vs h

theorem Zp1 (hY : YOK Y) {loc : Nat → Bool} {fuel n : Nat} {slots : List Nat} {l : List Code} {Q : Out → St → Prop} (hc : post l ≠ [])
  (h : Zc Y loc fuel (pre l) σ (VQ slots (PreV Y n slots (post l) Q))) : TriL Y l σ Q := by
 rw [← Zjn l]
 refine Vf ((Vx hY _ _ _ _ h).mono ?_)
 intro o σ' ho
 cases o with
 | normal => exact JC hc ho.1 rfl rfl ho.2
 | exit i => exact ho σ' rfl rfl rfl
 | ret => exact ho σ' rfl rfl rfl

def Za (fn : Func) : Code := fn.body.getD .skip

theorem Zr3 (hY : YOK Y) {f : FuncId} {fn : Func} (hf : Y.P.funcs[f]? = some fn) (hb : fn.body.isSome = true) {args : List V} {h : Heap} {Q : V → Heap → Prop}
  (ht : TriL Y (flat (Za fn)) ⟨args ++ List.replicate (fn.ntmps - args.length) .undef, [], h⟩ fun o σ => (o = .normal ∨ o = .ret) ∧ ∃ v, XJ Y fn σ = some v ∧ Q v σ.h) : Con Y f args h Q := by
 obtain ⟨body, hb⟩ := Option.isSome_iff_exists.1 hb
 have e : Za fn = body := by simp [Za, hb]
 rw [e] at ht
 refine ⟨⟨fn, body, hf, hb⟩, Zfx hY hf hb ?_⟩
 have h1 := QN (c := body) (r := []) (by simpa using ht)
 refine Tri.mono h1 ?_
 intro o σ' ho
 cases o <;> exact ho
end
def IsL (h : Heap) (k : Nat) (a : Option (Nat × Nat)) (l : Nat) (c : Option Nat) (kk : Nat) (cs : List V) : Prop :=
 l * k = cs.length ∧ ((a = none ∧ l = 0 ∧ cs = []) ∨ ∃ id, a = some (id, 0) ∧ c = none ∧ kk = k ∧ id < h.nx ∧ h.get id = some (.arr cs true))

def Fr (h : Heap) (a : Option (Nat × Nat)) (h' : Heap) : Prop := h.nx ≤ h'.nx ∧ ∀ j, j < h.nx → (∀ o, a ≠ some (j, o)) → h'.get j = h.get j

theorem Fr.refl (h : Heap) (a : Option (Nat × Nat)) : Fr h a h := ⟨Nat.le_refl _, fun _ _ _ => rfl⟩

theorem Fr.pushT {h h' : Heap} {a : Option (Nat × Nat)} {t : Option TypeId} {o : YObj} (f : Fr (h.pushT t o) a h') : Fr h a h' := by
 refine ⟨by have := f.1; simp at this; omega, fun j hj ha => ?_⟩
 rw [f.2 j (by simp; omega) ha, Heap.get_pushT, if_neg (by omega)]

theorem IsL.nil (h : Heap) (k : Nat) (c : Option Nat) (kk : Nat) : IsL h k none 0 c kk [] := ⟨by simp, .inl ⟨rfl, rfl, rfl⟩⟩

theorem Vy (l : List V) : Zh l.length l = some l := by
 induction l with
 | nil => rfl
 | cons v l ih => simp [Zh, ih]

theorem Wq {l : List V} {n : Nat} (h : n = l.length) : Zh n l = some l := by subst h; exact Vy l
theorem Zew {n : Nat} {l : List V} (h : n ≤ l.length) : Zh n l = some (l.take n) := by
 induction n generalizing l with
 | zero => simp [Zh]
 | succ n ih =>
  cases l with
  | nil => simp at h
  | cons v l => simp only [Zh, List.take_succ_cons]; rw [ih (by simpa using h)]; rfl

def row {α : Type} (f : α → List V) (l : List α) : List V := (l.map f).flatten

theorem Zkr {α : Type} {f : α → List V} {k : Nat} (hk : ∀ x, (f x).length = k) (l : List α) : (row f l).length = l.length * k := by
 induction l with
 | nil => simp [row]
 | cons x l ih =>
  have : row f (x :: l) = f x ++ row f l := by simp [row]
  rw [this, List.length_append, hk, ih, List.length_cons, Nat.add_mul]; omega

theorem Zex {α : Type} {f : α → List V} {k : Nat} (hk : ∀ x, (f x).length = k) : ∀ (l : List α) (i : Nat), (row f l).drop (i * k) = row f (l.drop i)
 | [], i => by simp [row]
 | x :: l, 0 => by simp
 | x :: l, i + 1 => by
  have h : row f (x :: l) = f x ++ row f l := by simp [row]
  rw [h, List.drop_succ_cons, ← Zex hk l i, Nat.add_mul, Nat.one_mul, Nat.add_comm, ← List.drop_drop]
  congr 1
  rw [← hk x]; simp

theorem Zr {α : Type} {f : α → List V} {k : Nat} (hk : ∀ x, (f x).length = k) {l : List α} {i : Nat} (hi : i < l.length) : Zh k ((row f l).drop (i * k)) = some (f l[i]) := by
 rw [Zex hk]
 have : l.drop i = l[i] :: l.drop (i + 1) := List.drop_eq_getElem_cons hi
 rw [this]
 have h2 : ∀ (x : α) (m : List α), row f (x :: m) = f x ++ row f m := fun x m => by simp [row]
 rw [h2, Zew (by simp [hk])]
 congr 1
 rw [← hk l[i]]; simp

theorem QE {α : Type} {f : α → List V} (l m : List α) : row f (l ++ m) = row f l ++ row f m := by simp [row]
/-! ### What is handed back, by the slots that live on -/
def Zb0 : List (Nat × V) → Nat → Option V
 | [], _ => none
 | (s, v) :: r, t => if s = t then some v else Zb0 r t

def Zp2 (Y : YP) (l : List (Nat × V)) : ResultVar → Option V
 | .tmp t => match (Zb0 l t).map V.plain with
  | none | some .undef => none
  | some v => some v
 | .cell a t => match Y.ty t, Zb0 l a with
  | some ti, some (.lb cs) => (Zh ti.size cs).bind (QH ti.kd.agg)
  | _, _ => none

def Zm7 (Y : YP) (l : List (Nat × V)) : List ResultVar → Option (List V)
 | [] => some []
 | r :: rs => match Zp2 Y l r, Zm7 Y l rs with
  | some v, some vs => some (v :: vs)
  | _, _ => none

def resV (Y : YP) (fn : Func) (l : List (Nat × V)) : Option V :=
 match Zm7 Y l fn.results.toList with
 | some [v] => some v
 | some vs => some (.tup vs)
 | none => none

theorem Za7 {σ : St} : ∀ {slots : List Nat} {t : Nat} {v : V}, Zb0 (slots.zip (slots.map fun i => lv i σ)) t = some v → lv t σ = v
 | [], t, v, h => by simp [Zb0] at h
 | s :: r, t, v, h => by
  simp only [List.map_cons, List.zip_cons_cons, Zb0] at h
  split at h
  ·rename_i he; subst he; simpa using h
  ·exact Za7 h

theorem Zp3 {Y : YP} {σ : St} {slots : List Nat} {r : ResultVar} {v : V} (h : Zp2 Y (slots.zip (slots.map fun i => lv i σ)) r = some v) : Wg Y σ r = some v := by
 cases r with
 | tmp t =>
  simp only [Zp2] at h
  cases hl : Zb0 (slots.zip (slots.map fun i => lv i σ)) t with
  | none => rw [hl] at h; cases h
  | some x =>
   rw [hl] at h
   have hx : σ.env.getD t .undef = x := Za7 hl
   simp only [Wg, ev, hx]
   simp only [Option.map_some] at h
   split at h
   ·cases h
   ·cases h
   ·rename_i w hw1 hw2
    simp only [Option.some.injEq] at hw2 h
    subst h hw2
    split
    ·rename_i h3; exact absurd (by rw [h3]) hw1
    ·rfl
 | cell a t =>
  simp only [Zp2] at h
  split at h
  ·rename_i ti cs hti hl
   have hx : σ.env.getD a .undef = .lb cs := Za7 hl
   simp only [Wg, hti, addr, hx]
   simp only [Xc, hx, List.drop_zero]
   exact h
  ·cases h

theorem Zey {Y : YP} {σ : St} {slots : List Nat} : ∀ {rs : List ResultVar} {vs : List V}, Zm7 Y (slots.zip (slots.map fun i => lv i σ)) rs = some vs → Qi Y σ rs = some vs
 | [], vs, h => by simpa [Zm7, Qi] using h
 | r :: rs, vs, h => by
  simp only [Zm7] at h
  split at h
  ·rename_i v vs' h1 h2
   simp only [Qi, Zp3 h1, Zey h2]
   exact h
  ·cases h

def Fin (Y : YP) (fn : Func) (slots : List Nat) (P : V → Heap → Prop) (o : Out) (_ : Nat) (vs : List V) (h : Heap) : Prop :=
 (o = .normal ∨ o = .ret) ∧ ∃ v, resV Y fn (slots.zip vs) = some v ∧ P v h

def FinS (Y : YP) (fn : Func) (P : V → Heap → Prop) (o : Out) (σ : St) : Prop := (o = .normal ∨ o = .ret) ∧ ∃ v, XJ Y fn σ = some v ∧ P v σ.h

theorem Zm8 {Y : YP} {fn : Func} {slots : List Nat} {P : V → Heap → Prop} {o : Out} {n : Nat} {vs : List V} {h : Heap} (f : Fin Y fn slots P o n vs h) : AtV slots (FinS Y fn P) o n vs h := by
 rintro τ _ rfl rfl
 obtain ⟨h1, v, h2, h3⟩ := f
 refine ⟨h1, v, ?_, h3⟩
 unfold resV at h2
 unfold XJ
 split at h2
 ·rename_i x hx
  rw [Zey hx]; exact h2
 ·rename_i vs hne hx
  rw [Zey hx]
  simp only [Option.some.injEq] at h2
  subst h2
  split
  ·rename_i y hy; simp only [Option.some.injEq] at hy; exact absurd hy (hne y)
  ·rename_i hy; simp only [Option.some.injEq] at hy; rw [hy]
  ·rename_i hy; cases hy
 ·cases h2

theorem Zt {Y : YP} (hY : YOK Y) {f : FuncId} {fn : Func} (hf : Y.P.funcs[f]? = some fn) (hb : fn.body.isSome = true) {args : List V} (hc : ZJ args = true) {P : V → Prop}
  (ht : TriL Y (flat (Za fn)) ⟨args ++ List.replicate (fn.ntmps - args.length) .undef, [], .empty⟩ (FinS Y fn fun v h => ∃ r, Frz h v r ∧ P r)) : PCon Y f args P := by
 have c := Zr3 hY hf hb (Q := fun v h => ∃ r, Frz h v r ∧ P r) ht
 exact ⟨c.body, PTr.of (Xn hc) c.tr fun v h hq => hq⟩

theorem Zs {Y : YP} {fn : Func} {slots : List Nat} {o : Out} {n : Nat} {vs : List V} {h : Heap} {v1 r1 R : V} (ho : o = .normal ∨ o = .ret) (hv : resV Y fn (slots.zip vs) = some v1) (h1 : Frz h v1 r1) (hr : r1 = R) :
  Fin Y fn slots (fun v h => ∃ r, Frz h v r ∧ r = R) o n vs h := ⟨ho, _, hv, _, h1, hr⟩
theorem Zh8 {Y : YP} {fn : Func} {slots : List Nat} {o : Out} {n : Nat} {vs : List V} {h : Heap} {v1 v2 r1 r2 R : V} (ho : o = .normal ∨ o = .ret) (hv : resV Y fn (slots.zip vs) = some (.tup [v1, v2])) (h1 : Frz h v1 r1) (h2 : Frz h v2 r2) (hr : .tup [r1, r2] = R) :
  Fin Y fn slots (fun v h => ∃ r, Frz h v r ∧ r = R) o n vs h := ⟨ho, _, hv, _, .tup _ _ (.cons _ _ _ _ h1 (.cons _ _ _ _ h2 .nil)), hr⟩
theorem fin3 {Y : YP} {fn : Func} {slots : List Nat} {o : Out} {n : Nat} {vs : List V} {h : Heap} {v1 v2 v3 r1 r2 r3 R : V} (ho : o = .normal ∨ o = .ret) (hv : resV Y fn (slots.zip vs) = some (.tup [v1, v2, v3])) (h1 : Frz h v1 r1) (h2 : Frz h v2 r2) (h3 : Frz h v3 r3) (hr : .tup [r1, r2, r3] = R) :
  AtV slots (FinS Y fn fun v h => ∃ r, Frz h v r ∧ r = R) o n vs h := Zm8 ⟨ho, _, hv, _, .tup _ _ (.cons _ _ _ _ h1 (.cons _ _ _ _ h2 (.cons _ _ _ _ h3 .nil))), hr⟩

theorem Zsw (t : Nat) : ltI 0 (t : Int) = decide (0 < t) := by simp [ltI]
theorem JY {c : Prop} [Decidable c] {p q : Prop} (h : c → p) (g : ¬ c → q) : If (decide c) p q := Zd (fun hc => h (by simpa using hc)) (fun hc => g (by simpa using hc))
theorem QF {t : Nat} {p q : Prop} (h : 0 < t → p) (g : t = 0 → q) : If (ltI 0 (t : Int)) p q := Zd (fun hc => h (by simpa [ltI] using hc)) (fun hc => g (by simp [ltI] at hc; omega))
theorem Zg {a b : Nat} {p q : Prop} (h : a < b → p) (g : b ≤ a → q) : If (ltI (a : Int) (b : Int)) p q := Zd (fun hc => h (by simpa [ltI] using hc)) (fun hc => g (by simp [ltI] at hc; omega))
theorem Zw {a b : Int} {p q : Prop} (h : a < b → p) (g : b ≤ a → q) : If (ltI a b) p q := Zd (fun hc => h (by simpa [ltI] using hc)) (fun hc => g (by simpa [ltI] using hc))
theorem Qz {a b : Int} {p q : Prop} (h : a ≤ b → p) (g : b < a → q) : If (leI a b) p q := Zd (fun hc => h (by simpa [leI] using hc)) (fun hc => g (by simpa [leI] using hc))

/-! ### Code, cut -/
def Xi : List Code → Nat
 | .block id (.loop _) :: _ => id
 | _ => 0
def Zv : List Code → Code
 | .block _ (.loop b) :: _ => b
 | _ => .skip
def Zm9 : List Code → Bool
 | .block _ (.loop _) :: _ :: _ => true
 | _ => false

theorem Zna {l : List Code} (h : Zm9 l = true) : l = .block (Xi l) (.loop (Zv l)) :: l.drop 1 ∧ l.drop 1 ≠ [] := by
 unfold Zm9 at h
 split at h
 ·exact ⟨rfl, by simp⟩
 ·cases h

theorem ZH {Y : YP} (hY : YOK Y) {loc : Nat → Bool} (fuel : Nat) {n : Nat} (slots : List Nat) {σ : St} {l : List Code} {Q : Out → St → Prop} (hc : (post l).isEmpty = false)
  (h : Zc Y loc fuel (pre l) σ (VQ slots (PreV Y n slots (post l) Q))) : TriL Y l σ Q :=
 Zp1 hY (fun e => by rw [e] at hc; cases hc) h

def Qs : List Code → Nat
 | .block id _ :: _ => id
 | _ => 0
def Xx : List Code → Code
 | .block _ b :: _ => b
 | _ => .skip
def Zh9 : List Code → Bool
 | .block _ _ :: _ :: _ => true
 | _ => false

theorem Zks {l : List Code} (h : Zh9 l = true) : l = .block (Qs l) (Xx l) :: l.drop 1 ∧ l.drop 1 ≠ [] := by
 unfold Zh9 at h
 split at h
 ·exact ⟨rfl, by simp⟩
 ·cases h

def ZE4 (Y : YP) (n : Nat) (slots : List Nat) (id : Nat) (r : List Code) (Q : Out → St → Prop) (o : Out) (len : Nat) (vs : List V) (h : Heap) : Prop :=
 match o with
 | .normal => len = n ∧ TriL Y r ⟨mk n (slots.zip vs), [], h⟩ Q
 | .exit j => if j = id then len = n ∧ TriL Y r ⟨mk n (slots.zip vs), [], h⟩ Q else AtV slots Q (.exit j) len vs h
 | .ret => AtV slots Q .ret len vs h

def ZE5 (id : Nat) (K : KT) (o : Out) (n : Nat) (vs : List V) (h : Heap) : Prop :=
 match o with
 | .exit j => if j = id then K .normal n vs h else K (.exit j) n vs h
 | o => K o n vs h

def ZEv : List Code → Bool
 | [.block _ _] => true
 | _ => false

def ZE6 : List Code → Code
 | .cond _ a _ :: _ => a
 | _ => .skip
def ZE7 : List Code → Code
 | .cond _ _ b :: _ => b
 | _ => .skip
def ZE8 : List Code → Operand
 | .cond x _ _ :: _ => x
 | _ => .tmp 0
def ZEw : List Code → Bool
 | [.cond _ _ _] => true
 | _ => false

theorem ZI {Y : YP} (hY : YOK Y) {loc : Nat → Bool} (fuel : Nat) (slots : List Nat) {σ : St} {l : List Code} {K : KT} (h : Zc Y loc fuel l σ (VQ slots K)) : TriL Y l σ (VQ slots K) := Vx hY _ _ _ _ h

theorem Zm {Y : YP} (hY : YOK Y) {loc : Nat → Bool} (fuel : Nat) (slots : List Nat) {σ : St} {l : List Code} {fn : Func} {P : V → Heap → Prop} (h : Zc Y loc fuel l σ (VQ slots (Fin Y fn slots P))) : TriL Y l σ (FinS Y fn P) :=
 (Vx hY _ _ _ _ h).mono fun _ σ' ho => Zm8 ho σ' rfl rfl rfl

theorem Zu {n : Nat} {l : List (Nat × V)} : (mk n l).length = n := Zbz n l

/-! ### Lists -/
abbrev lst {α : Type} (f : α → List V) (l : List α) : V := .ts (row f l) l.length none

theorem Zab {α : Type} (f : α → List V) (h : Heap) (c : Option Nat) (k : Nat) : Frz h (.sl none 0 c k) (lst f []) := .sln _ _ _ (fun x hx => by cases hx)

theorem Znb : ∀ {l : List V}, Xr l = true → ∀ (h : Heap), FrzL h l l := fun hc h => QL h hc

theorem Zjo {α : Type} {f : α → List V} (hf : ∀ x, Xr (f x) = true) (h : Heap) : ∀ l : List α, FrzL h (row f l) (row f l)
 | [] => .nil
 | x :: l => by
  have e : row f (x :: l) = f x ++ row f l := by simp [row]
  rw [e]
  exact (Znb (hf x) h).append (Zjo hf h l)

theorem Znc {Y : YP} {h : Heap} {k : Nat} {a : Option (Nat × Nat)} {l : Nat} {c : Option Nat} {kk : Nat} {cs new : List V} {st e : TypeId} {te : TI} {m : Nat} {cap : Option Nat}
  (hk : Y.kd st = some (.slice e)) (hte : Y.ty e = some te) (hs : te.size = k) (hk0 : k ≠ 0) (hl : IsL h k a l c kk cs) (hm : m ≠ 0) (hn : Zh (m * k) new = some new) (hc : Zx new = true)
  (hb : (l + m) * te.bytes ≤ most) (hb' : l + m ≤ most) :
  ∃ a' l' c' k' h', Zk Y h st st (.sl a l c kk) (.ts new m cap) = some (.sl a' l' c' k', h') ∧ IsL h' k a' l' c' k' (cs ++ new) ∧ Fr h a h' ∧ l' = l + m ∧ ∃ j, a' = some (j, 0) ∧ h.nx ≤ j := by
 have hnl := Wj hn
 have hsrc : Qb Y ⟨[], [], h⟩ te st (.ts new m cap) = some (m, new) := by
  simp only [Qb, hk, elems, Qa, hs, hn]; rfl
 rcases hl.2 with ⟨rfl, rfl, rfl⟩ | ⟨id, rfl, rfl, rfl, hid, hget⟩
 ·refine ⟨some (h.nx, 0), m, none, k, h.pushT (Y.tag e) (.arr new true), ?_, ⟨by simp [hnl], .inr ⟨h.nx, rfl, rfl, rfl, by simp, by simp⟩⟩, (Fr.refl _ _).pushT, by simp, h.nx, rfl, Nat.le_refl _⟩
  have h1 : m * te.bytes ≤ most := by simpa using hb
  have h2 : m ≤ most := by simpa using hb'
  simp [Zk, ZP, hk, hte, hsrc, hc, hm, h1, h2, hs, hk0]
 ·have hlen := hl.1
  refine ⟨some (h.nx, 0), l + m, none, kk, ((h.set id none).pushT (if 0 = 0 ∧ h.tagOf id = some e then some e else none) (.arr (cs ++ new) true)), ?_, ⟨by rw [Nat.add_mul, hlen, ← hnl, List.length_append], .inr ⟨h.nx, rfl, rfl, rfl, by simp, by simp [Heap.get_push]⟩⟩, ?_, rfl, h.nx, rfl, Nat.le_refl _⟩
  ·have hb1 : ¬ ((l + m) * te.bytes > most ∨ l + m > most) := by omega
   have hne : ¬ (0 + (l + m) * kk ≤ cs.length) := by
    rw [← hlen, Nat.add_mul]
    have : 0 < m * kk := Nat.mul_pos (by omega) (by omega)
    omega
   have htk : Zh (l * kk) (cs.drop 0) = some cs := by rw [List.drop_zero]; exact Wq hlen
   simp only [Zk, ZP, hk, hte, hsrc, if_false, hm, hs, ne_eq, not_true_eq_false, hb1, hget, hne, Bool.true_or, if_true, htk]
   rw [if_neg (by simp [hc, hk0])]
  ·refine ⟨by simp, fun j hj ha => ?_⟩
   have hji : j ≠ id := fun he => by subst he; exact ha 0 rfl
   rw [Heap.get_pushT, if_neg (by simp; omega), Heap.get_set, if_neg hji]
end Go.Y
