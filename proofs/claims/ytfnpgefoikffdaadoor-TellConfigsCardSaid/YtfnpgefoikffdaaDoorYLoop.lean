/- Loops by what lies in the slots that live on. -/
import Derived.Test.YtfnpgefoikffdaaDoorYSym
namespace Go.Y
section
variable {Y : YP} {W : Vw} {σ : St} {a : Act} {w : World}

def lv (n : Nat) (σ : St) : V := σ.env.getD n .undef

/-- Slots, all others left open. -/
def mk (n : Nat) (l : List (Nat × V)) : List V := l.foldl (fun e p => e.set p.1 p.2) (List.replicate n .undef)

theorem mk_aux : ∀ (l : List (Nat × V)) (e : List V), (l.foldl (fun e p => e.set p.1 p.2) e).length = e.length ∧
    ∀ t v, (l.foldl (fun e p => e.set p.1 p.2) e)[t]? = some v → e[t]? = some v ∨ (t, v) ∈ l
  | [], e => ⟨rfl, fun _ _ h => .inl h⟩
  | p :: l, e => by
    obtain ⟨h1, h2⟩ := mk_aux l (e.set p.1 p.2)
    refine ⟨by simpa using h1, fun t v h => ?_⟩
    rcases h2 t v h with h | h
    · rw [set_env] at h
      split at h
      · rename_i he
        split at h
        · simp at h; subst h; subst he; exact .inr (by simp)
        · cases h
      · exact .inl h
    · exact .inr (List.mem_cons_of_mem _ h)

theorem mk_length (n : Nat) (l : List (Nat × V)) : (mk n l).length = n := by simpa [mk] using (mk_aux l (List.replicate n .undef)).1
theorem mk_get {n : Nat} {l : List (Nat × V)} {t : Nat} {v : V} (h : (mk n l)[t]? = some v) : v = .undef ∨ (t, v) ∈ l := by
  rcases (mk_aux l (List.replicate n .undef)).2 t v h with h | h
  · simp [List.getElem?_replicate] at h
    exact .inl h.2.symm
  · exact .inr h

theorem Rel.fewer (h : Rel W σ a w) {σ2 : St} (hh : σ2.h = σ.h) (hl : σ2.env.length = σ.env.length) (hr : σ2.refs = []) (he : ∀ (t : Nat) (v : V), σ2.env[t]? = some v → v = V.undef ∨ σ.env[t]? = some v) :
    Rel W σ2 a w ∧ ∀ b, mine W σ2 a b → mine W σ a b := by
  have hbox : ∀ t b, boxAt σ2 a t b → boxAt σ a t b := by
    rintro t b ⟨⟨cs, h1⟩, h2⟩
    rcases he t _ h1 with h3 | h3
    · cases h3
    · exact ⟨⟨cs, h3⟩, h2⟩
  refine ⟨⟨hh ▸ h.heap, by rw [hl]; exact h.size, fun t v ht => ?_, fun t t' b h1 h2 => h.box t t' b (hbox _ _ h1) (hbox _ _ h2), fun _ _ _ hm => by simp [hr] at hm, h.defers⟩, ?_⟩
  · rcases he t v ht with rfl | h3
    · have hlt : t < a.tmps.size := by
        rw [h.size, ← hl]
        exact (List.getElem?_eq_some_iff.1 ht).1
      exact ⟨a.tmps[t], by simp [hlt], .undef _⟩
    · exact h.env t v h3
  · rintro b (h1 | ⟨t, h1⟩ | h1)
    · exact .inl h1
    · exact .inr (.inl ⟨t, hbox _ _ h1⟩)
    · exact .inr (.inr h1)

/-- What is not looked at any more is left open. -/
theorem tri_sees {n : Nat} {l : List (Nat × V)} {c : Code} {Q : Out → St → Prop} (hn : σ.env.length = n) (hl : ∀ p ∈ l, lv p.1 σ = p.2) (h : Tri Y c ⟨mk n l, [], σ.h⟩ Q) : Tri Y c σ Q := by
  intro W a w W0 own0 w0 hr hs
  have hf := hr.fewer (σ2 := ⟨mk n l, [], σ.h⟩) rfl (by simp [mk_length, hn]) rfl (fun t v ht => by
    rcases mk_get ht with rfl | hm
    · exact .inl rfl
    · have := hl _ hm
      simp only [lv, List.getD] at this
      cases hg : σ.env[t]? with
      | none => rw [hg] at this; exact .inl this.symm
      | some x => rw [hg] at this; simp at this; rw [this]; exact .inr rfl)
  exact h W a w W0 own0 w0 hf.1 (hs.weaken hf.2)

/-- A state, by the slots that live on. -/
def VQ (slots : List Nat) (K : Out → Nat → List V → Heap → Prop) : Out → St → Prop := fun o σ => K o σ.env.length (slots.map fun i => lv i σ) σ.h

theorem tri_view {n : Nat} {slots : List Nat} {c : Code} {Q : Out → St → Prop} {vs : List V} {h : Heap} (hn : σ.env.length = n) (hv : slots.map (fun i => lv i σ) = vs) (hh : σ.h = h)
    (ht : Tri Y c ⟨mk n (slots.zip vs), [], h⟩ Q) : Tri Y c σ Q := by
  subst hh hv
  refine tri_sees hn (fun p hp => ?_) ht
  have key : ∀ l : List Nat, l.zip (l.map fun i => lv i σ) = l.map fun i => (i, lv i σ) := by
    intro l
    induction l with
    | nil => rfl
    | cons x l ih => simp [ih]
  rw [key] at hp
  simp only [List.mem_map] at hp
  obtain ⟨i, _, rfl⟩ := hp
  rfl

/-- From every state that shows these. -/
def AtV (slots : List Nat) (Q : Out → St → Prop) (o : Out) (len : Nat) (vs : List V) (h : Heap) : Prop :=
  ∀ τ : St, τ.env.length = len → (slots.map fun i => lv i τ) = vs → τ.h = h → Q o τ

/-- What a round of a loop comes to. -/
def RoundV (Y : YP) (n : Nat) (slots : List Nat) (I : Nat → List V → Heap → Prop) (m id : Nat) (r : List Code) (Q : Out → St → Prop) (o : Out) (len : Nat) (vs : List V) (h : Heap) : Prop :=
  match o with
  | .normal => len = n ∧ ∃ m', m' < m ∧ I m' vs h
  | .exit j => if j = id then len = n ∧ TriL Y r ⟨mk n (slots.zip vs), [], h⟩ Q else AtV slots Q (.exit j) len vs h
  | .ret => AtV slots Q .ret len vs h

theorem triL_sees {n : Nat} {l : List (Nat × V)} {cs : List Code} {slots : List Nat} {Q : Out → St → Prop} (hn : σ.env.length = n) (hl : ∀ p ∈ l, lv p.1 σ = p.2) (hc : cs ≠ []) (h : TriL Y cs ⟨mk n l, [], σ.h⟩ Q) : TriL Y cs σ Q := by
  match cs, hc, h with
  | c :: r, _, h => exact tri_sees hn hl h

theorem triL_view {n : Nat} {slots : List Nat} {cs : List Code} {Q : Out → St → Prop} {vs : List V} {h : Heap} (hc : cs ≠ []) (hn : σ.env.length = n) (hv : slots.map (fun i => lv i σ) = vs) (hh : σ.h = h)
    (ht : TriL Y cs ⟨mk n (slots.zip vs), [], h⟩ Q) : TriL Y cs σ Q := by
  match cs, hc, ht with
  | c :: r, _, ht => exact tri_view hn hv hh ht

/-- A loop, by the slots that live on. -/
theorem triL_loop {n : Nat} {slots : List Nat} {id : Nat} {b : Code} {r : List Code} {Q : Out → St → Prop} (hc : r ≠ []) (I : Nat → List V → Heap → Prop) (m0 : Nat) (hn : σ.env.length = n)
    (h0 : I m0 (slots.map fun i => lv i σ) σ.h)
    (round : ∀ m vs h, I m vs h → TriL Y [b] ⟨mk n (slots.zip vs), [], h⟩ (VQ slots (RoundV Y n slots I m id r Q))) : TriL Y (.block id (.loop b) :: r) σ Q := by
  refine triL_block (tri_loop (fun m τ => τ.env.length = n ∧ I m (slots.map fun i => lv i τ) τ.h) (n := m0) ⟨hn, h0⟩ ?_)
  rintro m τ ⟨hτ, hI⟩
  refine (tri_view hτ rfl rfl (round m _ _ hI)).mono ?_
  intro o σ' ho
  cases o with
  | normal => obtain ⟨h1, m', h2, h3⟩ := ho; exact ⟨m', h2, h1, h3⟩
  | exit j =>
    have ho : RoundV Y n slots I m id r Q (.exit j) _ _ _ := ho
    simp only [RoundV] at ho
    by_cases hj : j = id
    · rw [if_pos hj] at ho
      simp only [if_pos hj]
      exact triL_view hc ho.1 rfl rfl ho.2
    · rw [if_neg hj] at ho
      simp only [if_neg hj]
      exact ho σ' rfl rfl rfl
  | ret => exact ho σ' rfl rfl rfl

/-! ### Code, cut at its loops -/
def flat : Code → List Code
  | .seq a b => flat a ++ flat b
  | .scope a => flat a
  | c => [c]

def hasLoop : Code → Bool
  | .seq a b => hasLoop a || hasLoop b
  | .cond _ a b => hasLoop a || hasLoop b
  | .block _ b => hasLoop b
  | .scope b => hasLoop b
  | .loop _ => true
  | _ => false

/-- What stands before the first statement with a loop; that statement and what follows. -/
def pre : List Code → List Code
  | [] => []
  | c :: r => if hasLoop c then [] else c :: pre r
def post : List Code → List Code
  | [] => []
  | c :: r => if hasLoop c then c :: r else post r

theorem triL_append : ∀ {l m : List Code} {σ : St} {Q : Out → St → Prop}, TriL Y l σ (fun o σ' => match o with
    | .normal => TriL Y m σ' Q
    | .exit i => Q (.exit i) σ'
    | .ret => Q .ret σ') → TriL Y (l ++ m) σ Q
  | [], _, _, _, h => h
  | c :: r, m, σ, Q, h => by
    refine Tri.mono h ?_
    intro o σ' ho
    cases o with
    | normal => exact triL_append (l := r) ho
    | exit i => exact ho
    | ret => exact ho

theorem triL_of_append : ∀ {l m : List Code} {σ : St} {Q : Out → St → Prop}, TriL Y (l ++ m) σ Q → TriL Y l σ (fun o σ' => match o with
    | .normal => TriL Y m σ' Q
    | .exit i => Q (.exit i) σ'
    | .ret => Q .ret σ')
  | [], _, _, _, h => h
  | c :: r, m, σ, Q, h => by
    refine Tri.mono h ?_
    intro o σ' ho
    cases o with
    | normal => exact triL_of_append (l := r) ho
    | exit i => exact ho
    | ret => exact ho

theorem triL_flat : ∀ {c : Code} {r : List Code} {σ : St} {Q : Out → St → Prop}, TriL Y (flat c ++ r) σ Q → TriL Y (c :: r) σ Q
  | .seq a b, r, σ, Q, h => by
    simp only [flat, List.append_assoc] at h
    have h1 := triL_flat (c := a) h
    refine triL_cons (tri_seq (Tri.mono h1 ?_))
    intro o σ' ho
    cases o with
    | normal => exact triL_flat (c := b) ho
    | exit i => exact ho
    | ret => exact ho
  | .scope a, r, σ, Q, h => by
    simp only [flat] at h
    exact triL_cons (tri_scope (triL_flat (c := a) h))
  | .skip, _, _, _, h | .region _ _ _, _, _, _, h | .cond _ _ _, _, _, _, h | .block _ _, _, _, _, h | .loop _, _, _, _, h | .rangeFunc _ _ _ _, _, _, _, h
  | .exit _, _, _, _, h | .label _, _, _, _, h | .goto _, _, _, _, h | .ret, _, _, _, h | .refuse _, _, _, _, h => h

theorem pre_post : ∀ l : List Code, pre l ++ post l = l
  | [] => rfl
  | c :: r => by
    simp only [pre, post]
    split
    · rfl
    · simp [pre_post r]

/-- What the code before a loop comes to. -/
def PreV (Y : YP) (n : Nat) (slots : List Nat) (r : List Code) (Q : Out → St → Prop) (o : Out) (len : Nat) (vs : List V) (h : Heap) : Prop :=
  match o with
  | .normal => len = n ∧ TriL Y r ⟨mk n (slots.zip vs), [], h⟩ Q
  | o => AtV slots Q o len vs h

theorem triL_pre (hY : YOK Y) {loc : Nat → Bool} {fuel n : Nat} {slots : List Nat} {l : List Code} {Q : Out → St → Prop} (hc : post l ≠ [])
    (h : codeP Y loc fuel (pre l) σ (VQ slots (PreV Y n slots (post l) Q))) : TriL Y l σ Q := by
  rw [← pre_post l]
  refine triL_append ((codeP_ok hY _ _ _ _ h).mono ?_)
  intro o σ' ho
  cases o with
  | normal => exact triL_view hc ho.1 rfl rfl ho.2
  | exit i => exact ho σ' rfl rfl rfl
  | ret => exact ho σ' rfl rfl rfl

/-- Code without a loop. -/
theorem triL_all (hY : YOK Y) {loc : Nat → Bool} {fuel : Nat} {slots : List Nat} {l : List Code} {Q : Out → St → Prop} (h : codeP Y loc fuel l σ (VQ slots (AtV slots Q))) : TriL Y l σ Q :=
  (codeP_ok hY _ _ _ _ h).mono fun _ σ' ho => ho σ' rfl rfl rfl

def bodyOf (fn : Func) : Code := fn.body.getD .skip

/-- A function by its body, cut. -/
theorem con_of (hY : YOK Y) {f : FuncId} {fn : Func} (hf : Y.P.funcs[f]? = some fn) (hb : fn.body.isSome = true) {args : List V} {h : Heap} {Q : V → Heap → Prop}
    (ht : TriL Y (flat (bodyOf fn)) ⟨args ++ List.replicate (fn.ntmps - args.length) .undef, [], h⟩ fun o σ => (o = .normal ∨ o = .ret) ∧ ∃ v, resultsY Y fn σ = some v ∧ Q v σ.h) : Con Y f args h Q := by
  obtain ⟨body, hb⟩ := Option.isSome_iff_exists.1 hb
  have e : bodyOf fn = body := by simp [bodyOf, hb]
  rw [e] at ht
  refine ⟨⟨fn, body, hf, hb⟩, callTr_of hY hf hb ?_⟩
  have h1 := triL_flat (c := body) (r := []) (by simpa using ht)
  refine Tri.mono h1 ?_
  intro o σ' ho
  cases o <;> exact ho
end
end Go.Y

/- Lists that a function builds by append. -/
namespace Go.Y

/-- A slice that was built by appends to nil: nil; or the whole of its array. -/
def IsL (h : Heap) (k : Nat) (a : Option (Nat × Nat)) (l : Nat) (c : Option Nat) (kk : Nat) (cs : List V) : Prop :=
  l * k = cs.length ∧ ((a = none ∧ l = 0 ∧ cs = []) ∨ ∃ id, a = some (id, 0) ∧ c = none ∧ kk = k ∧ id < h.nx ∧ h.get id = some (.arr cs true))

/-- What was there is there, but for the array of one slice. -/
def Fr (h : Heap) (a : Option (Nat × Nat)) (h' : Heap) : Prop := h.nx ≤ h'.nx ∧ ∀ j, j < h.nx → (∀ o, a ≠ some (j, o)) → h'.get j = h.get j

theorem Fr.refl (h : Heap) (a : Option (Nat × Nat)) : Fr h a h := ⟨Nat.le_refl _, fun _ _ _ => rfl⟩

theorem Fr.push {h h' : Heap} {a : Option (Nat × Nat)} {o : YObj} (f : Fr (h.push o) a h') : Fr h a h' := by
  refine ⟨by have := f.1; simp at this; omega, fun j hj ha => ?_⟩
  rw [f.2 j (by simp; omega) ha, Heap.get_push, if_neg (by omega)]

theorem Fr.pushT {h h' : Heap} {a : Option (Nat × Nat)} {t : Option TypeId} {o : YObj} (f : Fr (h.pushT t o) a h') : Fr h a h' := by
  refine ⟨by have := f.1; simp at this; omega, fun j hj ha => ?_⟩
  rw [f.2 j (by simp; omega) ha, Heap.get_pushT, if_neg (by omega)]

theorem IsL.nil (h : Heap) (k : Nat) (c : Option Nat) (kk : Nat) : IsL h k none 0 c kk [] := ⟨by simp, .inl ⟨rfl, rfl, rfl⟩⟩

theorem IsL.frame {h h' : Heap} {k : Nat} {a b : Option (Nat × Nat)} {l : Nat} {c : Option Nat} {kk : Nat} {cs : List V} (hl : IsL h k a l c kk cs) (f : Fr h b h') (hne : ∀ j o, a = some (j, o) → ∀ o', b ≠ some (j, o')) : IsL h' k a l c kk cs := by
  refine ⟨hl.1, ?_⟩
  rcases hl.2 with h1 | ⟨id, rfl, h2, h3, h4, h5⟩
  · exact .inl h1
  · refine .inr ⟨id, rfl, h2, h3, by have := f.1; omega, ?_⟩
    rw [f.2 id h4 (hne id 0 rfl), h5]

theorem takeX_all (l : List V) : takeX l.length l = some l := by
  induction l with
  | nil => rfl
  | cons v l ih => simp [takeX, ih]

theorem takeX_len {l : List V} {n : Nat} (h : n = l.length) : takeX n l = some l := by subst h; exact takeX_all l

/-- An append of fresh elements. -/
theorem append_law {Y : YP} {h : Heap} {k : Nat} {a : Option (Nat × Nat)} {l : Nat} {c : Option Nat} {kk : Nat} {cs new : List V} {st e : TypeId} {te : TI} {m : Nat}
    (hk : Y.kd st = some (.slice e)) (hte : Y.ty e = some te) (hs : te.size = k) (hk0 : k ≠ 0) (hl : IsL h k a l c kk cs) (hm : m ≠ 0) (hn : m * k = new.length) (hc : allCells new = true)
    (hb : (l + m) * te.bytes ≤ most) (hb' : l + m ≤ most) :
    ∃ a' l' c' k' h', appendH Y (h.push (.arr new true)) st st (.sl a l c kk) (.sl (some (h.nx, 0)) m (some m) k) = some (.sl a' l' c' k', h') ∧
      IsL h' k a' l' c' k' (cs ++ new) ∧ Fr h a h' ∧ l' = l + m ∧ ∃ j, a' = some (j, 0) ∧ h.nx ≤ j := by
  have hsrc : source Y ⟨[], [], h.push (.arr new true)⟩ te st (.sl (some (h.nx, 0)) m (some m) k) = some (m, new) := by
    simp only [source, hk, elems, elemsS, hs, if_true, cellsAt, Heap.get_push, List.drop_zero]
    rw [takeX_len hn]; rfl
  have hg : ¬ ((!allCells new || decide (te.size = 0)) = true) := by simp [hc, hs, hk0]
  rcases hl.2 with ⟨rfl, rfl, rfl⟩ | ⟨id, rfl, rfl, rfl, hid, hget⟩
  · refine ⟨some (h.nx + 1, 0), m, none, k, (h.push (.arr new true)).pushT (Y.tag e) (.arr new true), ?_, ⟨by simpa using hn, .inr ⟨h.nx + 1, rfl, rfl, rfl, by simp, by simp [Heap.get_push]⟩⟩, ?_, by simp, h.nx + 1, rfl, by omega⟩
    · simp only [appendH, appendY, hk, hte, hsrc, hg, if_false, hm]
      have h1 : m * te.bytes ≤ most := by simpa using hb
      have h2 : m ≤ most := by simpa using hb'
      simp [h1, h2, hs]
    · exact ((Fr.refl _ _).pushT).push
  · have hlen := hl.1
    refine ⟨some (h.nx + 1, 0), l + m, none, kk, (((h.push (.arr new true)).set id none).pushT (if 0 = 0 ∧ (h.push (.arr new true)).tagOf id = some e then some e else none) (.arr (cs ++ new) true)), ?_, ⟨by rw [Nat.add_mul, hlen, hn, List.length_append], .inr ⟨h.nx + 1, rfl, rfl, rfl, by simp, by simp [Heap.get_push]⟩⟩, ?_, rfl, h.nx + 1, rfl, by omega⟩
    · have hgt : (h.push (.arr new true)).get id = some (.arr cs true) := by rw [Heap.get_push, if_neg (by omega), hget]
      have hb1 : ¬ ((l + m) * te.bytes > most ∨ l + m > most) := by omega
      have hne : ¬ (0 + (l + m) * kk ≤ cs.length) := by
        rw [← hlen, Nat.add_mul]
        have : 0 < m * kk := Nat.mul_pos (by omega) (by omega)
        omega
      have htk : takeX (l * kk) (cs.drop 0) = some cs := by rw [List.drop_zero]; exact takeX_len hlen
      simp only [appendH, appendY, hk, hte, hsrc, hg, if_false, hm, hs, ne_eq, not_true_eq_false, hb1, hgt, hne, Bool.true_or, if_true, htk]
      rw [if_neg (by simp [hc, hk0])]
      rfl
    · refine ⟨by simp; omega, fun j hj ha => ?_⟩
      have hji : j ≠ id := fun he => by subst he; exact ha 0 rfl
      rw [Heap.get_pushT, if_neg (by simp; omega), Heap.get_set, if_neg hji, Heap.get_push, if_neg (by omega)]
end Go.Y

/- Rows of elements of equal size. -/
namespace Go.Y

theorem takeX_eq_take {n : Nat} {l : List V} (h : n ≤ l.length) : takeX n l = some (l.take n) := by
  induction n generalizing l with
  | zero => simp [takeX]
  | succ n ih =>
    cases l with
    | nil => simp at h
    | cons v l => simp only [takeX, List.take_succ_cons]; rw [ih (by simpa using h)]; rfl

/-- The cells of a row. -/
def row {α : Type} (f : α → List V) (l : List α) : List V := (l.map f).flatten

theorem row_length {α : Type} {f : α → List V} {k : Nat} (hk : ∀ x, (f x).length = k) (l : List α) : (row f l).length = l.length * k := by
  induction l with
  | nil => simp [row]
  | cons x l ih =>
    have : row f (x :: l) = f x ++ row f l := by simp [row]
    rw [this, List.length_append, hk, ih, List.length_cons, Nat.add_mul]; omega

theorem row_drop {α : Type} {f : α → List V} {k : Nat} (hk : ∀ x, (f x).length = k) : ∀ (l : List α) (i : Nat), (row f l).drop (i * k) = row f (l.drop i)
  | [], i => by simp [row]
  | x :: l, 0 => by simp
  | x :: l, i + 1 => by
    have h : row f (x :: l) = f x ++ row f l := by simp [row]
    rw [h, List.drop_succ_cons, ← row_drop hk l i, Nat.add_mul, Nat.one_mul, Nat.add_comm, ← List.drop_drop]
    congr 1
    rw [← hk x]; simp

theorem row_get {α : Type} {f : α → List V} {k : Nat} (hk : ∀ x, (f x).length = k) {l : List α} {i : Nat} (hi : i < l.length) : takeX k ((row f l).drop (i * k)) = some (f l[i]) := by
  rw [row_drop hk]
  have : l.drop i = l[i] :: l.drop (i + 1) := List.drop_eq_getElem_cons hi
  rw [this]
  have h2 : ∀ (x : α) (m : List α), row f (x :: m) = f x ++ row f m := fun x m => by simp [row]
  rw [h2, takeX_eq_take (by simp [hk])]
  congr 1
  rw [← hk l[i]]; simp

theorem row_append {α : Type} {f : α → List V} (l m : List α) : row f (l ++ m) = row f l ++ row f m := by simp [row]
end Go.Y
