/- The plain law of a walk that finds the strong parts of a graph. -/
namespace Go.Y.Tar

inductive Reach (succ : Nat → List Nat) : Nat → Nat → Prop
  | refl (u : Nat) : Reach succ u u
  | step {u v w : Nat} (h : Reach succ u v) (e : w ∈ succ v) : Reach succ u w

section
variable {succ : Nat → List Nat} {n : Nat}

theorem Reach.trans {a b c : Nat} (h : Reach succ a b) (g : Reach succ b c) : Reach succ a c := by
  induction g with
  | refl => exact h
  | step _ e ih => exact .step ih e
theorem Reach.edge {a b : Nat} (e : b ∈ succ a) : Reach succ a b := .step (.refl a) e
theorem Reach.head {a b c : Nat} (e : b ∈ succ a) (h : Reach succ b c) : Reach succ a c := (Reach.edge e).trans h
/-- What is closed under what leads on is not left. -/
theorem Reach.stay {P : Nat → Prop} (hc : ∀ u, P u → ∀ x ∈ succ u, P x) {a b : Nat} (h : Reach succ a b) (ha : P a) : P b := by
  induction h with
  | refl => exact ha
  | step _ e ih => exact hc _ ih _ e

def upd {α : Type} (f : Nat → α) (i : Nat) (v : α) : Nat → α := fun j => if j = i then v else f j
theorem upd_same {α : Type} (f : Nat → α) (i : Nat) (v : α) : upd f i v i = v := by simp [upd]
theorem upd_ne {α : Type} (f : Nat → α) {i j : Nat} (v : α) (h : j ≠ i) : upd f i v j = f j := by simp [upd, h]

structure TS where
  m : Nat → Nat
  l : Nat → Nat
  p : Nat → Nat
  op : List Nat
  parts : Nat

def Mut (succ : Nat → List Nat) (u v : Nat) : Prop := Reach succ u v ∧ Reach succ v u
theorem Mut.refl (u : Nat) : Mut succ u u := ⟨.refl u, .refl u⟩
theorem Mut.symm {u v : Nat} (h : Mut succ u v) : Mut succ v u := ⟨h.2, h.1⟩
theorem Mut.trans {u v w : Nat} (h : Mut succ u v) (g : Mut succ v w) : Mut succ u w := ⟨h.1.trans g.1, g.2.trans h.2⟩

/-- Between two walks. -/
structure Base (n : Nat) (succ : Nat → List Nat) (number : Nat) (s : TS) : Prop where
  op : s.op = []
  num : ∀ u, s.m u < number
  rng : ∀ u, s.m u ≠ 0 → u < n
  inj : ∀ u v, s.m u ≠ 0 → s.m u = s.m v → u = v
  cl : ∀ c, s.m c ≠ 0 → ∀ x ∈ succ c, s.m x ≠ 0
  p1 : ∀ u, s.m u ≠ 0 → s.p u < s.parts
  p2 : ∀ u v, s.m u ≠ 0 → s.m v ≠ 0 → (s.p u = s.p v ↔ Mut succ u v)

structure Inv (n : Nat) (succ : Nat → List Nat) (root number : Nat) (s : TS) (way : List (Nat × Nat)) : Prop where
  num : ∀ u, s.m u < number
  rng : ∀ u, s.m u ≠ 0 → u < n
  inj : ∀ u v, s.m u ≠ 0 → s.m u = s.m v → u = v
  nd : s.op.Pairwise fun a b => s.m a < s.m b
  om : ∀ u ∈ s.op, s.m u ≠ 0
  wo : ∀ e ∈ way, e.1 ∈ s.op
  ws : way.Pairwise fun a b => s.m a.1 < s.m b.1
  l1 : ∀ u ∈ s.op, s.l u ≤ s.m u
  l2 : ∀ u ∈ s.op, ∃ x ∈ s.op, s.m x = s.l u ∧ Reach succ u x
  pr : ∀ u ∈ s.op, ∀ x ∈ succ u, (∀ k, (u, k) ∈ way → x ∈ (succ u).take k) → s.m x ≠ 0 ∧ (x ∈ s.op → s.l u ≤ s.m x)
  cl : ∀ c, s.m c ≠ 0 → c ∉ s.op → ∀ x ∈ succ c, s.m x ≠ 0 ∧ x ∉ s.op
  fin : ∀ u ∈ s.op, (∀ k, (u, k) ∉ way) → s.l u < s.m u ∧ ∃ e ∈ way, s.m e.1 < s.m u ∧ s.l e.1 ≤ s.l u ∧ ∀ f ∈ way, s.m f.1 < s.m u → s.m f.1 ≤ s.m e.1
  wr : ∀ e ∈ way, ∀ u ∈ s.op, s.m e.1 ≤ s.m u → Reach succ e.1 u
  rt : ∀ u ∈ s.op, s.m root ≤ s.m u
  wt : ∀ e, way.head? = some e → e.1 = root
  p1 : ∀ u, s.m u ≠ 0 → u ∉ s.op → s.p u < s.parts
  p2 : ∀ u v, s.m u ≠ 0 → u ∉ s.op → s.m v ≠ 0 → v ∉ s.op → (s.p u = s.p v ↔ Mut succ u v)

variable {root number : Nat} {s : TS} {way w0 : List (Nat × Nat)} {v k x : Nat}

/-- The last of the way. -/
theorem Inv.top (h : Inv n succ root number s (w0 ++ [(v, k)])) : v ∈ s.op ∧ ∀ e ∈ w0, s.m e.1 < s.m v := by
  refine ⟨h.wo (v, k) (by simp), fun e he => ?_⟩
  have := List.pairwise_append.1 h.ws
  exact this.2.2 e he (v, k) (by simp)

theorem Inv.uniq (h : Inv n succ root number s (w0 ++ [(v, k)])) {j : Nat} (hj : (v, j) ∈ w0 ++ [(v, k)]) : j = k := by
  rcases List.mem_append.1 hj with hj | hj
  · have := h.top.2 (v, j) hj; simp at this
  · simpa using hj

/-- An edge to a node that is in a part already. -/
theorem inv_skip (h : Inv n succ root number s (w0 ++ [(v, k)])) (hk : (succ v)[k]? = some x) (hx : s.m x ≠ 0) (ho : x ∉ s.op) : Inv n succ root number s (w0 ++ [(v, k + 1)]) := by
  have hmem : ∀ e ∈ w0 ++ [(v, k + 1)], ∃ e' ∈ w0 ++ [(v, k)], e'.1 = e.1 := fun e he => by
    rcases List.mem_append.1 he with he | he
    · exact ⟨e, by simp [he], rfl⟩
    · simp at he; subst he; exact ⟨(v, k), by simp, rfl⟩
  have hmem' : ∀ e ∈ w0 ++ [(v, k)], ∃ e' ∈ w0 ++ [(v, k + 1)], e'.1 = e.1 := fun e he => by
    rcases List.mem_append.1 he with he | he
    · exact ⟨e, by simp [he], rfl⟩
    · simp at he; subst he; exact ⟨(v, k + 1), by simp, rfl⟩
  refine { h with wo := ?_, ws := ?_, pr := ?_, fin := ?_, wr := ?_, wt := ?_ }
  · intro e he
    obtain ⟨e', h1, h2⟩ := hmem e he
    rw [← h2]; exact h.wo e' h1
  · have := List.pairwise_append.1 h.ws
    refine List.pairwise_append.2 ⟨this.1, by simp, fun a ha b hb => ?_⟩
    simp at hb; subst hb
    exact this.2.2 a ha (v, k) (by simp)
  · intro u hu y hy hq
    by_cases huv : u = v
    · subst huv
      have h1 := hq (k + 1) (by simp)
      rw [List.take_add_one, hk] at h1
      simp at h1
      rcases h1 with h1 | h1
      · exact h.pr u hu y hy fun j hj => by rw [h.uniq hj]; exact h1
      · subst h1; exact ⟨hx, fun hy => absurd hy ho⟩
    · refine h.pr u hu y hy fun j hj => hq j ?_
      rcases List.mem_append.1 hj with hj | hj
      · simp [hj]
      · simp at hj; exact absurd hj.1 huv
  · intro u hu hn
    obtain ⟨h1, e, h2, h3, h4, h5⟩ := h.fin u hu fun j hj => by
      rcases List.mem_append.1 hj with hj | hj
      · exact hn j (by simp [hj])
      · simp at hj; exact hn (k + 1) (by simp [hj.1])
    obtain ⟨e', g1, g2⟩ := hmem' e h2
    refine ⟨h1, e', g1, by rw [g2]; exact h3, by rw [g2]; exact h4, fun f hf hlt => ?_⟩
    obtain ⟨f', g3, g4⟩ := hmem f hf
    rw [g2, ← g4]; exact h5 f' g3 (by rw [g4]; exact hlt)
  · intro e he u hu hle
    obtain ⟨e', h1, h2⟩ := hmem e he
    rw [← h2] at hle ⊢; exact h.wr e' h1 u hu hle
  · intro e he
    cases w0 with
    | nil => simp at he; subst he; exact h.wt (v, k) (by simp)
    | cons a r => exact h.wt e (by simpa using he)

/-- An edge to a node that is open. -/
theorem inv_low (h : Inv n succ root number s (w0 ++ [(v, k)])) (hk : (succ v)[k]? = some x) (ho : x ∈ s.op) :
    Inv n succ root number { s with l := upd s.l v (min (s.l v) (s.m x)) } (w0 ++ [(v, k + 1)]) := by
  have hvx : x ∈ succ v := List.mem_of_getElem? hk
  have hle : ∀ u, upd s.l v (min (s.l v) (s.m x)) u ≤ s.l u := fun u => by
    by_cases e : u = v
    · subst e; rw [upd_same]; exact Nat.min_le_left _ _
    · rw [upd_ne _ _ e]; exact Nat.le_refl _
  have hmem : ∀ e ∈ w0 ++ [(v, k + 1)], ∃ e' ∈ w0 ++ [(v, k)], e'.1 = e.1 := fun e he => by
    rcases List.mem_append.1 he with he | he
    · exact ⟨e, by simp [he], rfl⟩
    · simp at he; subst he; exact ⟨(v, k), by simp, rfl⟩
  have hmem' : ∀ e ∈ w0 ++ [(v, k)], ∃ e' ∈ w0 ++ [(v, k + 1)], e'.1 = e.1 := fun e he => by
    rcases List.mem_append.1 he with he | he
    · exact ⟨e, by simp [he], rfl⟩
    · simp at he; subst he; exact ⟨(v, k + 1), by simp, rfl⟩
  refine { num := h.num, rng := h.rng, inj := h.inj, nd := h.nd, om := h.om, cl := h.cl, rt := h.rt, p1 := h.p1, p2 := h.p2, wo := ?_, ws := ?_, l1 := ?_, l2 := ?_, pr := ?_, fin := ?_, wr := ?_, wt := ?_ }
  · intro e he
    obtain ⟨e', h1, h2⟩ := hmem e he
    rw [← h2]; exact h.wo e' h1
  · have := List.pairwise_append.1 h.ws
    refine List.pairwise_append.2 ⟨this.1, by simp, fun a ha b hb => ?_⟩
    simp at hb; subst hb
    exact this.2.2 a ha (v, k) (by simp)
  · exact fun u hu => Nat.le_trans (hle u) (h.l1 u hu)
  · intro u hu
    show ∃ y ∈ s.op, s.m y = upd s.l v (min (s.l v) (s.m x)) u ∧ Reach succ u y
    by_cases e : u = v
    · subst e
      rw [upd_same]
      rcases Nat.le_total (s.l u) (s.m x) with hl | hl
      · rw [Nat.min_eq_left hl]; exact h.l2 u hu
      · rw [Nat.min_eq_right hl]; exact ⟨x, ho, rfl, .edge hvx⟩
    · rw [upd_ne _ _ e]; exact h.l2 u hu
  · intro u hu y hy hq
    show s.m y ≠ 0 ∧ (y ∈ s.op → upd s.l v (min (s.l v) (s.m x)) u ≤ s.m y)
    by_cases huv : u = v
    · subst huv
      have h1 := hq (k + 1) (by simp)
      rw [List.take_add_one, hk] at h1
      simp at h1
      rcases h1 with h1 | h1
      · obtain ⟨g1, g2⟩ := h.pr u hu y hy fun j hj => by rw [h.uniq hj]; exact h1
        exact ⟨g1, fun hy => Nat.le_trans (hle u) (g2 hy)⟩
      · subst h1; exact ⟨h.om y ho, fun _ => by rw [upd_same]; exact Nat.min_le_right _ _⟩
    · obtain ⟨g1, g2⟩ := h.pr u hu y hy fun j hj => hq j (by
        rcases List.mem_append.1 hj with hj | hj
        · simp [hj]
        · simp at hj; exact absurd hj.1 huv)
      exact ⟨g1, fun hy => Nat.le_trans (hle u) (g2 hy)⟩
  · intro u hu hn
    have hne : u ≠ v := fun e => by subst e; exact hn (k + 1) (by simp)
    obtain ⟨h1, e, h2, h3, h4, h5⟩ := h.fin u hu fun j hj => by
      rcases List.mem_append.1 hj with hj | hj
      · exact hn j (by simp [hj])
      · simp at hj; exact hne hj.1
    obtain ⟨e', g1, g2⟩ := hmem' e h2
    refine ⟨by show upd _ _ _ u < _; rw [upd_ne _ _ hne]; exact h1, e', g1, by rw [g2]; exact h3, ?_, fun f hf hlt => ?_⟩
    · show upd _ _ _ e'.1 ≤ upd _ _ _ u
      rw [upd_ne _ _ hne, g2]; exact Nat.le_trans (hle _) h4
    · obtain ⟨f', g3, g4⟩ := hmem f hf
      rw [g2, ← g4]; exact h5 f' g3 (by rw [g4]; exact hlt)
  · intro e he u hu hle
    obtain ⟨e', h1, h2⟩ := hmem e he
    rw [← h2] at hle ⊢; exact h.wr e' h1 u hu hle
  · intro e he
    cases w0 with
    | nil => simp at he; subst he; exact h.wt (v, k) (by simp)
    | cons a r => exact h.wt e (by simpa using he)

/-- A node is met. -/
def TS.meet (s : TS) (x number : Nat) : TS := { s with m := upd s.m x number, l := upd s.l x number, op := s.op ++ [x] }

theorem inv_meet (h : Inv n succ root number s (w0 ++ [(v, k)])) (hk : (succ v)[k]? = some x) (hx : s.m x = 0) (hxn : x < n) :
    Inv n succ root (number + 1) (s.meet x number) (w0 ++ [(v, k + 1)] ++ [(x, 0)]) := by
  have hvx : x ∈ succ v := List.mem_of_getElem? hk
  have hxo : x ∉ s.op := fun ho => h.om x ho hx
  have hpos : 0 < number := Nat.lt_of_le_of_lt (Nat.zero_le _) (h.num 0)
  have hne : ∀ u ∈ s.op, u ≠ x := fun u hu e => hxo (e ▸ hu)
  have hm : ∀ u, u ≠ x → upd s.m x number u = s.m u := fun u hu => upd_ne _ _ hu
  have hvo := h.top.1
  have hwne : ∀ e ∈ w0, e.1 ≠ x := fun e he => hne _ (h.wo e (by simp [he]))
  have hvne := hne v hvo
  have hwo : ∀ e ∈ w0 ++ [(v, k + 1)], e.1 ∈ s.op := fun e he => by
    rcases List.mem_append.1 he with he | he
    · exact h.wo e (by simp [he])
    · simp at he; subst he; exact hvo
  have hmem : ∀ e ∈ w0 ++ [(v, k + 1)], ∃ e' ∈ w0 ++ [(v, k)], e'.1 = e.1 := fun e he => by
    rcases List.mem_append.1 he with he | he
    · exact ⟨e, by simp [he], rfl⟩
    · simp at he; subst he; exact ⟨(v, k), by simp, rfl⟩
  have hmem' : ∀ e ∈ w0 ++ [(v, k)], ∃ e' ∈ w0 ++ [(v, k + 1)], e'.1 = e.1 := fun e he => by
    rcases List.mem_append.1 he with he | he
    · exact ⟨e, by simp [he], rfl⟩
    · simp at he; subst he; exact ⟨(v, k + 1), by simp, rfl⟩
  have hrootne : s.op ≠ [] → True := fun _ => trivial
  have hroot : root ≠ x := fun e => by
    -- the root is the head of the way
    cases w0 with
    | nil =>
      have := h.wt (v, k) (by simp)
      exact hvne (by rw [← e]; exact this)
    | cons a r =>
      have := h.wt a (by simp)
      exact hwne a (by simp) (by rw [← e]; exact this)
  refine { num := ?_, rng := ?_, inj := ?_, nd := ?_, om := ?_, wo := ?_, ws := ?_, l1 := ?_, l2 := ?_, pr := ?_, cl := ?_, fin := ?_, wr := ?_, rt := ?_, wt := ?_, p1 := ?_, p2 := ?_ }
  · intro u
    show upd s.m x number u < number + 1
    by_cases e : u = x
    · subst e; rw [upd_same]; exact Nat.lt_succ_self _
    · rw [hm u e]; exact Nat.lt_succ_of_lt (h.num u)
  · intro u hu
    by_cases e : u = x
    · subst e; exact hxn
    · exact h.rng u (by have : upd s.m x number u ≠ 0 := hu; rwa [hm u e] at this)
  · intro a b ha hab
    have ha' : upd s.m x number a ≠ 0 := ha
    have hab' : upd s.m x number a = upd s.m x number b := hab
    by_cases e1 : a = x <;> by_cases e2 : b = x
    · rw [e1, e2]
    · subst e1; rw [upd_same, hm b e2] at hab'; have := h.num b; omega
    · subst e2; rw [upd_same, hm a e1] at hab'; have := h.num a; omega
    · rw [hm a e1] at ha' hab'; rw [hm b e2] at hab'; exact h.inj a b ha' hab'
  · refine List.pairwise_append.2 ⟨h.nd.imp_of_mem fun ha hb hlt => ?_, by simp, fun a ha b hb => ?_⟩
    · show upd _ _ _ _ < upd _ _ _ _
      rw [hm _ (hne _ ha), hm _ (hne _ hb)]; exact hlt
    · simp at hb; subst hb
      show upd _ _ _ a < upd _ _ _ _
      rw [upd_same, hm a (hne a ha)]; exact h.num a
  · intro u hu
    show upd _ _ _ u ≠ 0
    rcases List.mem_append.1 hu with hu | hu
    · rw [hm u (hne u hu)]; exact h.om u hu
    · simp at hu; subst hu; rw [upd_same]; omega
  · intro e he
    rcases List.mem_append.1 he with he | he
    · exact List.mem_append_left _ (hwo e he)
    · simp at he; subst he; exact List.mem_append_right _ (by simp)
  · have h0 := List.pairwise_append.1 h.ws
    refine List.pairwise_append.2 ⟨List.pairwise_append.2 ⟨h0.1.imp_of_mem fun ha hb hlt => ?_, by simp, fun a ha b hb => ?_⟩, by simp, fun a ha b hb => ?_⟩
    · show upd _ _ _ _ < upd _ _ _ _
      rw [hm _ (hwne _ ha), hm _ (hwne _ hb)]; exact hlt
    · simp at hb; subst hb
      show upd _ _ _ _ < upd _ _ _ _
      rw [hm _ (hwne a ha), hm _ hvne]; exact h0.2.2 a ha (v, k) (by simp)
    · simp at hb; subst hb
      show upd _ _ _ _ < upd _ _ _ _
      rw [upd_same, hm _ (hne _ (hwo a ha))]; exact h.num _
  · intro u hu
    show upd _ _ _ u ≤ upd _ _ _ u
    rcases List.mem_append.1 hu with hu | hu
    · rw [hm u (hne u hu), upd_ne _ _ (hne u hu)]; exact h.l1 u hu
    · simp at hu; subst hu; rw [upd_same, upd_same]; exact Nat.le_refl _
  · intro u hu
    show ∃ y ∈ s.op ++ [x], upd s.m x number y = upd s.l x number u ∧ Reach succ u y
    rcases List.mem_append.1 hu with hu | hu
    · obtain ⟨y, h1, h2, h3⟩ := h.l2 u hu
      exact ⟨y, by simp [h1], by rw [hm y (hne y h1), upd_ne _ _ (hne u hu)]; exact h2, h3⟩
    · simp at hu; subst hu
      exact ⟨u, by simp, by rw [upd_same, upd_same], .refl u⟩
  · intro u hu y hy hq
    show upd s.m x number y ≠ 0 ∧ (y ∈ s.op ++ [x] → upd s.l x number u ≤ upd s.m x number y)
    rcases List.mem_append.1 hu with hu | hu
    · have hux := hne u hu
      rw [upd_ne _ _ hux]
      by_cases e : y = x
      · subst e
        rw [upd_same]
        exact ⟨by omega, fun _ => by have := h.l1 u (by assumption); have := h.num u; omega⟩
      · rw [hm y e]
        have h1 : ∀ j, (u, j) ∈ w0 ++ [(v, k)] → y ∈ (succ u).take j := fun j hj => by
          rcases List.mem_append.1 hj with hj | hj
          · exact hq j (by simp [hj])
          · simp at hj
            obtain ⟨rfl, rfl⟩ := hj
            have h1 := hq (j + 1) (by simp)
            rw [List.take_add_one, hk] at h1
            simp at h1
            exact h1.resolve_right e
        obtain ⟨g1, g2⟩ := h.pr u hu y hy h1
        exact ⟨g1, fun hyo => g2 (by simpa [e] using hyo)⟩
    · simp at hu; subst hu
      have := hq 0 (by simp)
      simp at this
  · intro c hc hco y hy
    have hcx : c ≠ x := fun e => hco (by show c ∈ s.op ++ [x]; simp [e])
    have hc' : upd s.m x number c ≠ 0 := hc
    rw [hm c hcx] at hc'
    obtain ⟨g1, g2⟩ := h.cl c hc' (fun ho => hco (by show c ∈ s.op ++ [x]; simp [ho])) y hy
    have hyx : y ≠ x := fun e => by subst e; exact g1 hx
    exact ⟨by show upd _ _ _ y ≠ 0; rw [hm y hyx]; exact g1, by show y ∉ s.op ++ [x]; simp [g2, hyx]⟩
  · intro u hu hn
    rcases List.mem_append.1 hu with hu | hu
    · have hux := hne u hu
      obtain ⟨h1, e, h2, h3, h4, h5⟩ := h.fin u hu fun j hj => by
        rcases List.mem_append.1 hj with hj | hj
        · exact hn j (by simp [hj])
        · simp at hj; exact hn (k + 1) (by simp [hj.1])
      obtain ⟨e', g1, g2⟩ := hmem' e h2
      have he' := hne _ (hwo e' g1)
      refine ⟨?_, e', by simp at g1 ⊢; rcases g1 with g1 | g1 <;> simp [g1], ?_, ?_, fun f hf hlt => ?_⟩
      · show upd _ _ _ u < upd _ _ _ u
        rw [hm u hux, upd_ne _ _ hux]; exact h1
      · show upd _ _ _ _ < upd _ _ _ _
        rw [hm u hux, hm _ he', g2]; exact h3
      · show upd _ _ _ _ ≤ upd _ _ _ _
        rw [upd_ne _ _ hux, upd_ne _ _ he', g2]; exact h4
      · have hlt' : upd s.m x number f.1 < upd s.m x number u := hlt
        show upd _ _ _ _ ≤ upd _ _ _ _
        rcases List.mem_append.1 hf with hf | hf
        · obtain ⟨f', g3, g4⟩ := hmem f hf
          have hfx := hne _ (hwo f hf)
          rw [hm _ hfx, hm u hux] at hlt'
          rw [hm _ hfx, hm _ he', g2, ← g4]; exact h5 f' g3 (by rw [g4]; exact hlt')
        · simp at hf; subst hf
          rw [upd_same, hm u hux] at hlt'
          have := h.num u; omega
    · simp at hu; subst hu
      exact absurd (hn 0) (by simp)
  · intro e he u hu hle
    have hle' : upd s.m x number e.1 ≤ upd s.m x number u := hle
    rcases List.mem_append.1 he with he | he
    · obtain ⟨e', g1, g2⟩ := hmem e he
      have hex := hne _ (hwo e he)
      rcases List.mem_append.1 hu with hu | hu
      · rw [hm _ hex, hm u (hne u hu)] at hle'
        rw [← g2] at hle' ⊢; exact h.wr e' g1 u hu hle'
      · simp at hu; subst hu
        have hev : s.m e.1 ≤ s.m v := by
          rcases List.mem_append.1 (by assumption : e ∈ w0 ++ [(v, k + 1)]) with he1 | he1
          · exact Nat.le_of_lt (h.top.2 e he1)
          · rw [List.mem_singleton] at he1; rw [he1]; exact Nat.le_refl _
        have := h.wr e' g1 v hvo (by rw [g2]; exact hev)
        rw [g2] at this
        exact .step this hvx
    · simp at he; subst he
      rcases List.mem_append.1 hu with hu | hu
      · rw [upd_same, hm u (hne u hu)] at hle'
        have := h.num u; omega
      · simp at hu; subst hu; exact .refl _
  · intro u hu
    show upd _ _ _ root ≤ upd _ _ _ u
    rw [hm root hroot]
    rcases List.mem_append.1 hu with hu | hu
    · rw [hm u (hne u hu)]; exact h.rt u hu
    · simp at hu; subst hu; rw [upd_same]; exact Nat.le_of_lt (h.num root)
  · intro e he
    cases w0 with
    | nil => simp at he; subst he; exact h.wt (v, k) (by simp)
    | cons a r => exact h.wt e (by simpa using he)
  · intro u hu huo
    have hux : u ≠ x := fun e => huo (by show u ∈ s.op ++ [x]; simp [e])
    have hu' : upd s.m x number u ≠ 0 := hu
    rw [hm u hux] at hu'
    exact h.p1 u hu' fun ho => huo (by show u ∈ s.op ++ [x]; simp [ho])
  · intro a b ha hao hb hbo
    have h1 : a ≠ x := fun e => hao (by show a ∈ s.op ++ [x]; simp [e])
    have h2 : b ≠ x := fun e => hbo (by show b ∈ s.op ++ [x]; simp [e])
    have ha' : upd s.m x number a ≠ 0 := ha
    have hb' : upd s.m x number b ≠ 0 := hb
    rw [hm a h1] at ha'
    rw [hm b h2] at hb'
    exact h.p2 a b ha' (fun ho => hao (by show a ∈ s.op ++ [x]; simp [ho])) hb' (fun ho => hbo (by show b ∈ s.op ++ [x]; simp [ho]))

/-- A walk begins. -/
theorem inv_start (h : Base n succ number s) (hx : s.m root = 0) (hr : root < n) : Inv n succ root (number + 1) (s.meet root number) [(root, 0)] := by
  have hpos : 0 < number := Nat.lt_of_le_of_lt (Nat.zero_le _) (h.num 0)
  have hm : ∀ u, u ≠ root → upd s.m root number u = s.m u := fun u hu => upd_ne _ _ hu
  have hop : (s.meet root number).op = [root] := by simp [TS.meet, h.op]
  have closed : ∀ c, (s.meet root number).m c ≠ 0 → c ∉ (s.meet root number).op → c ≠ root ∧ s.m c ≠ 0 := fun c hc ho => by
    rw [hop] at ho
    have hcr : c ≠ root := by simpa using ho
    have hc' : upd s.m root number c ≠ 0 := hc
    rw [hm c hcr] at hc'
    exact ⟨hcr, hc'⟩
  refine { num := ?_, rng := ?_, inj := ?_, nd := ?_, om := ?_, wo := ?_, ws := ?_, l1 := ?_, l2 := ?_, pr := ?_, cl := ?_, fin := ?_, wr := ?_, rt := ?_, wt := ?_, p1 := ?_, p2 := ?_ }
  · intro u
    show upd s.m root number u < number + 1
    by_cases e : u = root
    · subst e; rw [upd_same]; exact Nat.lt_succ_self _
    · rw [hm u e]; exact Nat.lt_succ_of_lt (h.num u)
  · intro u hu
    by_cases e : u = root
    · subst e; exact hr
    · exact h.rng u (by have : upd s.m root number u ≠ 0 := hu; rwa [hm u e] at this)
  · intro a b ha hab
    have ha' : upd s.m root number a ≠ 0 := ha
    have hab' : upd s.m root number a = upd s.m root number b := hab
    by_cases e1 : a = root <;> by_cases e2 : b = root
    · rw [e1, e2]
    · subst e1; rw [upd_same, hm b e2] at hab'; have := h.num b; omega
    · subst e2; rw [upd_same, hm a e1] at hab'; have := h.num a; omega
    · rw [hm a e1] at ha' hab'; rw [hm b e2] at hab'; exact h.inj a b ha' hab'
  · rw [hop]; simp
  · rw [hop]; intro u hu; simp at hu; subst hu; show upd _ _ _ _ ≠ 0; rw [upd_same]; omega
  · rw [hop]; intro e he; simp at he; subst he; simp
  · simp
  · rw [hop]; intro u hu; simp at hu; subst hu; show upd _ _ _ _ ≤ upd _ _ _ _; rw [upd_same, upd_same]; exact Nat.le_refl _
  · rw [hop]; intro u hu; simp at hu; subst hu
    exact ⟨u, by simp, by show upd _ _ _ _ = upd _ _ _ _; rw [upd_same, upd_same], .refl u⟩
  · rw [hop]; intro u hu y hy hq; simp at hu; subst hu
    have := hq 0 (by simp); simp at this
  · intro c hc ho y hy
    obtain ⟨h1, h2⟩ := closed c hc ho
    have h3 := h.cl c h2 y hy
    have hyr : y ≠ root := fun e => by subst e; exact h3 hx
    exact ⟨by show upd _ _ _ y ≠ 0; rw [hm y hyr]; exact h3, by rw [hop]; simpa using hyr⟩
  · rw [hop]; intro u hu hn; simp at hu; subst hu; exact absurd (hn 0) (by simp)
  · rw [hop]; intro e he u hu _; simp at he hu; subst he hu; exact .refl _
  · rw [hop]; intro u hu; simp at hu; subst hu; exact Nat.le_refl _
  · intro e he; simp at he; subst he; rfl
  · intro u hu ho
    obtain ⟨_, h2⟩ := closed u hu ho
    exact h.p1 u h2
  · intro a b ha hao hb hbo
    exact h.p2 a b (closed a ha hao).2 (closed b hb hbo).2

/-- A walk ends. -/
theorem inv_end (h : Inv n succ root number s []) : Base n succ number s := by
  have hop : s.op = [] := by
    cases ho : s.op with
    | nil => rfl
    | cons u r =>
      obtain ⟨_, e, he, _⟩ := h.fin u (by rw [ho]; simp) (by simp)
      cases he
  have hno : ∀ u, u ∉ s.op := fun u hu => by rw [hop] at hu; cases hu
  exact ⟨hop, h.num, h.rng, h.inj, fun c hc x hx => (h.cl c hc (hno c) x hx).1, fun u hu => h.p1 u hu (hno u), fun a b ha hb => h.p2 a b ha (hno a) hb (hno b)⟩
end
end Go.Y.Tar
