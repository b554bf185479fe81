/- Lists that a function builds by append. -/
import Derived.Test.YtheobdgchjdlhaaGreatYLoop
namespace Go.Y

/-- A slice that was built by appends to nil: nil; or the whole of its array. -/
def IsL (h : Heap) (k : Nat) (a : Option (Nat × Nat)) (l : Nat) (c : Option Nat) (kk : Nat) (cs : List V) : Prop :=
  l * k = cs.length ∧ ((a = none ∧ l = 0 ∧ cs = []) ∨ ∃ id, a = some (id, 0) ∧ c = none ∧ kk = k ∧ id < h.nx ∧ h.get id = some (.arr cs true))

/-- What was there is there, but for the array of one slice. -/
def Fr (h : Heap) (a : Option (Nat × Nat)) (h' : Heap) : Prop := h.nx ≤ h'.nx ∧ ∀ j, j < h.nx → (∀ o, a ≠ some (j, o)) → h'.get j = h.get j

theorem Fr.refl (h : Heap) (a : Option (Nat × Nat)) : Fr h a h := ⟨Nat.le_refl _, fun _ _ _ => rfl⟩

theorem Fr.push {h h' : Heap} {a : Option (Nat × Nat)} {o : YObj} (f : Fr (h.push o) a h') : Fr h a h' := by
  refine ⟨by have := f.1; simp at this; omega, fun j hj ha => ?_⟩
  rw [f.2 j (by simp; omega) ha, Heap.get_push, if_neg (by omega)]

theorem Fr.pushT {h h' : Heap} {a : Option (Nat × Nat)} {t : Option TypeId} {o : YObj} (f : Fr (h.pushT t o) a h') : Fr h a h' := by
  refine ⟨by have := f.1; simp at this; omega, fun j hj ha => ?_⟩
  rw [f.2 j (by simp; omega) ha, Heap.get_pushT, if_neg (by omega)]

theorem IsL.nil (h : Heap) (k : Nat) (c : Option Nat) (kk : Nat) : IsL h k none 0 c kk [] := ⟨by simp, .inl ⟨rfl, rfl, rfl⟩⟩

theorem IsL.frame {h h' : Heap} {k : Nat} {a b : Option (Nat × Nat)} {l : Nat} {c : Option Nat} {kk : Nat} {cs : List V} (hl : IsL h k a l c kk cs) (f : Fr h b h') (hne : ∀ j o, a = some (j, o) → ∀ o', b ≠ some (j, o')) : IsL h' k a l c kk cs := by
  refine ⟨hl.1, ?_⟩
  rcases hl.2 with h1 | ⟨id, rfl, h2, h3, h4, h5⟩
  · exact .inl h1
  · refine .inr ⟨id, rfl, h2, h3, by have := f.1; omega, ?_⟩
    rw [f.2 id h4 (hne id 0 rfl), h5]

theorem takeX_all (l : List V) : takeX l.length l = some l := by
  induction l with
  | nil => rfl
  | cons v l ih => simp [takeX, ih]

theorem takeX_len {l : List V} {n : Nat} (h : n = l.length) : takeX n l = some l := by subst h; exact takeX_all l

/-- An append of fresh elements. -/
theorem append_law {Y : YP} {h : Heap} {k : Nat} {a : Option (Nat × Nat)} {l : Nat} {c : Option Nat} {kk : Nat} {cs new : List V} {st e : TypeId} {te : TI} {m : Nat}
    (hk : Y.kd st = some (.slice e)) (hte : Y.ty e = some te) (hs : te.size = k) (hk0 : k ≠ 0) (hl : IsL h k a l c kk cs) (hm : m ≠ 0) (hn : m * k = new.length) (hc : allCells new = true)
    (hb : (l + m) * te.bytes ≤ most) (hb' : l + m ≤ most) :
    ∃ a' l' c' k' h', appendH Y (h.push (.arr new true)) st st (.sl a l c kk) (.sl (some (h.nx, 0)) m (some m) k) = some (.sl a' l' c' k', h') ∧
      IsL h' k a' l' c' k' (cs ++ new) ∧ Fr h a h' ∧ l' = l + m ∧ ∃ j, a' = some (j, 0) ∧ h.nx ≤ j := by
  have hsrc : source Y ⟨[], [], h.push (.arr new true)⟩ te st (.sl (some (h.nx, 0)) m (some m) k) = some (m, new) := by
    simp only [source, hk, elems, elemsS, hs, if_true, cellsAt, Heap.get_push, List.drop_zero]
    rw [takeX_len hn]; rfl
  have hg : ¬ ((!allCells new || decide (te.size = 0)) = true) := by simp [hc, hs, hk0]
  rcases hl.2 with ⟨rfl, rfl, rfl⟩ | ⟨id, rfl, rfl, rfl, hid, hget⟩
  · refine ⟨some (h.nx + 1, 0), m, none, k, (h.push (.arr new true)).pushT (Y.tag e) (.arr new true), ?_, ⟨by simpa using hn, .inr ⟨h.nx + 1, rfl, rfl, rfl, by simp, by simp [Heap.get_push]⟩⟩, ?_, by simp, h.nx + 1, rfl, by omega⟩
    · simp only [appendH, appendY, hk, hte, hsrc, hg, if_false, hm]
      have h1 : m * te.bytes ≤ most := by simpa using hb
      have h2 : m ≤ most := by simpa using hb'
      simp [h1, h2, hs]
    · exact ((Fr.refl _ _).pushT).push
  · have hlen := hl.1
    refine ⟨some (h.nx + 1, 0), l + m, none, kk, (((h.push (.arr new true)).set id none).pushT (if 0 = 0 ∧ (h.push (.arr new true)).tagOf id = some e then some e else none) (.arr (cs ++ new) true)), ?_, ⟨by rw [Nat.add_mul, hlen, hn, List.length_append], .inr ⟨h.nx + 1, rfl, rfl, rfl, by simp, by simp [Heap.get_push]⟩⟩, ?_, rfl, h.nx + 1, rfl, by omega⟩
    · have hgt : (h.push (.arr new true)).get id = some (.arr cs true) := by rw [Heap.get_push, if_neg (by omega), hget]
      have hb1 : ¬ ((l + m) * te.bytes > most ∨ l + m > most) := by omega
      have hne : ¬ (0 + (l + m) * kk ≤ cs.length) := by
        rw [← hlen, Nat.add_mul]
        have : 0 < m * kk := Nat.mul_pos (by omega) (by omega)
        omega
      have htk : takeX (l * kk) (cs.drop 0) = some cs := by rw [List.drop_zero]; exact takeX_len hlen
      simp only [appendH, appendY, hk, hte, hsrc, hg, if_false, hm, hs, ne_eq, not_true_eq_false, hb1, hgt, hne, Bool.true_or, if_true, htk]
      rw [if_neg (by simp [hc, hk0])]
      rfl
    · refine ⟨by simp; omega, fun j hj ha => ?_⟩
      have hji : j ≠ id := fun he => by subst he; exact ha 0 rfl
      rw [Heap.get_pushT, if_neg (by simp; omega), Heap.get_set, if_neg hji, Heap.get_push, if_neg (by omega)]
end Go.Y

/- Rows of elements of equal size. -/
namespace Go.Y

theorem takeX_eq_take {n : Nat} {l : List V} (h : n ≤ l.length) : takeX n l = some (l.take n) := by
  induction n generalizing l with
  | zero => simp [takeX]
  | succ n ih =>
    cases l with
    | nil => simp at h
    | cons v l => simp only [takeX, List.take_succ_cons]; rw [ih (by simpa using h)]; rfl

/-- The cells of a row. -/
def row {α : Type} (f : α → List V) (l : List α) : List V := (l.map f).flatten

theorem row_length {α : Type} {f : α → List V} {k : Nat} (hk : ∀ x, (f x).length = k) (l : List α) : (row f l).length = l.length * k := by
  induction l with
  | nil => simp [row]
  | cons x l ih =>
    have : row f (x :: l) = f x ++ row f l := by simp [row]
    rw [this, List.length_append, hk, ih, List.length_cons, Nat.add_mul]; omega

theorem row_drop {α : Type} {f : α → List V} {k : Nat} (hk : ∀ x, (f x).length = k) : ∀ (l : List α) (i : Nat), (row f l).drop (i * k) = row f (l.drop i)
  | [], i => by simp [row]
  | x :: l, 0 => by simp
  | x :: l, i + 1 => by
    have h : row f (x :: l) = f x ++ row f l := by simp [row]
    rw [h, List.drop_succ_cons, ← row_drop hk l i, Nat.add_mul, Nat.one_mul, Nat.add_comm, ← List.drop_drop]
    congr 1
    rw [← hk x]; simp

theorem row_get {α : Type} {f : α → List V} {k : Nat} (hk : ∀ x, (f x).length = k) {l : List α} {i : Nat} (hi : i < l.length) : takeX k ((row f l).drop (i * k)) = some (f l[i]) := by
  rw [row_drop hk]
  have : l.drop i = l[i] :: l.drop (i + 1) := List.drop_eq_getElem_cons hi
  rw [this]
  have h2 : ∀ (x : α) (m : List α), row f (x :: m) = f x ++ row f m := fun x m => by simp [row]
  rw [h2, takeX_eq_take (by simp [hk])]
  congr 1
  rw [← hk l[i]]; simp

theorem row_append {α : Type} {f : α → List V} (l m : List α) : row f (l ++ m) = row f l ++ row f m := by simp [row]
end Go.Y
