/- Rows of elements of equal size. -/
import Derived.Test.YtpddiafjmkjpmaaYList
namespace Go.Y

theorem takeX_eq_take {n : Nat} {l : List V} (h : n ≤ l.length) : takeX n l = some (l.take n) := by
  induction n generalizing l with
  | zero => simp [takeX]
  | succ n ih =>
    cases l with
    | nil => simp at h
    | cons v l => simp only [takeX, List.take_succ_cons]; rw [ih (by simpa using h)]; rfl

/-- The cells of a row. -/
def row {α : Type} (f : α → List V) (l : List α) : List V := (l.map f).flatten

theorem row_length {α : Type} {f : α → List V} {k : Nat} (hk : ∀ x, (f x).length = k) (l : List α) : (row f l).length = l.length * k := by
  induction l with
  | nil => simp [row]
  | cons x l ih =>
    have : row f (x :: l) = f x ++ row f l := by simp [row]
    rw [this, List.length_append, hk, ih, List.length_cons, Nat.add_mul]; omega

theorem row_drop {α : Type} {f : α → List V} {k : Nat} (hk : ∀ x, (f x).length = k) : ∀ (l : List α) (i : Nat), (row f l).drop (i * k) = row f (l.drop i)
  | [], i => by simp [row]
  | x :: l, 0 => by simp
  | x :: l, i + 1 => by
    have h : row f (x :: l) = f x ++ row f l := by simp [row]
    rw [h, List.drop_succ_cons, ← row_drop hk l i, Nat.add_mul, Nat.one_mul, Nat.add_comm, ← List.drop_drop]
    congr 1
    rw [← hk x]; simp

theorem row_get {α : Type} {f : α → List V} {k : Nat} (hk : ∀ x, (f x).length = k) {l : List α} {i : Nat} (hi : i < l.length) : takeX k ((row f l).drop (i * k)) = some (f l[i]) := by
  rw [row_drop hk]
  have : l.drop i = l[i] :: l.drop (i + 1) := List.drop_eq_getElem_cons hi
  rw [this]
  have h2 : ∀ (x : α) (m : List α), row f (x :: m) = f x ++ row f m := fun x m => by simp [row]
  rw [h2, takeX_eq_take (by simp [hk])]
  congr 1
  rw [← hk l[i]]; simp

theorem row_append {α : Type} {f : α → List V} (l m : List α) : row f (l ++ m) = row f l ++ row f m := by simp [row]
end Go.Y
