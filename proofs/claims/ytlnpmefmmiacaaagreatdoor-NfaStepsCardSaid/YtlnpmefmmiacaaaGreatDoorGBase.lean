/- Sides as values, and small laws. -/
import Derived.Test.YtlnpmefmmiacaaaGreatDoorGWk
namespace Go.Y
set_option maxRecDepth 100000

structure Side where
  on : Bool
  shut : Bool
  eof : Bool
  place : Int
  clock : Int
  typed : List UInt8
  lines : List (List UInt8)
  fly : List UInt8
  ages : List Int
  ready : List UInt8
  buffer : List UInt8

abbrev encI (n : Int) : List V := [.i .i64 n]
abbrev encT (s : List UInt8) : List V := [.s s]
theorem encI_len (n : Int) : (encI n).length = 1 := rfl
theorem encT_len (s : List UInt8) : (encT s).length = 1 := rfl
abbrev sideL (s : Side) (lines ages : V) : List V := [.b s.on, .b s.shut, .b s.eof, .i .i64 s.place, .i .i64 s.clock, .s s.typed, lines, .s s.fly, ages, .s s.ready, .s s.buffer]
abbrev sideC (s : Side) : List V := sideL s (lst encT s.lines) (lst encI s.ages)
abbrev side0 : List V := [.b false, .b false, .b false, .i .i64 0, .i .i64 0, .s [], .sl none 0 (some 0) 0, .s [], .sl none 0 (some 0) 0, .s [], .s []]

theorem row_one {α : Type} (f : α → V) (l : List α) : row (fun a => [f a]) l = l.map f := by
  induction l with
  | nil => rfl
  | cons a l ih => simp only [row, List.map_cons, List.flatten_cons] at ih ⊢; rw [ih]; rfl
theorem rowI (l : List Int) : row encI l = l.map (.i .i64) := row_one _ l
theorem rowI_len (l : List Int) : (row encI l).length = l.length := by rw [rowI]; simp
theorem rowI_all (l : List Int) : allCells (row encI l) = true := by
  rw [rowI]
  induction l with
  | nil => rfl
  | cons a l ih => simp only [List.map_cons, allCells, ih, Bool.and_true]; rfl
theorem rowI_frz (l : List Int) (h : Heap) : FrzL h (row encI l) (row encI l) := by
  rw [rowI]
  induction l with
  | nil => exact .nil
  | cons a l ih => exact .cons _ _ _ _ (.i _ _) ih


theorem range_snoc {p : Nat → Bool} {i : Nat} (h : (List.range i).all p = true) (hp : p i = true) : (List.range (i + 1)).all p = true := by
  rw [List.range_succ, List.all_append, h]; simp [hp]

theorem bnd_nat {i n : Nat} (h : i < n) : (0 : Int) ≤ (i : Nat) ∧ ((i : Nat) : Int) < (n : Nat) := ⟨by omega, by omega⟩
end Go.Y

/- Rising lists of numbers, in plain Lean: what is sorted and compacted is what is put in one by one. -/
namespace Go.Y

def Rising (l : List Int) : Prop := l.Pairwise (· < ·)

/-- A number among rising ones, once. -/
def putS : List Int → Int → List Int
  | [], n => [n]
  | a :: l, n => if a < n then a :: putS l n else if a = n then a :: l else n :: a :: l
def allS (l more : List Int) : List Int := more.foldl putS l

theorem mem_putS {x n : Int} : ∀ {l : List Int}, x ∈ putS l n ↔ x = n ∨ x ∈ l
  | [] => by simp [putS]
  | a :: l => by
    unfold putS
    split
    · rw [List.mem_cons, mem_putS, List.mem_cons]; grind
    · split
      · rename_i h; subst h; simp
      · simp
theorem putS_rising {n : Int} : ∀ {l : List Int}, Rising l → Rising (putS l n)
  | [], _ => by simp [putS, Rising]
  | a :: l, h => by
    obtain ⟨h1, h2⟩ := List.pairwise_cons.1 h
    unfold putS
    split
    · rename_i hlt
      refine List.pairwise_cons.2 ⟨fun x hx => ?_, putS_rising h2⟩
      rcases mem_putS.1 hx with rfl | hx
      · exact hlt
      · exact h1 x hx
    · split
      · exact h
      · rename_i h3 h4
        refine List.pairwise_cons.2 ⟨fun x hx => ?_, h⟩
        rcases List.mem_cons.1 hx with rfl | hx
        · omega
        · have := h1 x hx; omega
theorem mem_allS {x : Int} : ∀ {more l : List Int}, x ∈ allS l more ↔ x ∈ l ∨ x ∈ more
  | [], l => by simp [allS]
  | n :: r, l => by
    have h : allS l (n :: r) = allS (putS l n) r := rfl
    rw [h, mem_allS, mem_putS, List.mem_cons]; grind
theorem allS_rising : ∀ {more l : List Int}, Rising l → Rising (allS l more)
  | [], l, h => h
  | n :: r, l, h => by
    have e : allS l (n :: r) = allS (putS l n) r := rfl
    rw [e]; exact allS_rising (putS_rising h)

/-- Two rising lists of the same numbers are one. -/
theorem rising_ext : ∀ {a b : List Int}, Rising a → Rising b → (∀ x, x ∈ a ↔ x ∈ b) → a = b
  | [], [], _, _, _ => rfl
  | [], y :: b, _, _, h => by have := (h y).2 (by simp); cases this
  | x :: a, [], _, _, h => by have := (h x).1 (by simp); cases this
  | x :: a, y :: b, ha, hb, h => by
    obtain ⟨a1, a2⟩ := List.pairwise_cons.1 ha
    obtain ⟨b1, b2⟩ := List.pairwise_cons.1 hb
    have hxy : x = y := by
      have h1 : x ∈ y :: b := (h x).1 (by simp)
      have h2 : y ∈ x :: a := (h y).2 (by simp)
      rcases List.mem_cons.1 h1 with h1 | h1
      · exact h1
      · rcases List.mem_cons.1 h2 with h2 | h2
        · exact h2.symm
        · have := b1 x h1; have := a1 y h2; omega
    subst hxy
    rw [rising_ext a2 b2 fun z => ?_]
    constructor
    · intro hz
      rcases List.mem_cons.1 ((h z).1 (List.mem_cons_of_mem _ hz)) with e | e
      · subst e; have := a1 z hz; omega
      · exact e
    · intro hz
      rcases List.mem_cons.1 ((h z).2 (List.mem_cons_of_mem _ hz)) with e | e
      · subst e; have := b1 z hz; omega
      · exact e

/-- Runs of equal numbers cut to one. -/
def dedupS : List Int → List Int
  | [] => []
  | [a] => [a]
  | a :: b :: l => if a = b then dedupS (b :: l) else a :: dedupS (b :: l)
theorem mem_dedupS {x : Int} : ∀ {l : List Int}, x ∈ dedupS l ↔ x ∈ l
  | [] => by simp [dedupS]
  | [a] => by simp [dedupS]
  | a :: b :: l => by
    unfold dedupS
    split
    · rename_i h; subst h; rw [mem_dedupS]; simp
    · rw [List.mem_cons, mem_dedupS, List.mem_cons (a := x) (b := a)]
theorem dedupS_rising : ∀ {l : List Int}, l.Pairwise (· ≤ ·) → Rising (dedupS l)
  | [], _ => by simp [dedupS, Rising]
  | [a], _ => by simp [dedupS, Rising]
  | a :: b :: l, h => by
    obtain ⟨h1, h2⟩ := List.pairwise_cons.1 h
    unfold dedupS
    split
    · exact dedupS_rising h2
    · rename_i hne
      refine List.pairwise_cons.2 ⟨fun x hx => ?_, dedupS_rising h2⟩
      have hx := mem_dedupS.1 hx
      have ha := h1 b (by simp)
      rcases List.mem_cons.1 hx with rfl | hx
      · omega
      · have := (List.pairwise_cons.1 h2).1 x hx
        omega
/-- What is sorted, and cut, is what is put in one by one. -/
theorem sorted_all {zs s : List Int} (hs : s.Pairwise (· ≤ ·)) (hm : ∀ x, x ∈ s ↔ x ∈ zs) : dedupS s = allS [] zs :=
  rising_ext (dedupS_rising hs) (allS_rising (by simp [Rising])) fun x => by rw [mem_dedupS, hm, mem_allS]; simp
end Go.Y

/- Automata as values; small laws. -/
namespace Go.Y
set_option maxRecDepth 100000

theorem hcells_of {h : Heap} {id : Nat} {cs : List V} {wr : Bool} (hg : h.get id = some (.arr cs wr)) (off n : Nat) : hcells h id off n = takeX n (cs.drop off) := by
  simp only [hcells, hg]
theorem all_no {α : Type} {p : α → Bool} {l : List α} {i : Nat} (hi : i < l.length) (h : p l[i] = false) : l.all p = false :=
  List.all_eq_false.2 ⟨l[i], List.getElem_mem hi, by simp [h]⟩
theorem all_snoc {α : Type} {p : α → Bool} {l : List α} {i : Nat} (hi : i < l.length) (h : (l.take i).all p = true) (h1 : p l[i] = true) : (l.take (i + 1)).all p = true := by
  rw [List.take_succ_eq_append_getElem hi, List.all_append, h]
  simp [h1]
theorem any_neg {α : Type} (p : α → Bool) (k : List α) : (k.any fun x => !p x) = !k.all p := by
  induction k with
  | nil => rfl
  | cons x k ih => rw [List.any_cons, List.all_cons, ih]; cases p x <;> simp

abbrev Set4 := Int × Int × Int × Int
structure Au where
  sets : List Set4
  first : List Int
  last : List Int
  follow : List (List Int)
  empty : Bool
abbrev encS4 (x : Set4) : List V := [.i .u64 x.1, .i .u64 x.2.1, .i .u64 x.2.2.1, .i .u64 x.2.2.2]
abbrev encL (l : List Int) : List V := [lst encI l]
theorem encS4_len (x : Set4) : (encS4 x).length = 4 := rfl
theorem encL_len (x : List Int) : (encL x).length = 1 := rfl
abbrev auC (a : Au) : List V := [lst encS4 a.sets, lst encI a.first, lst encI a.last, lst encL a.follow, .b a.empty]

theorem getI (l : List Int) {i : Nat} (h : i < l.length) : takeX 1 (List.drop (((i : Nat) : Int).toNat * 1) (row encI l)) = some [.i .i64 l[i]] := by
  rw [Int.toNat_natCast]; exact row_get (f := encI) (k := 1) encI_len h
theorem getL (l : List (List Int)) {i : Nat} (h : i < l.length) : takeX 1 (List.drop (((i : Nat) : Int).toNat * 1) (row encL l)) = some [lst encI l[i]] := by
  rw [Int.toNat_natCast]; exact row_get (f := encL) (k := 1) encL_len h

/-! ### rising -/
def okAt (l : List Int) (n : Int) (i : Nat) : Bool := !ltI (l.getD i 0) 0 && !leI n (l.getD i 0) && !(decide (0 < i) && leI (l.getD i 0) (l.getD (i - 1) 0))
def risB (l : List Int) (n : Int) : Bool := (List.range l.length).all (okAt l n)
theorem risB_no {l : List Int} {n : Int} {i : Nat} (hi : i < l.length) (h : okAt l n i = false) : risB l n = false :=
  List.all_eq_false.2 ⟨i, List.mem_range.2 hi, by simp [h]⟩
theorem getD_at {l : List Int} {i : Nat} (hi : i < l.length) : l.getD i 0 = l[i] := by simp [hi]

def mayA (a : Au) : Bool := decide (a.sets.length ≤ 300) && decide (a.follow.length = a.sets.length) && risB a.first a.sets.length && risB a.last a.sets.length && a.follow.all fun l => risB l a.sets.length

theorem risB_mem {l : List Int} {n : Int} (h : risB l n = true) {x : Int} (hx : x ∈ l) : 0 ≤ x ∧ x < n := by
  obtain ⟨i, hi, rfl⟩ := List.getElem_of_mem hx
  have := List.all_eq_true.1 h i (List.mem_range.2 hi)
  simp only [okAt, getD_at hi, Bool.and_eq_true, Bool.not_eq_true', ltI, leI, decide_eq_false_iff_not] at this
  omega
theorem risB_rising {l : List Int} {n : Int} (h : risB l n = true) : Rising l := by
  unfold Rising
  rw [List.pairwise_iff_getElem]
  have step : ∀ i (hi : i + 1 < l.length), l[i] < l[i + 1] := by
    intro i hi
    have := List.all_eq_true.1 h (i + 1) (List.mem_range.2 hi)
    simp only [okAt, getD_at hi, Nat.add_sub_cancel, getD_at (show i < l.length by omega), Bool.and_eq_true, Bool.not_eq_true', leI] at this
    have h2 := this.2
    simp at h2
    exact h2
  intro i j hi hj hij
  induction j with
  | zero => omega
  | succ j ih =>
    rcases Nat.lt_or_ge i j with h1 | h1
    · exact Int.lt_trans (ih (by omega) h1) (step j hj)
    · have : i = j := by omega
      subst this
      exact step i hj
end Go.Y
