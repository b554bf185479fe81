/- Rising lists of numbers, in plain Lean: what is sorted and compacted is what is put in one by one. -/
import Derived.Test.YteennilbmmlikaaGreatDoorGGlush6
import Derived.Test.YteennilbmmlikaaGreatDoorEConc
import Derived.Test.YteennilbmmlikaaGreatDoorGRule
namespace Go.Y

def Rising (l : List Int) : Prop := l.Pairwise (· < ·)

def putS : List Int → Int → List Int
  | [], n => [n]
  | a :: l, n => if a < n then a :: putS l n else if a = n then a :: l else n :: a :: l
def allS (l more : List Int) : List Int := more.foldl putS l

theorem mem_putS {x n : Int} : ∀ {l : List Int}, x ∈ putS l n ↔ x = n ∨ x ∈ l
  | [] => by simp [putS]
  | a :: l => by
    unfold putS
    split
    · rw [List.mem_cons, mem_putS, List.mem_cons]; grind
    · split
      · rename_i h; subst h; simp
      · simp
theorem putS_rising {n : Int} : ∀ {l : List Int}, Rising l → Rising (putS l n)
  | [], _ => by simp [putS, Rising]
  | a :: l, h => by
    obtain ⟨h1, h2⟩ := List.pairwise_cons.1 h
    unfold putS
    split
    · rename_i hlt
      refine List.pairwise_cons.2 ⟨fun x hx => ?_, putS_rising h2⟩
      rcases mem_putS.1 hx with rfl | hx
      · exact hlt
      · exact h1 x hx
    · split
      · exact h
      · rename_i h3 h4
        refine List.pairwise_cons.2 ⟨fun x hx => ?_, h⟩
        rcases List.mem_cons.1 hx with rfl | hx
        · omega
        · have := h1 x hx; omega
theorem mem_allS {x : Int} : ∀ {more l : List Int}, x ∈ allS l more ↔ x ∈ l ∨ x ∈ more
  | [], l => by simp [allS]
  | n :: r, l => by
    have h : allS l (n :: r) = allS (putS l n) r := rfl
    rw [h, mem_allS, mem_putS, List.mem_cons]; grind
theorem allS_rising : ∀ {more l : List Int}, Rising l → Rising (allS l more)
  | [], l, h => h
  | n :: r, l, h => by
    have e : allS l (n :: r) = allS (putS l n) r := rfl
    rw [e]; exact allS_rising (putS_rising h)

theorem rising_ext : ∀ {a b : List Int}, Rising a → Rising b → (∀ x, x ∈ a ↔ x ∈ b) → a = b
  | [], [], _, _, _ => rfl
  | [], y :: b, _, _, h => by have := (h y).2 (by simp); cases this
  | x :: a, [], _, _, h => by have := (h x).1 (by simp); cases this
  | x :: a, y :: b, ha, hb, h => by
    obtain ⟨a1, a2⟩ := List.pairwise_cons.1 ha
    obtain ⟨b1, b2⟩ := List.pairwise_cons.1 hb
    have hxy : x = y := by
      have h1 : x ∈ y :: b := (h x).1 (by simp)
      have h2 : y ∈ x :: a := (h y).2 (by simp)
      rcases List.mem_cons.1 h1 with h1 | h1
      · exact h1
      · rcases List.mem_cons.1 h2 with h2 | h2
        · exact h2.symm
        · have := b1 x h1; have := a1 y h2; omega
    subst hxy
    rw [rising_ext a2 b2 fun z => ?_]
    constructor
    · intro hz
      rcases List.mem_cons.1 ((h z).1 (List.mem_cons_of_mem _ hz)) with e | e
      · subst e; have := a1 z hz; omega
      · exact e
    · intro hz
      rcases List.mem_cons.1 ((h z).2 (List.mem_cons_of_mem _ hz)) with e | e
      · subst e; have := b1 z hz; omega
      · exact e

def dedupS : List Int → List Int
  | [] => []
  | [a] => [a]
  | a :: b :: l => if a = b then dedupS (b :: l) else a :: dedupS (b :: l)
theorem mem_dedupS {x : Int} : ∀ {l : List Int}, x ∈ dedupS l ↔ x ∈ l
  | [] => by simp [dedupS]
  | [a] => by simp [dedupS]
  | a :: b :: l => by
    unfold dedupS
    split
    · rename_i h; subst h; rw [mem_dedupS]; simp
    · rw [List.mem_cons, mem_dedupS, List.mem_cons (a := x) (b := a)]
theorem dedupS_rising : ∀ {l : List Int}, l.Pairwise (· ≤ ·) → Rising (dedupS l)
  | [], _ => by simp [dedupS, Rising]
  | [a], _ => by simp [dedupS, Rising]
  | a :: b :: l, h => by
    obtain ⟨h1, h2⟩ := List.pairwise_cons.1 h
    unfold dedupS
    split
    · exact dedupS_rising h2
    · rename_i hne
      refine List.pairwise_cons.2 ⟨fun x hx => ?_, dedupS_rising h2⟩
      have hx := mem_dedupS.1 hx
      have ha := h1 b (by simp)
      rcases List.mem_cons.1 hx with rfl | hx
      · omega
      · have := (List.pairwise_cons.1 h2).1 x hx
        omega
theorem sorted_all {zs s : List Int} (hs : s.Pairwise (· ≤ ·)) (hm : ∀ x, x ∈ s ↔ x ∈ zs) : dedupS s = allS [] zs :=
  rising_ext (dedupS_rising hs) (allS_rising (by simp [Rising])) fun x => by rw [mem_dedupS, hm, mem_allS]; simp
end Go.Y

/- Automata, what they do: plain definitions (those of wip/n's GN0, GN2, GN4, GN5, GN6, without any program). -/
namespace Go.Y
abbrev Set4 := Int × Int × Int × Int
structure Au where
  sets : List Set4
  first : List Int
  last : List Int
  follow : List (List Int)
  empty : Bool
def okAt (l : List Int) (n : Int) (i : Nat) : Bool := !decide (l.getD i 0 < 0) && !decide (n ≤ l.getD i 0) && !(decide (0 < i) && decide (l.getD i 0 ≤ l.getD (i - 1) 0))
def pick4 (x0 x1 x2 x3 : Int) : Nat → Int
  | 0 => x0
  | 1 => x1
  | 2 => x2
  | _ => x3
abbrev pickS (x : Set4) (k : Nat) : Int := pick4 x.1 x.2.1 x.2.2.1 x.2.2.2 k
def hasN (x : Set4) (c : Nat) : Bool := ((pickS x (c / 64)).fdiv ((2 : Int) ^ (c % 64))) % 2 == 1
abbrev set0 : Set4 := (0, 0, 0, 0)
def havL (sets : List Set4) (l : List Int) (c : Nat) : List Int := l.filter fun p => hasN (sets.getD p.toNat set0) c
def inR (a : Au) (p : Int) : Bool := decide (0 ≤ p) && decide (p < a.sets.length)
def nextL (a : Au) (c : Nat) (p : Int) : List Int := if inR a p then havL a.sets (a.follow.getD p.toNat []) c else []
def catL (a : Au) (ps : List Int) (c : Nat) : List Int := ps.flatMap (nextL a c)
def stepA (a : Au) (ps : List Int) (c : Nat) : List Int := allS [] (catL a ps c)
def hasI (l : List Int) (x : Int) : Bool := l.any fun y => x == y
def endsA (a : Au) (ps : List Int) : Bool := ps.any fun p => hasI a.last p
def walkA (a : Au) (c : UInt8) (r : List UInt8) : List Int := r.foldl (fun ps c => stepA a ps c.toNat) (havL a.sets a.first c.toNat)
def runA (a : Au) : List UInt8 → Bool
  | [] => a.empty
  | c :: r => endsA a (walkA a c r)
end Go.Y

/- What is run over, set by set. Plain. -/
namespace Go.Y.Gl

def stepS (has : Nat → UInt8 → Bool) (f : Nat → Nat → Prop) (S : Nat → Prop) (c : UInt8) (y : Nat) : Prop := ∃ x, S x ∧ f x y ∧ has y c = true
def afterS (has : Nat → UInt8 → Bool) (f : Nat → Nat → Prop) : (Nat → Prop) → List UInt8 → Nat → Prop
  | S, [] => S
  | S, c :: w => afterS has f (stepS has f S c) w

theorem after_from {has : Nat → UInt8 → Bool} {f : Nat → Nat → Prop} {l : Nat → Prop} : ∀ (w : List UInt8) (S : Nat → Prop), (∃ z, afterS has f S w z ∧ l z) ↔ ∃ x, S x ∧ ((w = [] ∧ l x) ∨ ∃ y, f x y ∧ From has f l y w)
  | [], S => by
    constructor
    · rintro ⟨z, h1, h2⟩; exact ⟨z, h1, .inl ⟨rfl, h2⟩⟩
    · rintro ⟨x, h1, ⟨_, h2⟩ | ⟨y, _, h2⟩⟩
      · exact ⟨x, h1, h2⟩
      · exact h2.elim
  | c :: w, S => by
    show (∃ z, afterS has f (stepS has f S c) w z ∧ l z) ↔ _
    rw [after_from w]
    constructor
    · rintro ⟨y, ⟨x, h1, h2, h3⟩, h4⟩
      exact ⟨x, h1, .inr ⟨y, h2, h3, h4⟩⟩
    · rintro ⟨x, h1, ⟨h2, _⟩ | ⟨y, h2, h3, h4⟩⟩
      · cases h2
      · exact ⟨y, ⟨x, h1, h2, h3⟩, h4⟩

theorem run_acc {has : Nat → UInt8 → Bool} {f : Nat → Nat → Prop} {first last : Nat → Prop} {e : Prop} (c : UInt8) (w : List UInt8) : Acc has f first last e (c :: w) ↔ ∃ z, afterS has f (fun x => first x ∧ has x c = true) w z ∧ last z := by
  rw [after_from]
  constructor
  · rintro (⟨h, _⟩ | ⟨x, h1, h2, h3⟩)
    · cases h
    · exact ⟨x, ⟨h1, h2⟩, h3⟩
  · rintro ⟨x, ⟨h1, h2⟩, h3⟩
    exact .inr ⟨x, h1, h2, h3⟩
theorem run_nil {has : Nat → UInt8 → Bool} {f : Nat → Nat → Prop} {first last : Nat → Prop} {e : Prop} : Acc has f first last e [] ↔ e := by
  constructor
  · rintro (⟨_, h⟩ | ⟨x, _, h⟩)
    · exact h
    · exact h.elim
  · intro h; exact .inl ⟨rfl, h⟩
end Go.Y.Gl

/- What the automaton of an expression runs over. Plain. -/
namespace Go.Y
open Gl

abbrev ints (l : List Nat) : List Int := l.map fun (n : Nat) => (n : Int)
def auF (A : Au0) (p : Part) : Au := ⟨A.sets, ints p.first, ints p.last, A.fol.map ints, p.empty⟩
def hasC (x : S4) (c : UInt8) : Bool := hasN x c.toNat

theorem mem_ints {l : List Nat} {n : Nat} : (n : Int) ∈ ints l ↔ n ∈ l := by
  simp only [ints, List.mem_map]
  constructor
  · rintro ⟨m, h, e⟩; have : m = n := by omega
    exact this ▸ h
  · intro h; exact ⟨n, h, rfl⟩
theorem ints_nat {l : List Nat} {x : Int} (h : x ∈ ints l) : ∃ n : Nat, x = n ∧ n ∈ l := by
  obtain ⟨n, h1, e⟩ := List.mem_map.1 h
  exact ⟨n, e.symm, h1⟩

structure Inn (A : Au0) (p : Part) : Prop where
  wf : A.fol.length = A.sets.length
  fi : ∀ x ∈ p.first, x < A.sets.length
  la : ∀ x ∈ p.last, x < A.sets.length
  cl : ∀ x y, folA A x y → y < A.sets.length

theorem has_at {A : Au0} {x : Nat} (h : x < A.sets.length) (c : UInt8) : hasN (A.sets.getD ((x : Nat) : Int).toNat set0) c.toNat = hasA hasC A x c := by
  simp [hasA, hasC, h]
theorem fol_at {A : Au0} {x : Nat} : (A.fol.map ints).getD x [] = ints (A.fol.getD x []) := by
  simp only [List.getD_eq_getElem?_getD, List.getElem?_map]
  cases A.fol[x]? <;> rfl

def Stands (ps : List Int) (S : Nat → Prop) : Prop := (∀ n : Nat, (n : Int) ∈ ps ↔ S n) ∧ ∀ x ∈ ps, 0 ≤ x

theorem step_stands {A : Au0} {p : Part} (hI : Inn A p) {ps : List Int} {S : Nat → Prop} (h : Stands ps S) (hS : ∀ x, S x → x < A.sets.length) (c : UInt8) :
    Stands (stepA (auF A p) ps c.toNat) (stepS (hasA hasC A) (folA A) S c) ∧ ∀ x, stepS (hasA hasC A) (folA A) S c x → x < A.sets.length := by
  have key : ∀ y : Int, y ∈ stepA (auF A p) ps c.toNat ↔ ∃ n : Nat, y = n ∧ stepS (hasA hasC A) (folA A) S c n := by
    intro y
    unfold stepA catL
    rw [mem_allS]
    simp only [List.not_mem_nil, false_or, List.mem_flatMap]
    constructor
    · rintro ⟨x, h1, h2⟩
      have h0 := h.2 x h1
      obtain ⟨n, rfl⟩ := Int.eq_ofNat_of_zero_le h0
      unfold nextL at h2
      split at h2
      · obtain ⟨h3, h4⟩ := List.mem_filter.1 h2
        have h3 : y ∈ ints (A.fol.getD n []) := by rw [← fol_at]; exact h3
        obtain ⟨m, rfl, h5⟩ := ints_nat h3
        exact ⟨m, rfl, n, (h.1 n).1 h1, h5, by rw [← has_at (hI.cl n m h5)]; exact h4⟩
      · cases h2
    · rintro ⟨m, rfl, n, h1, h2, h3⟩
      refine ⟨n, (h.1 n).2 h1, ?_⟩
      have hn := hS n h1
      unfold nextL
      have : inR (auF A p) (n : Int) = true := by simp [inR, auF, hn]
      rw [if_pos this]
      refine List.mem_filter.2 ⟨?_, ?_⟩
      · show (m : Int) ∈ (A.fol.map ints).getD n []
        rw [fol_at]; exact mem_ints.2 h2
      · rw [← has_at (hI.cl n m h2)] at h3; exact h3
  refine ⟨⟨fun n => ?_, fun x hx => ?_⟩, fun x hx => ?_⟩
  · rw [key]
    constructor
    · rintro ⟨m, e, h1⟩; have : m = n := by omega
      exact this ▸ h1
    · intro h1; exact ⟨n, rfl, h1⟩
  · obtain ⟨n, rfl, _⟩ := (key x).1 hx; omega
  · obtain ⟨y, _, h2, _⟩ := hx
    exact hI.cl y x h2

theorem fold_stands {A : Au0} {p : Part} (hI : Inn A p) : ∀ (w : List UInt8) {ps : List Int} {S : Nat → Prop}, Stands ps S → (∀ x, S x → x < A.sets.length) →
    Stands (w.foldl (fun ps c => stepA (auF A p) ps c.toNat) ps) (afterS (hasA hasC A) (folA A) S w)
  | [], _, _, h, _ => h
  | c :: w, _, _, h, hS => by
    obtain ⟨h1, h2⟩ := step_stands hI h hS c
    exact fold_stands hI w h1 h2

theorem runA_acc {A : Au0} {p : Part} (hI : Inn A p) (w : List UInt8) : runA (auF A p) w = true ↔ accA hasC A p w := by
  cases w with
  | nil => exact run_nil.symm
  | cons c w =>
    unfold accA
    rw [run_acc]
    show endsA (auF A p) (walkA (auF A p) c w) = true ↔ _
    have h0 : Stands (havL A.sets (ints p.first) c.toNat) (fun x => x ∈ p.first ∧ hasA hasC A x c = true) := by
      refine ⟨fun n => ?_, fun x hx => ?_⟩
      · unfold havL
        rw [List.mem_filter, mem_ints]
        constructor
        · rintro ⟨h1, h2⟩; exact ⟨h1, by rw [← has_at (hI.fi n h1)]; exact h2⟩
        · rintro ⟨h1, h2⟩; exact ⟨h1, by rw [← has_at (hI.fi n h1)] at h2; exact h2⟩
      · obtain ⟨n, rfl, _⟩ := ints_nat (List.mem_filter.1 hx).1; omega
    have h1 := fold_stands hI w h0 (fun x hx => hI.fi x hx.1)
    unfold endsA
    rw [List.any_eq_true]
    constructor
    · rintro ⟨x, h2, h3⟩
      obtain ⟨n, rfl⟩ := Int.eq_ofNat_of_zero_le (h1.2 x h2)
      refine ⟨n, (h1.1 n).1 h2, ?_⟩
      unfold hasI at h3
      obtain ⟨y, h4, h5⟩ := List.any_eq_true.1 h3
      have : y = (n : Int) := (eq_of_beq h5).symm
      subst this
      exact mem_ints.1 h4
    · rintro ⟨n, h2, h3⟩
      refine ⟨n, (h1.1 n).2 h2, ?_⟩
      unfold hasI
      exact List.any_eq_true.2 ⟨n, mem_ints.2 h3, by simp⟩

def makeA (bo : List Nat → List Nat → List Nat) (r : Re) : Au := auF (partF bo r ⟨[], []⟩).1 (partF bo r ⟨[], []⟩).2

theorem makeA_runs {bo : List Nat → List Nat → List Nat} (hbo : ∀ a b x, x ∈ bo a b ↔ x ∈ a ∨ x ∈ b) {r : Re} (h : okRe r) (w : List UInt8) : runA (makeA bo r) w = true ↔ ReL hasC r w := by
  have f := part_frag (has := hasC) hbo r h ⟨[], []⟩ rfl
  have hI : Inn (partF bo r ⟨[], []⟩).1 (partF bo r ⟨[], []⟩).2 := ⟨f.wf, fun x hx => (f.fi x hx).2, fun x hx => (f.la x hx).2, fun x y hxy => by
    by_cases hx : x < (partF bo r ⟨[], []⟩).1.sets.length
    · exact (f.cl x (Nat.zero_le _) hx y hxy).2
    · have : (partF bo r ⟨[], []⟩).1.fol.getD x [] = [] := by simp [List.getD_eq_getElem?_getD, List.getElem?_eq_none (show (partF bo r ⟨[], []⟩).1.fol.length ≤ x by have := f.wf; omega)]
      rw [folA, this] at hxy; cases hxy⟩
  rw [← f.ac w]
  exact runA_acc hI w
end Go.Y

/- How great the automaton of an expression is. Plain. -/
namespace Go.Y
open Gl

def boS (a b : List Nat) : List Nat := (allS [] (ints a ++ ints b)).map Int.toNat
theorem boS_mem (a b : List Nat) (x : Nat) : x ∈ boS a b ↔ x ∈ a ∨ x ∈ b := by
  unfold boS
  simp only [List.mem_map, mem_allS, List.not_mem_nil, false_or, List.mem_append]
  constructor
  · rintro ⟨y, h | h, rfl⟩
    · obtain ⟨n, hn, rfl⟩ := h; exact .inl (by simpa using hn)
    · obtain ⟨n, hn, rfl⟩ := h; exact .inr (by simpa using hn)
  · rintro (h | h)
    · exact ⟨(x : Int), .inl ⟨x, h, rfl⟩, by simp⟩
    · exact ⟨(x : Int), .inr ⟨x, h, rfl⟩, by simp⟩
theorem ints_toNat : ∀ {l : List Int}, (∀ x ∈ l, 0 ≤ x) → ints (l.map Int.toNat) = l
  | [], _ => rfl
  | x :: l, h => by
    have h1 := h x (by simp)
    have h2 := ints_toNat (l := l) fun y hy => h y (by simp [hy])
    simp only [ints, List.map_cons, List.map_map] at h2 ⊢
    rw [h2]
    congr 1
    omega
theorem ints_bo (a b : List Nat) : ints (boS a b) = allS [] (ints a ++ ints b) := by
  refine ints_toNat fun x hx => ?_
  rw [mem_allS] at hx
  rcases hx with hx | hx
  · cases hx
  · rcases List.mem_append.1 hx with hx | hx
    · obtain ⟨n, rfl, _⟩ := ints_nat hx; omega
    · obtain ⟨n, rfl, _⟩ := ints_nat hx; omega
theorem rising_ints {l : List Nat} : Rising (ints l) ↔ l.Pairwise (· < ·) := by
  unfold Rising ints
  rw [List.pairwise_map]
  exact ⟨fun h => h.imp fun h => by omega, fun h => h.imp fun h => by omega⟩

def Rz (n : Nat) (l : List Nat) : Prop := l.Pairwise (· < ·) ∧ ∀ x ∈ l, x < n
theorem Rz.mono {n m : Nat} {l : List Nat} (h : Rz n l) (hm : n ≤ m) : Rz m l := ⟨h.1, fun x hx => Nat.lt_of_lt_of_le (h.2 x hx) hm⟩
theorem Rz.nil (n : Nat) : Rz n [] := ⟨.nil, fun x hx => by cases hx⟩
theorem Rz.bo {n : Nat} {a b : List Nat} (ha : ∀ x ∈ a, x < n) (hb : ∀ x ∈ b, x < n) : Rz n (boS a b) :=
  ⟨rising_ints.1 (by rw [ints_bo]; exact allS_rising .nil), fun x hx => ((boS_mem a b x).1 hx).elim (ha x) (hb x)⟩
theorem pw_len : ∀ {l : List Nat} {k n : Nat}, l.Pairwise (· < ·) → (∀ x ∈ l, k ≤ x ∧ x < n) → l.length ≤ n - k
  | [], _, _, _, _ => Nat.zero_le _
  | x :: l, k, n, h, g => by
    obtain ⟨h1, h2⟩ := List.pairwise_cons.1 h
    have gx := g x (by simp)
    have := pw_len (k := x + 1) (n := n) h2 fun y hy => ⟨h1 y hy, (g y (by simp [hy])).2⟩
    rw [List.length_cons]; omega
theorem Rz.len {n : Nat} {l : List Nat} (h : Rz n l) : l.length ≤ n := by
  have := pw_len (k := 0) h.1 fun x hx => ⟨Nat.zero_le _, h.2 x hx⟩
  omega

structure AuB (A : Au0) : Prop where
  wf : A.fol.length = A.sets.length
  fo : ∀ l ∈ A.fol, Rz A.sets.length l
structure PaB (n : Nat) (p : Part) : Prop where
  fi : Rz n p.first
  la : Rz n p.last
theorem PaB.mono {n m : Nat} {p : Part} (h : PaB n p) (hm : n ≤ m) : PaB m p := ⟨h.fi.mono hm, h.la.mono hm⟩
theorem PaB.nil (n : Nat) (e : Bool) : PaB n ⟨[], [], e⟩ := ⟨.nil n, .nil n⟩

theorem link_B {n : Nat} {to : List Nat} (ht : ∀ x ∈ to, x < n) : ∀ (src : List Nat) (fol : List (List Nat)), (∀ l ∈ fol, Rz n l) → (linkF boS fol src to).length = fol.length ∧ ∀ l ∈ linkF boS fol src to, Rz n l
  | [], fol, h => ⟨rfl, h⟩
  | p :: src, fol, h => by
    have hs : ∀ l ∈ fol.set p (boS (fol.getD p []) to), Rz n l := fun l hl => by
      rcases List.mem_or_eq_of_mem_set hl with hl | rfl
      · exact h l hl
      · refine Rz.bo (fun x hx => ?_) ht
        rw [List.getD_eq_getElem?_getD] at hx
        cases hg : fol[p]? with
        | none => rw [hg] at hx; cases hx
        | some m => rw [hg] at hx; exact (h m (List.mem_of_getElem? hg)).2 x hx
    obtain ⟨h1, h2⟩ := link_B ht src _ hs
    exact ⟨by show (linkF boS (fol.set p _) src to).length = _; rw [h1, List.length_set], h2⟩
theorem AuB.link {A : Au0} (h : AuB A) {src to : List Nat} (ht : ∀ x ∈ to, x < A.sets.length) : AuB ⟨A.sets, linkF boS A.fol src to⟩ := by
  obtain ⟨h1, h2⟩ := link_B ht src A.fol h.fo
  exact ⟨h1.trans h.wf, h2⟩
theorem cat_B {A : Au0} {a b : Part} (h : AuB A) (ha : PaB A.sets.length a) (hb : PaB A.sets.length b) : AuB (catP boS A a b).1 ∧ PaB A.sets.length (catP boS A a b).2 := by
  refine ⟨h.link hb.fi.2, ?_, ?_⟩
  · show Rz _ (if a.empty then boS a.first b.first else a.first)
    split
    · exact Rz.bo ha.fi.2 hb.fi.2
    · exact ha.fi
  · show Rz _ (if b.empty then boS a.last b.last else b.last)
    split
    · exact Rz.bo ha.la.2 hb.la.2
    · exact hb.la
theorem rep_B {g : Au0 → Au0 × Part} {c : Nat} (hg : ∀ A, AuB A → AuB (g A).1 ∧ PaB (g A).1.sets.length (g A).2 ∧ (g A).1.sets.length = A.sets.length + c) (lo hi : Int) (n : Nat) :
    ∀ (k i : Nat) (A : Au0) (out : Part), AuB A → PaB A.sets.length out → AuB (repP boS g lo hi n k i A out).1 ∧ PaB (repP boS g lo hi n k i A out).1.sets.length (repP boS g lo hi n k i A out).2 ∧ (repP boS g lo hi n k i A out).1.sets.length = A.sets.length + k * c
  | 0, i, A, out, hA, ho => ⟨hA, ho, by simp [repP]⟩
  | k + 1, i, A, out, hA, ho => by
    obtain ⟨g1, g2, g3⟩ := hg A hA
    rw [repP]
    try simp only []
    have hA1 : AuB (if hi < 0 ∧ i + 1 = n then loopP boS (g A).1 (g A).2 else (g A).1) ∧ (if hi < 0 ∧ i + 1 = n then loopP boS (g A).1 (g A).2 else (g A).1).sets.length = (g A).1.sets.length := by
      split
      · exact ⟨g1.link g2.fi.2, rfl⟩
      · exact ⟨g1, rfl⟩
    generalize (if hi < 0 ∧ i + 1 = n then loopP boS (g A).1 (g A).2 else (g A).1) = A1 at hA1
    obtain ⟨k1, k2⟩ := hA1
    have hx : PaB A1.sets.length ⟨(g A).2.first, (g A).2.last, (g A).2.empty || decide (lo ≤ (i : Int))⟩ := by rw [k2]; exact ⟨g2.fi, g2.la⟩
    obtain ⟨c1, c2⟩ := cat_B k1 (ho.mono (by omega)) hx
    have hl : (catP boS A1 out ⟨(g A).2.first, (g A).2.last, (g A).2.empty || decide (lo ≤ (i : Int))⟩).1.sets.length = A1.sets.length := rfl
    obtain ⟨r1, r2, r3⟩ := rep_B hg lo hi n k (i + 1) _ _ c1 (by rw [hl]; exact c2)
    exact ⟨r1, r2, by rw [r3, hl, k2, g3, Nat.add_mul]; omega⟩

mutual
theorem part_B {B : Nat} : ∀ (r : Re), wfRe B r → ∀ A, AuB A → AuB (partF boS r A).1 ∧ PaB (partF boS r A).1.sets.length (partF boS r A).2 ∧ (partF boS r A).1.sets.length = A.sets.length + cntRe r
  | .mk kind set kids lo hi n, h, A, hA => by
    rw [wfRe] at h
    obtain ⟨h1, h2, _, h4⟩ := h
    rw [partF, cntRe]
    dsimp only
    by_cases e1 : kind = 1
    · rw [if_pos e1, if_pos e1]
      refine ⟨⟨by simp [hA.wf], fun l hl => ?_⟩, ⟨⟨by simp, fun x hx => ?_⟩, ⟨by simp, fun x hx => ?_⟩⟩, by simp⟩
      · rcases List.mem_append.1 hl with hl | hl
        · exact (hA.fo l hl).mono (by simp)
        · rw [List.mem_singleton] at hl; subst hl; exact Rz.nil _
      · simp at hx; simp [hx]
      · simp at hx; simp [hx]
    rw [if_neg e1, if_neg e1]
    by_cases e5 : kind = 5
    · rw [if_pos e5, if_neg (by omega)]
      exact alt_B kids h4 A hA _ (PaB.nil _ _)
    rw [if_neg e5]
    by_cases e4 : kind = 4 ∨ kind = 7
    · rw [if_pos e4, if_neg (by omega)]
      exact catL_B kids h4 A hA _ (PaB.nil _ _)
    rw [if_neg e4]
    by_cases e6 : kind = 6
    · rw [if_pos e6, if_pos e6]
      have hk := (h1 e6).2.2.2
      match kids, hk, h4 with
      | [r], _, h4 =>
        rw [wfRe.wfRes] at h4
        rw [partF.repF, cntRe.cnts, cntRe.cnts, Nat.add_zero]
        exact rep_B (fun A hA => part_B r h4.1 A hA) lo hi _ _ 0 A _ hA (PaB.nil _ _)
    · rw [if_neg e6, if_neg e6]
      have : kids = [] := h2 (by omega) (by omega) (by omega) (by omega)
      subst this
      rw [cntRe.cnts]
      exact ⟨hA, PaB.nil _ _, rfl⟩
theorem alt_B {B : Nat} : ∀ (l : List Re), wfRe.wfRes B l → ∀ A, AuB A → ∀ out, PaB A.sets.length out → AuB (partF.altF boS l A out).1 ∧ PaB (partF.altF boS l A out).1.sets.length (partF.altF boS l A out).2 ∧ (partF.altF boS l A out).1.sets.length = A.sets.length + cntRe.cnts l
  | [], _, A, hA, out, ho => by rw [partF.altF, cntRe.cnts]; exact ⟨hA, ho, rfl⟩
  | r :: l, h, A, hA, out, ho => by
    rw [wfRe.wfRes] at h
    rw [partF.altF, cntRe.cnts]
    obtain ⟨p1, p2, p3⟩ := part_B r h.1 A hA
    have ho' := ho.mono (show A.sets.length ≤ (partF boS r A).1.sets.length by omega)
    obtain ⟨q1, q2, q3⟩ := alt_B l h.2 _ p1 ⟨boS out.first (partF boS r A).2.first, boS out.last (partF boS r A).2.last, out.empty || (partF boS r A).2.empty⟩ ⟨Rz.bo ho'.fi.2 p2.fi.2, Rz.bo ho'.la.2 p2.la.2⟩
    exact ⟨q1, q2, by rw [q3, p3]; omega⟩
theorem catL_B {B : Nat} : ∀ (l : List Re), wfRe.wfRes B l → ∀ A, AuB A → ∀ out, PaB A.sets.length out → AuB (partF.catF boS l A out).1 ∧ PaB (partF.catF boS l A out).1.sets.length (partF.catF boS l A out).2 ∧ (partF.catF boS l A out).1.sets.length = A.sets.length + cntRe.cnts l
  | [], _, A, hA, out, ho => by rw [partF.catF, cntRe.cnts]; exact ⟨hA, ho, rfl⟩
  | r :: l, h, A, hA, out, ho => by
    rw [wfRe.wfRes] at h
    rw [partF.catF, cntRe.cnts]
    obtain ⟨p1, p2, p3⟩ := part_B r h.1 A hA
    have ho' := ho.mono (show A.sets.length ≤ (partF boS r A).1.sets.length by omega)
    obtain ⟨c1, c2⟩ := cat_B p1 ho' p2
    have hl : (catP boS (partF boS r A).1 out (partF boS r A).2).1.sets.length = (partF boS r A).1.sets.length := rfl
    obtain ⟨q1, q2, q3⟩ := catL_B l h.2 _ c1 _ (by rw [hl]; exact c2)
    exact ⟨q1, q2, by rw [q3, hl, p3]; omega⟩
end
end Go.Y

/- The lists of the automaton that grows, in memory: nil or frozen. -/
namespace Go.Y

def foV : Option (List Nat) → List V
  | none => [.sl none 0 (some 0) 0]
  | some l => [lst encI (ints l)]
theorem row_cell1 {α : Type} {f : α → List V} (hf : ∀ x, (f x).length = 1) : ∀ (l : List α) (i : Nat) (x : α), i < l.length → splice (row f l) i (f x) = row f (l.set i x)
  | y :: l, 0, x, _ => by
    have h1 : row f (y :: l) = f y ++ row f l := rfl
    have h2 : row f ((y :: l).set 0 x) = f x ++ row f l := rfl
    rw [h1, h2]
    obtain ⟨a, ha⟩ := List.length_eq_one_iff.1 (hf y)
    rw [ha]
    simp only [List.cons_append, List.nil_append, splice, hf, List.drop_succ_cons, List.drop_zero]
  | y :: l, i + 1, x, h => by
    have h1 : row f (y :: l) = f y ++ row f l := rfl
    have h2 : row f ((y :: l).set (i + 1) x) = f y ++ row f (l.set i x) := rfl
    rw [h1, h2]
    obtain ⟨a, ha⟩ := List.length_eq_one_iff.1 (hf y)
    rw [ha]
    simp only [List.cons_append, List.nil_append, splice]
    rw [row_cell1 hf l i x (by simpa using h)]
def foL (x : Option (List Nat)) : List Nat := x.getD []
end Go.Y
