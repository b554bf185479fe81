/- Rising lists of numbers, in plain Lean: what is sorted and compacted is what is put in one by one. -/
import Derived.Test.YtdoanndgjipbmaaYFrz
import Derived.Sort.Row
import Derived.Sort.Grow
import Derived.Lib.SlicesCompact
import Derived.Test.YtdoanndgjipbmaaGCool
import Derived.Test.YtdoanndgjipbmaaGFromR
namespace Go.Y

def Rising (l : List Int) : Prop := l.Pairwise (· < ·)

/-- A number among rising ones, once. -/
def putS : List Int → Int → List Int
  | [], n => [n]
  | a :: l, n => if a < n then a :: putS l n else if a = n then a :: l else n :: a :: l
def allS (l more : List Int) : List Int := more.foldl putS l

theorem mem_putS {x n : Int} : ∀ {l : List Int}, x ∈ putS l n ↔ x = n ∨ x ∈ l
  | [] => by simp [putS]
  | a :: l => by
    unfold putS
    split
    · rw [List.mem_cons, mem_putS, List.mem_cons]; grind
    · split
      · rename_i h; subst h; simp
      · simp
theorem putS_rising {n : Int} : ∀ {l : List Int}, Rising l → Rising (putS l n)
  | [], _ => by simp [putS, Rising]
  | a :: l, h => by
    obtain ⟨h1, h2⟩ := List.pairwise_cons.1 h
    unfold putS
    split
    · rename_i hlt
      refine List.pairwise_cons.2 ⟨fun x hx => ?_, putS_rising h2⟩
      rcases mem_putS.1 hx with rfl | hx
      · exact hlt
      · exact h1 x hx
    · split
      · exact h
      · rename_i h3 h4
        refine List.pairwise_cons.2 ⟨fun x hx => ?_, h⟩
        rcases List.mem_cons.1 hx with rfl | hx
        · omega
        · have := h1 x hx; omega
theorem mem_allS {x : Int} : ∀ {more l : List Int}, x ∈ allS l more ↔ x ∈ l ∨ x ∈ more
  | [], l => by simp [allS]
  | n :: r, l => by
    have h : allS l (n :: r) = allS (putS l n) r := rfl
    rw [h, mem_allS, mem_putS, List.mem_cons]; grind
theorem allS_rising : ∀ {more l : List Int}, Rising l → Rising (allS l more)
  | [], l, h => h
  | n :: r, l, h => by
    have e : allS l (n :: r) = allS (putS l n) r := rfl
    rw [e]; exact allS_rising (putS_rising h)

/-- Two rising lists of the same numbers are one. -/
theorem rising_ext : ∀ {a b : List Int}, Rising a → Rising b → (∀ x, x ∈ a ↔ x ∈ b) → a = b
  | [], [], _, _, _ => rfl
  | [], y :: b, _, _, h => by have := (h y).2 (by simp); cases this
  | x :: a, [], _, _, h => by have := (h x).1 (by simp); cases this
  | x :: a, y :: b, ha, hb, h => by
    obtain ⟨a1, a2⟩ := List.pairwise_cons.1 ha
    obtain ⟨b1, b2⟩ := List.pairwise_cons.1 hb
    have hxy : x = y := by
      have h1 : x ∈ y :: b := (h x).1 (by simp)
      have h2 : y ∈ x :: a := (h y).2 (by simp)
      rcases List.mem_cons.1 h1 with h1 | h1
      · exact h1
      · rcases List.mem_cons.1 h2 with h2 | h2
        · exact h2.symm
        · have := b1 x h1; have := a1 y h2; omega
    subst hxy
    rw [rising_ext a2 b2 fun z => ?_]
    constructor
    · intro hz
      rcases List.mem_cons.1 ((h z).1 (List.mem_cons_of_mem _ hz)) with e | e
      · subst e; have := a1 z hz; omega
      · exact e
    · intro hz
      rcases List.mem_cons.1 ((h z).2 (List.mem_cons_of_mem _ hz)) with e | e
      · subst e; have := b1 z hz; omega
      · exact e

/-- Runs of equal numbers cut to one. -/
def dedupS : List Int → List Int
  | [] => []
  | [a] => [a]
  | a :: b :: l => if a = b then dedupS (b :: l) else a :: dedupS (b :: l)
theorem mem_dedupS {x : Int} : ∀ {l : List Int}, x ∈ dedupS l ↔ x ∈ l
  | [] => by simp [dedupS]
  | [a] => by simp [dedupS]
  | a :: b :: l => by
    unfold dedupS
    split
    · rename_i h; subst h; rw [mem_dedupS]; simp
    · rw [List.mem_cons, mem_dedupS, List.mem_cons (a := x) (b := a)]
theorem dedupS_rising : ∀ {l : List Int}, l.Pairwise (· ≤ ·) → Rising (dedupS l)
  | [], _ => by simp [dedupS, Rising]
  | [a], _ => by simp [dedupS, Rising]
  | a :: b :: l, h => by
    obtain ⟨h1, h2⟩ := List.pairwise_cons.1 h
    unfold dedupS
    split
    · exact dedupS_rising h2
    · rename_i hne
      refine List.pairwise_cons.2 ⟨fun x hx => ?_, dedupS_rising h2⟩
      have hx := mem_dedupS.1 hx
      have ha := h1 b (by simp)
      rcases List.mem_cons.1 hx with rfl | hx
      · omega
      · have := (List.pairwise_cons.1 h2).1 x hx
        omega
/-- What is sorted, and cut, is what is put in one by one. -/
theorem sorted_all {zs s : List Int} (hs : s.Pairwise (· ≤ ·)) (hm : ∀ x, x ∈ s ↔ x ∈ zs) : dedupS s = allS [] zs :=
  rising_ext (dedupS_rising hs) (allS_rising (by simp [Rising])) fun x => by rw [mem_dedupS, hm, mem_allS]; simp
end Go.Y

/- slices.Sort and slices.Compact at numbers, over memory, by what is known of them. -/
namespace Go.Y
open Go.Sort

abbrev intsV (zs : List Int) : List V := zs.map (V.i .i64)
abbrev encZ : Int → Value := Value.int .i64

theorem putRow_at (w : World) {b off : Nat} {d : Array Int} {c : Array Value} {e : TypeId} {fr : Nat × Nat} (h : w.heap[b]? = some (.cells c e fr)) :
    (putRow encZ w b off d).heap[b]? = some (.cells (putCells encZ off d c) e fr) := by
  simp only [putRow, mapBlock, Array.getElem?_modify, if_true, h, Option.map_some, onCells]
theorem putRow_off (w : World) {b c off : Nat} {d : Array Int} (h : c ≠ b) : (putRow encZ w b off d).heap[c]? = w.heap[c]? := by
  simp only [putRow, mapBlock, Array.getElem?_modify, if_neg (Ne.symm h)]

theorem HRel.holds {W : Vw} {h : Heap} {w : World} {id : Nat} {zs : List Int} (hr : HRel W h w) (hg : h.get id = some (.arr (intsV zs) true)) :
    Holds encZ w (W.mu id).1 (W.mu id).2 zs.toArray ∧ (W.mu id).1 < w.heap.size := by
  obtain ⟨c, e, fr, h1, h2, h3, h4, h5⟩ := hr.obj id _ hg
  refine ⟨fun j hj => ?_, lt_of_block h1⟩
  have hj : j < zs.length := by simpa using hj
  obtain ⟨u, hu, hvu⟩ := h4 j (.i .i64 zs[j]) (by simp [hj])
  cases hvu
  have hb := (Array.getElem?_eq_some_iff.1 hu).1
  constructor
  · rw [cell_of h1, hu]; simp [hj, encZ]
  · rw [frozen_of h1]
    have := h5 ((W.mu id).2 + j) (by simp) hb
    rw [Bool.eq_false_iff]
    simp only [ne_eq, Bool.and_eq_true, decide_eq_true_eq]
    exact this

theorem HRel.row {W : Vw} {h : Heap} {w : World} {id : Nat} {zs zs' : List Int} (hr : HRel W h w) (hg : h.get id = some (.arr (intsV zs) true)) (hl : zs'.length = zs.length) (n : Nat) :
    HRel W (h.set id (some (.arr (intsV zs') true))) (putRow encZ (Sort.ahead w n) (W.mu id).1 (W.mu id).2 zs'.toArray) ∧ Stp W W.own w W W.own (putRow encZ (Sort.ahead w n) (W.mu id).1 (W.mu id).2 zs'.toArray) := by
  obtain ⟨c, e, fr, h1, h2, h3, h4, h5⟩ := hr.obj id _ hg
  have hlv : W.lv id := (hr.lv id).2 (by simp [hg])
  have hsz : (putCells encZ (W.mu id).2 zs'.toArray c).size = c.size := by simp [putCells]
  have hstr : Str w (putRow encZ (Sort.ahead w n) (W.mu id).1 (W.mu id).2 zs'.toArray) := ⟨rfl, rfl, rfl⟩
  have ho : ORel W (putRow encZ (Sort.ahead w n) (W.mu id).1 (W.mu id).2 zs'.toArray) id (.arr (intsV zs') true) := by
    refine ⟨putCells encZ (W.mu id).2 zs'.toArray c, e, fr, putRow_at (Sort.ahead w n) h1, by rw [hsz]; exact h2, by rw [hsz]; simpa [hl] using h3, fun j v hj => ?_, fun j hj1 hj2 => h5 j (by simpa using hj1) (by rw [hsz] at hj2; exact hj2)⟩
    have hj' : j < zs'.length := by
      have := (List.getElem?_eq_some_iff.1 hj).1
      simpa using this
    have hv : v = .i .i64 zs'[j] := by
      have := hj
      simp [hj'] at this
      exact this.symm
    subst hv
    refine ⟨encZ zs'[j], ?_, .i _ _⟩
    have hb : (W.mu id).2 + j < c.size := by simp at h3; omega
    simp only [putCells, Array.getElem?_mapIdx, Array.getElem?_eq_getElem hb, Option.map_some]
    rw [if_pos ⟨by omega, by simp; omega⟩]
    simp [hj']
  refine hr.write hstr hlv (fun b hb => putRow_off (Sort.ahead w n) hb) (by simp) (fun c' e' fr' hc g1 g2 => ?_) ho
  rw [h1] at hc
  cases hc
  exact ⟨_, fr, putRow_at (Sort.ahead w n) h1, g1, by rw [hsz]; exact g2⟩

theorem HRel.grown {W : Vw} {h : Heap} {w : World} (hr : HRel W h w) (os : Array Obj) : ∃ W', HRel W' h (grow w os) ∧ Stp W W.own w W' W'.own (grow w os) := by
  have hk : ∀ b, b < w.heap.size → (grow w os).heap[b]? = w.heap[b]? := fun b hb => by
    simp only [grow, Array.getElem?_append_left hb]
  obtain ⟨g1, g2⟩ := hr.more (w' := grow w os) (s := W.snap) (fun _ _ h => h) (by simp [grow]) hk (fun b o hb => by
    have := hr.snap b o hb
    rw [hk b (lt_of_block this)]; exact this) ⟨rfl, rfl, rfl⟩
  exact ⟨_, g1, g2⟩

abbrev sortZ (zs : List Int) : List Int := zs.mergeSort fun x y => decide (x ≤ y)

abbrev SortSays (P : Program) (f : FuncId) : Prop := (∀ (blk off cap : Nat) (zs : List Int) (w : World), Holds encZ w blk off zs.toArray → blk < w.heap.size → zs.length < 4611686018427387904 →
      Calls P f #[.slice (some ⟨blk, off, none⟩) zs.length cap] w fun e w' => e = .returned (.tuple #[]) ∧ ∃ n os, w' = grow (putRow encZ (Sort.ahead w n) blk off (sortZ zs).toArray) os) ∧
    ∀ (w : World), Calls P f #[.slice none 0 0] w fun e w' => e = .returned (.tuple #[]) ∧ w' = w
abbrev CompactSays (P : Program) (f : FuncId) : Prop := (∀ (blk off cap : Nat) (zs : List Int) (w : World), Holds encZ w blk off zs.toArray → zs.length ≤ 9223372036854775807 → zs.length ≤ cap →
      Calls P f #[.slice (some ⟨blk, off, none⟩) zs.length cap] w fun e w' => e = .returned (.slice (some ⟨blk, off, none⟩) (Lib.compact zs).length cap) ∧ ∃ q, w' = putRow encZ (Sort.ahead w q) blk off (Lib.compact zs ++ List.replicate (zs.length - (Lib.compact zs).length) 0).toArray) ∧
    ∀ (w : World), Calls P f #[.slice none 0 0] w fun e w' => e = .returned (.slice none 0 0) ∧ w' = w

theorem sort_con {Y : YP} {f : FuncId} (hb : hasBody Y f) (hs : SortSays Y.P f) {h : Heap} {id k : Nat} {c : Option Nat} {zs : List Int} (hg : h.get id = some (.arr (intsV zs) true)) (hne : zs ≠ []) (hl : zs.length < 2 ^ 60) :
    Con Y f [.sl (some (id, 0)) zs.length c k] h fun v h' => v = .tup [] ∧ h' = h.set id (some (.arr (intsV (sortZ zs)) true)) :=
  ⟨hb, fun W w us hr hv => by
    obtain ⟨g1, g2⟩ := hr.holds hg
    have hpos : 0 < zs.length := List.length_pos_iff.2 hne
    have hlv : W.lv id := (hr.lv id).2 (by simp [hg])
    cases hv with
    | cons _ u _ _ h1 h2 =>
      cases h2
      cases h1 with
      | sls _ _ _ _ _ a cap' hid hl' hc ha hn hk =>
        have ha' := ha hlv (by omega)
        subst ha'
        refine (hs.1 _ _ cap' zs w g1 g2 (by omega)).mono ?_
        rintro e w' ⟨rfl, n, os, rfl⟩
        obtain ⟨q1, q2⟩ := hr.row hg (zs' := sortZ zs) (List.length_mergeSort _) n
        obtain ⟨W', q3, q4⟩ := q1.grown os
        exact ⟨.tup [], _, W', _, ⟨rfl, rfl⟩, rfl, q3, .tup [] [] .nil, q2.trans q4⟩⟩

theorem sort_con0 {Y : YP} {f : FuncId} (hb : hasBody Y f) (hs : SortSays Y.P f) {h : Heap} {k : Nat} {c : Option Nat} :
    Con Y f [.sl none 0 c k] h fun v h' => v = .tup [] ∧ h' = h :=
  ⟨hb, fun W w us hr hv => by
    cases hv with
    | cons _ u _ _ h1 h2 =>
      cases h2
      cases h1
      refine (hs.2 w).mono ?_
      rintro e w' ⟨rfl, rfl⟩
      exact ⟨.tup [], _, W, _, ⟨rfl, rfl⟩, rfl, hr, .tup [] [] .nil, .refl _ _ _⟩⟩

/-! ### Compact -/
def keepL : Int → List Int → List Int
  | _, [] => []
  | a, b :: l => if b = a then keepL b l else b :: keepL b l
theorem dedup_keep : ∀ (a : Int) (l : List Int), dedupS (a :: l) = a :: keepL a l
  | a, [] => by simp [dedupS, keepL]
  | a, b :: l => by
    have ih := dedup_keep b l
    unfold dedupS keepL
    by_cases h : a = b
    · rw [if_pos h, if_pos h.symm, ih, h]
    · rw [if_neg h, if_neg (Ne.symm h), ih]
theorem keep_range : ∀ (a : Int) (l : List Int), ((List.range l.length).filter fun j => decide ((a :: l)[j + 1]! ≠ (a :: l)[j]!)).map (fun j => (a :: l)[j + 1]!) = keepL a l
  | a, [] => by simp [keepL]
  | a, b :: l => by
    have ih := keep_range b l
    have e : List.range (b :: l).length = 0 :: (List.range l.length).map Nat.succ := by
      rw [List.length_cons, List.range_succ_eq_map]
    rw [e, List.filter_cons, List.filter_map]
    have e1 : ((fun j => decide ((a :: b :: l)[j + 1]! ≠ (a :: b :: l)[j]!)) ∘ Nat.succ) = fun j => decide ((b :: l)[j + 1]! ≠ (b :: l)[j]!) := rfl
    unfold keepL
    rw [e1]
    by_cases h : b = a
    · subst h
      rw [if_neg (by simp), List.map_map]
      simp only [if_true]
      exact ih
    · rw [if_neg h, if_pos (by simpa using h), List.map_cons, List.map_map]
      exact congrArg (b :: ·) ih
theorem compact_dedup : ∀ zs : List Int, Lib.compact zs = dedupS zs
  | [] => rfl
  | a :: l => by
    rw [dedup_keep, ← keep_range]
    unfold Lib.compact Lib.compactUpTo
    rw [List.length_cons, List.range_succ_eq_map, List.filter_cons, List.filter_map, if_pos (by simp [Lib.keeps]), List.map_cons, List.map_map]
    have e0 : (a :: l).toArray[0]! = a := by simp
    rw [e0]
    refine congrArg (a :: ·) ?_
    have e1 : (Lib.keeps (a :: l).toArray ∘ Nat.succ) = fun j => decide ((a :: l)[j + 1]! ≠ (a :: l)[j]!) := by
      funext j; simp [Lib.keeps]
    rw [e1]
    refine List.map_congr_left fun j _ => ?_
    simp
theorem dedup_le : ∀ zs : List Int, (dedupS zs).length ≤ zs.length
  | [] => by simp [dedupS]
  | [a] => by simp [dedupS]
  | a :: b :: l => by
    have := dedup_le (b :: l)
    unfold dedupS
    split
    · simp at this ⊢; omega
    · simp at this ⊢; omega

abbrev restZ (zs : List Int) : List Int := dedupS zs ++ List.replicate (zs.length - (dedupS zs).length) 0

theorem compact_con {Y : YP} {f : FuncId} (hb : hasBody Y f) (hs : CompactSays Y.P f) {h : Heap} {id k : Nat} {c : Option Nat} {zs : List Int} (hg : h.get id = some (.arr (intsV zs) true)) (hne : zs ≠ []) (hl : zs.length < 2 ^ 60) :
    Con Y f [.sl (some (id, 0)) zs.length c k] h fun v h' => v = .sl (some (id, 0)) (dedupS zs).length c k ∧ h' = h.set id (some (.arr (intsV (restZ zs)) true)) :=
  ⟨hb, fun W w us hr hv => by
    obtain ⟨g1, g2⟩ := hr.holds hg
    have hpos : 0 < zs.length := List.length_pos_iff.2 hne
    have hlv : W.lv id := (hr.lv id).2 (by simp [hg])
    have hd := dedup_le zs
    cases hv with
    | cons _ u _ _ h1 h2 =>
      cases h2
      cases h1 with
      | sls _ _ _ _ _ a cap' hid hl' hc ha hn hk =>
        have ha' := ha hlv (by omega)
        subst ha'
        refine (hs.1 _ _ cap' zs w g1 (by omega) hl').mono ?_
        rintro e w' ⟨rfl, n, rfl⟩
        rw [compact_dedup]
        obtain ⟨q1, q2⟩ := hr.row hg (zs' := restZ zs) (by simp; omega) n
        exact ⟨.sl (some (id, 0)) (dedupS zs).length c k, _, W, _, ⟨rfl, rfl⟩, rfl, q1, .sls _ _ _ _ _ _ cap' hid (by omega) hc (fun _ _ => rfl) hn hk, q2⟩⟩

theorem compact_con0 {Y : YP} {f : FuncId} (hb : hasBody Y f) (hs : CompactSays Y.P f) {h : Heap} {k : Nat} {c : Option Nat} :
    Con Y f [.sl none 0 c k] h fun v h' => v = .sl none 0 c k ∧ h' = h :=
  ⟨hb, fun W w us hr hv => by
    cases hv with
    | cons _ u _ _ h1 h2 =>
      cases h2
      cases h1
      refine (hs.2 w).mono ?_
      rintro e w' ⟨rfl, rfl⟩
      exact ⟨.sl none 0 c k, _, W, _, ⟨rfl, rfl⟩, rfl, hr, .sln _ _, .refl _ _ _⟩⟩

theorem sortZ_le (zs : List Int) : (sortZ zs).Pairwise (· ≤ ·) := by
  have := List.pairwise_mergeSort (le := fun x y : Int => decide (x ≤ y)) (fun a b c h g => by simp at *; omega) (fun a b => by simp; omega) zs
  exact this.imp (fun h => by simpa using h)
theorem sortZ_mem (zs : List Int) (x : Int) : x ∈ sortZ zs ↔ x ∈ zs := List.mem_mergeSort
theorem sortZ_all (zs : List Int) : dedupS (sortZ zs) = allS [] zs := sorted_all (sortZ_le zs) (sortZ_mem zs)
end Go.Y

/- A list of numbers whose cells are just its own. -/
namespace Go.Y
open Go.Proofs Tar
set_option maxRecDepth 100000

/-- The list is a whole object; behind it there is no room. -/
structure OutL (h : Heap) (id l : Nat) (c : Option Nat) (zs : List Int) : Prop where
  len : l = zs.length
  get : h.get id = some (.arr (ints zs) true)
  lt : id < h.nx
  cap : ∀ c', c = some c' → c' = l

theorem ints_all (l : List Int) : allCells (ints l) = true := by
  induction l with
  | nil => rfl
  | cons x l ih => simpa [ints, allCells, V.cellOK] using ih

theorem OutL.app {h : Heap} {id l : Nat} {c : Option Nat} {zs : List Int} (o : OutL h id l c zs) (x : Int) (hb : zs.length < 2 ^ 29) :
    ∃ h', appendH Try.Y h 26 26 (.sl (some (id, 0)) l c 1) (.ts [.i .i64 x] 1 (some 1)) = some (.sl (some (h.nx, 0)) (l + 1) none 1, h') ∧ OutL h' h.nx (l + 1) none (zs ++ [x]) ∧ FrS h (fun j => j = id) h' := by
  have hm : most = 1099511627776 := by decide
  have hk : Try.Y.kd 26 = some (.slice 3) := by kernel_rfl
  have hte : Try.Y.ty 3 = some ⟨1, 8, .int .i64, [.i .i64 0]⟩ := by kernel_rfl
  have hsrc : source Try.Y ⟨[], [], h⟩ ⟨1, 8, .int .i64, [.i .i64 0]⟩ 26 (.ts [.i .i64 x] 1 (some 1)) = some (1, [.i .i64 x]) := by
    simp only [source, hk, elems, elemsS]; rfl
  have hl := o.len
  have hcl : (ints zs).length = zs.length := by simp [ints]
  have hb1 : ¬ ((l + 1) * 8 > most ∨ l + 1 > most) := by rw [hm]; omega
  have happ : ints zs ++ [V.i .i64 x] = ints (zs ++ [x]) := by simp [ints]
  have hall : allCells [V.i .i64 x] = true := rfl
  have htk : takeX (l * 1) ((ints zs).drop 0) = some (ints zs) := by rw [List.drop_zero]; exact takeX_len (by omega)
  cases c with
  | none =>
    refine ⟨(h.set id none).pushT (if 0 = 0 ∧ h.tagOf id = some 3 then some 3 else none) (.arr (ints zs ++ [.i .i64 x]) true), ?_, ⟨by simp [hl], by rw [happ]; simp, by simp, fun c' hc => by cases hc⟩, ⟨by simp, fun j hj hn => ?_⟩⟩
    · have hfit : ¬ (0 + (l + 1) * 1 ≤ (ints zs).length) := by omega
      simp only [appendH, appendY, hk, hte, hsrc, ne_eq, not_true_eq_false, if_false, hb1, o.get, hfit, Bool.true_or, if_true, htk, hall]
      simp
    · rw [Heap.get_pushT, if_neg (by simp; omega), Heap.get_set, if_neg hn]
  | some c' =>
    have hc := o.cap c' rfl
    subst hc
    refine ⟨h.push (.arr (ints zs ++ [.i .i64 x]) true), ?_, ⟨by simp [hl], by rw [happ]; simp, by simp, fun c' hc => by cases hc⟩, ⟨by simp, fun j hj hn => by rw [Heap.get_push, if_neg (by omega)]⟩⟩
    have hfit : ¬ (c' + 1 ≤ c') := by omega
    simp only [appendH, appendY, hk, hte, hsrc, ne_eq, not_true_eq_false, if_false, hb1, hfit, cellsAt, o.get, htk, hall]
    simp
end Go.Y

/- From. -/
namespace Go.Y
open Go.Proofs Tar
set_option maxRecDepth 100000

/-- What is met so far: 'out' holds each of it once; the first i of 'out' are gone through. -/
structure F17 (G : List (List Int)) (a id5 : Nat) (on : List Bool) (out : List Nat) (h : Heap) (id6 l6 : Nat) (c6 : Option Nat) : Prop where
  get : h.get id5 = some (.arr (bools on) true)
  lt : id5 < h.nx
  len : on.length = G.length
  o : OutL h id6 l6 c6 (out.map Int.ofNat)
  ne : id6 ≠ id5
  st : a ∈ out
  nd : out.Nodup
  mem : ∀ u, u ∈ out ↔ on.getD u false = true
  snd : ∀ u ∈ out, Tar.Reach (sucI G) a u

def O17 (G : List (List Int)) (a : Nat) (m : Nat) (vs : List V) (h : Heap) : Prop :=
  ∃ (id5 id6 l6 : Nat) (c6 : Option Nat) (on : List Bool) (out : List Nat) (i : Nat), vs = [gBox G, .sl (some (id5, 0)) G.length (some G.length) 1, .sl (some (id6, 0)) l6 c6 1, .i .i64 (i : Nat)] ∧ F17 G a id5 on out h id6 l6 c6 ∧ i ≤ out.length ∧ m = G.length - i ∧
    ∀ u ∈ out.take i, ∀ x ∈ sucI G u, x ∈ out
def J17 (G : List (List Int)) (a : Nat) (i : Nat) (v : Nat) (r : List Int) (m : Nat) (vs : List V) (h : Heap) : Prop :=
  ∃ (id5 id6 l6 : Nat) (c6 : Option Nat) (on : List Bool) (out : List Nat) (k : Nat), vs = [gBox G, .sl (some (id5, 0)) G.length (some G.length) 1, .sl (some (id6, 0)) l6 c6 1, .i .i64 (i : Nat), encR r, .i .i64 (r.length : Nat), .i .i64 (k : Nat)] ∧ F17 G a id5 on out h id6 l6 c6 ∧
    out[i]? = some v ∧ k ≤ r.length ∧ m = r.length - k ∧ (∀ u ∈ out.take i, ∀ x ∈ sucI G u, x ∈ out) ∧ ∀ x ∈ (sucI G v).take k, x ∈ out

theorem nodup_len {n : Nat} {out : List Nat} (hn : out.Nodup) (hl : ∀ u ∈ out, u < n) : out.length ≤ n := by
  have := hn.length_le_of_subset (l₂ := List.range n) fun u hu => List.mem_range.2 (hl u hu)
  simpa using this

theorem lt_ext : ∀ {a b : List Int}, a.Pairwise (· < ·) → b.Pairwise (· < ·) → (∀ x, x ∈ a ↔ x ∈ b) → a = b
  | [], [], _, _, _ => rfl
  | [], y :: b, _, _, h => absurd ((h y).2 (by simp)) (by simp)
  | x :: a, [], _, _, h => absurd ((h x).1 (by simp)) (by simp)
  | x :: a, y :: b, ha, hb, h => by
    obtain ⟨h1, h2⟩ := List.pairwise_cons.1 ha
    obtain ⟨h3, h4⟩ := List.pairwise_cons.1 hb
    have hxy : x = y := by
      have e1 := (h x).1 (by simp)
      have e2 := (h y).2 (by simp)
      rcases List.mem_cons.1 e1 with e1 | e1
      · exact e1
      · rcases List.mem_cons.1 e2 with e2 | e2
        · exact e2.symm
        · have := h1 y e2; have := h3 x e1; omega
    subst hxy
    congr 1
    refine lt_ext h2 h4 fun z => ⟨fun hz => ?_, fun hz => ?_⟩
    · have := (h z).1 (by simp [hz])
      rcases List.mem_cons.1 this with e | e
      · have := h1 z hz; omega
      · exact e
    · have := (h z).2 (by simp [hz])
      rcases List.mem_cons.1 this with e | e
      · have := h3 z hz; omega
      · exact e

theorem sort_from {G : List (List Int)} (hm : mayG G = true) {a : Nat} (ha : a < G.length) {out : List Nat} (hn : out.Nodup) (hmem : ∀ u, u ∈ out ↔ Tar.Reach (sucI G) a u) : sortZ (out.map Int.ofNat) = fromG G (a : Nat) := by
  have hin : ∀ x, x ∈ sortZ (out.map Int.ofNat) ↔ x ∈ fromG G (a : Nat) := fun x => by
    rw [sortZ_mem]
    unfold fromG
    rw [if_pos ⟨hm, by omega, by omega⟩]
    simp only [List.mem_map, List.mem_filter, List.mem_range, decide_eq_true_eq]
    constructor
    · rintro ⟨u, hu, rfl⟩
      have := (hmem u).1 hu
      exact ⟨u, ⟨reach_lt hm ha this, this⟩, rfl⟩
    · rintro ⟨u, ⟨_, hu⟩, rfl⟩
      exact ⟨u, (hmem u).2 hu, rfl⟩
  refine lt_ext ?_ ?_ hin
  · have h1 := sortZ_le (out.map Int.ofNat)
    have h2 : (sortZ (out.map Int.ofNat)).Nodup := (List.mergeSort_perm _ _).nodup_iff.2 (List.Pairwise.map _ (fun x y (hxy : x ≠ y) (h : Int.ofNat x = Int.ofNat y) => hxy (Int.ofNat.inj h)) hn)
    refine (h1.and h2).imp fun ⟨p, q⟩ => by omega
  · unfold fromG
    rw [if_pos ⟨hm, by omega, by omega⟩]
    refine List.Pairwise.map _ (fun x y (h : x < y) => ?_) (List.pairwise_lt_range.filter _)
    show ((x : Nat) : Int) < (y : Nat)
    omega
end Go.Y
