/- slices.Sort and slices.Compact at numbers, over memory, by what is known of them. -/
import Derived.Test.YtlnpmefmmiacaaaGreatDoorYFrz
import Derived.Sort.Row
import Derived.Sort.Grow
import Derived.Lib.SlicesCompact
import Derived.Test.YtlnpmefmmiacaaaGreatDoorGBase
import Derived.Test.YtlnpmefmmiacaaaGreatDoorGCool
namespace Go.Y
open Go.Sort

abbrev intsV (zs : List Int) : List V := zs.map (V.i .i64)
abbrev encZ : Int → Value := Value.int .i64

theorem putRow_at (w : World) {b off : Nat} {d : Array Int} {c : Array Value} {e : TypeId} {fr : Nat × Nat} (h : w.heap[b]? = some (.cells c e fr)) :
    (putRow encZ w b off d).heap[b]? = some (.cells (putCells encZ off d c) e fr) := by
  simp only [putRow, mapBlock, Array.getElem?_modify, if_true, h, Option.map_some, onCells]
theorem putRow_off (w : World) {b c off : Nat} {d : Array Int} (h : c ≠ b) : (putRow encZ w b off d).heap[c]? = w.heap[c]? := by
  simp only [putRow, mapBlock, Array.getElem?_modify, if_neg (Ne.symm h)]

theorem HRel.holds {W : Vw} {h : Heap} {w : World} {id : Nat} {zs : List Int} (hr : HRel W h w) (hg : h.get id = some (.arr (intsV zs) true)) :
    Holds encZ w (W.mu id).1 (W.mu id).2 zs.toArray ∧ (W.mu id).1 < w.heap.size := by
  obtain ⟨c, e, fr, h1, h2, h3, h4, h5⟩ := hr.obj id _ hg
  refine ⟨fun j hj => ?_, lt_of_block h1⟩
  have hj : j < zs.length := by simpa using hj
  obtain ⟨u, hu, hvu⟩ := h4 j (.i .i64 zs[j]) (by simp [hj])
  cases hvu
  have hb := (Array.getElem?_eq_some_iff.1 hu).1
  constructor
  · rw [cell_of h1, hu]; simp [hj, encZ]
  · rw [frozen_of h1]
    have := h5 ((W.mu id).2 + j) (by simp) hb
    rw [Bool.eq_false_iff]
    simp only [ne_eq, Bool.and_eq_true, decide_eq_true_eq]
    exact this

theorem HRel.row {W : Vw} {h : Heap} {w : World} {id : Nat} {zs zs' : List Int} (hr : HRel W h w) (hg : h.get id = some (.arr (intsV zs) true)) (hl : zs'.length = zs.length) (n : Nat) :
    HRel W (h.set id (some (.arr (intsV zs') true))) (putRow encZ (Sort.ahead w n) (W.mu id).1 (W.mu id).2 zs'.toArray) ∧ Stp W W.own w W W.own (putRow encZ (Sort.ahead w n) (W.mu id).1 (W.mu id).2 zs'.toArray) := by
  obtain ⟨c, e, fr, h1, h2, h3, h4, h5⟩ := hr.obj id _ hg
  have hlv : W.lv id := (hr.lv id).2 (by simp [hg])
  have hsz : (putCells encZ (W.mu id).2 zs'.toArray c).size = c.size := by simp [putCells]
  have hstr : Str w (putRow encZ (Sort.ahead w n) (W.mu id).1 (W.mu id).2 zs'.toArray) := ⟨rfl, rfl, rfl⟩
  have ho : ORel W (putRow encZ (Sort.ahead w n) (W.mu id).1 (W.mu id).2 zs'.toArray) id (.arr (intsV zs') true) := by
    refine ⟨putCells encZ (W.mu id).2 zs'.toArray c, e, fr, putRow_at (Sort.ahead w n) h1, by rw [hsz]; exact h2, by rw [hsz]; simpa [hl] using h3, fun j v hj => ?_, fun j hj1 hj2 => h5 j (by simpa using hj1) (by rw [hsz] at hj2; exact hj2)⟩
    have hj' : j < zs'.length := by
      have := (List.getElem?_eq_some_iff.1 hj).1
      simpa using this
    have hv : v = .i .i64 zs'[j] := by
      have := hj
      simp [hj'] at this
      exact this.symm
    subst hv
    refine ⟨encZ zs'[j], ?_, .i _ _⟩
    have hb : (W.mu id).2 + j < c.size := by simp at h3; omega
    simp only [putCells, Array.getElem?_mapIdx, Array.getElem?_eq_getElem hb, Option.map_some]
    rw [if_pos ⟨by omega, by simp; omega⟩]
    simp [hj']
  refine hr.write hstr hlv (fun b hb => putRow_off (Sort.ahead w n) hb) (by simp) (fun c' e' fr' hc g1 g2 => ?_) ho
  rw [h1] at hc
  cases hc
  exact ⟨_, fr, putRow_at (Sort.ahead w n) h1, g1, by rw [hsz]; exact g2⟩

theorem HRel.grown {W : Vw} {h : Heap} {w : World} (hr : HRel W h w) (os : Array Obj) : ∃ W', HRel W' h (grow w os) ∧ Stp W W.own w W' W'.own (grow w os) := by
  have hk : ∀ b, b < w.heap.size → (grow w os).heap[b]? = w.heap[b]? := fun b hb => by
    simp only [grow, Array.getElem?_append_left hb]
  obtain ⟨g1, g2⟩ := hr.more (w' := grow w os) (s := W.snap) (fun _ _ h => h) (by simp [grow]) hk (fun b o hb => by
    have := hr.snap b o hb
    rw [hk b (lt_of_block this)]; exact this) ⟨rfl, rfl, rfl⟩
  exact ⟨_, g1, g2⟩

abbrev sortZ (zs : List Int) : List Int := zs.mergeSort fun x y => decide (x ≤ y)

abbrev SortSays (P : Program) (f : FuncId) : Prop := (∀ (blk off cap : Nat) (zs : List Int) (w : World), Holds encZ w blk off zs.toArray → blk < w.heap.size → zs.length < 4611686018427387904 →
      Calls P f #[.slice (some ⟨blk, off, none⟩) zs.length cap] w fun e w' => e = .returned (.tuple #[]) ∧ ∃ n os, w' = grow (putRow encZ (Sort.ahead w n) blk off (sortZ zs).toArray) os) ∧
    ∀ (w : World), Calls P f #[.slice none 0 0] w fun e w' => e = .returned (.tuple #[]) ∧ w' = w
abbrev CompactSays (P : Program) (f : FuncId) : Prop := (∀ (blk off cap : Nat) (zs : List Int) (w : World), Holds encZ w blk off zs.toArray → zs.length ≤ 9223372036854775807 → zs.length ≤ cap →
      Calls P f #[.slice (some ⟨blk, off, none⟩) zs.length cap] w fun e w' => e = .returned (.slice (some ⟨blk, off, none⟩) (Lib.compact zs).length cap) ∧ ∃ q, w' = putRow encZ (Sort.ahead w q) blk off (Lib.compact zs ++ List.replicate (zs.length - (Lib.compact zs).length) 0).toArray) ∧
    ∀ (w : World), Calls P f #[.slice none 0 0] w fun e w' => e = .returned (.slice none 0 0) ∧ w' = w

theorem sort_con {Y : YP} {f : FuncId} (hb : hasBody Y f) (hs : SortSays Y.P f) {h : Heap} {id k : Nat} {c : Option Nat} {zs : List Int} (hg : h.get id = some (.arr (intsV zs) true)) (hne : zs ≠ []) (hl : zs.length < 2 ^ 60) :
    Con Y f [.sl (some (id, 0)) zs.length c k] h fun v h' => v = .tup [] ∧ h' = h.set id (some (.arr (intsV (sortZ zs)) true)) :=
  ⟨hb, fun W w us hr hv => by
    obtain ⟨g1, g2⟩ := hr.holds hg
    have hpos : 0 < zs.length := List.length_pos_iff.2 hne
    have hlv : W.lv id := (hr.lv id).2 (by simp [hg])
    cases hv with
    | cons _ u _ _ h1 h2 =>
      cases h2
      cases h1 with
      | sls _ _ _ _ _ a cap' hid hl' hc ha hn hk =>
        have ha' := ha hlv (by omega)
        subst ha'
        refine (hs.1 _ _ cap' zs w g1 g2 (by omega)).mono ?_
        rintro e w' ⟨rfl, n, os, rfl⟩
        obtain ⟨q1, q2⟩ := hr.row hg (zs' := sortZ zs) (List.length_mergeSort _) n
        obtain ⟨W', q3, q4⟩ := q1.grown os
        exact ⟨.tup [], _, W', _, ⟨rfl, rfl⟩, rfl, q3, .tup [] [] .nil, q2.trans q4⟩⟩

theorem sort_con0 {Y : YP} {f : FuncId} (hb : hasBody Y f) (hs : SortSays Y.P f) {h : Heap} {k : Nat} {c : Option Nat} :
    Con Y f [.sl none 0 c k] h fun v h' => v = .tup [] ∧ h' = h :=
  ⟨hb, fun W w us hr hv => by
    cases hv with
    | cons _ u _ _ h1 h2 =>
      cases h2
      cases h1
      refine (hs.2 w).mono ?_
      rintro e w' ⟨rfl, rfl⟩
      exact ⟨.tup [], _, W, _, ⟨rfl, rfl⟩, rfl, hr, .tup [] [] .nil, .refl _ _ _⟩⟩

/-! ### Compact -/
def keepL : Int → List Int → List Int
  | _, [] => []
  | a, b :: l => if b = a then keepL b l else b :: keepL b l
theorem dedup_keep : ∀ (a : Int) (l : List Int), dedupS (a :: l) = a :: keepL a l
  | a, [] => by simp [dedupS, keepL]
  | a, b :: l => by
    have ih := dedup_keep b l
    unfold dedupS keepL
    by_cases h : a = b
    · rw [if_pos h, if_pos h.symm, ih, h]
    · rw [if_neg h, if_neg (Ne.symm h), ih]
theorem keep_range : ∀ (a : Int) (l : List Int), ((List.range l.length).filter fun j => decide ((a :: l)[j + 1]! ≠ (a :: l)[j]!)).map (fun j => (a :: l)[j + 1]!) = keepL a l
  | a, [] => by simp [keepL]
  | a, b :: l => by
    have ih := keep_range b l
    have e : List.range (b :: l).length = 0 :: (List.range l.length).map Nat.succ := by
      rw [List.length_cons, List.range_succ_eq_map]
    rw [e, List.filter_cons, List.filter_map]
    have e1 : ((fun j => decide ((a :: b :: l)[j + 1]! ≠ (a :: b :: l)[j]!)) ∘ Nat.succ) = fun j => decide ((b :: l)[j + 1]! ≠ (b :: l)[j]!) := rfl
    unfold keepL
    rw [e1]
    by_cases h : b = a
    · subst h
      rw [if_neg (by simp), List.map_map]
      simp only [if_true]
      exact ih
    · rw [if_neg h, if_pos (by simpa using h), List.map_cons, List.map_map]
      exact congrArg (b :: ·) ih
theorem compact_dedup : ∀ zs : List Int, Lib.compact zs = dedupS zs
  | [] => rfl
  | a :: l => by
    rw [dedup_keep, ← keep_range]
    unfold Lib.compact Lib.compactUpTo
    rw [List.length_cons, List.range_succ_eq_map, List.filter_cons, List.filter_map, if_pos (by simp [Lib.keeps]), List.map_cons, List.map_map]
    have e0 : (a :: l).toArray[0]! = a := by simp
    rw [e0]
    refine congrArg (a :: ·) ?_
    have e1 : (Lib.keeps (a :: l).toArray ∘ Nat.succ) = fun j => decide ((a :: l)[j + 1]! ≠ (a :: l)[j]!) := by
      funext j; simp [Lib.keeps]
    rw [e1]
    refine List.map_congr_left fun j _ => ?_
    simp
theorem dedup_le : ∀ zs : List Int, (dedupS zs).length ≤ zs.length
  | [] => by simp [dedupS]
  | [a] => by simp [dedupS]
  | a :: b :: l => by
    have := dedup_le (b :: l)
    unfold dedupS
    split
    · simp at this ⊢; omega
    · simp at this ⊢; omega

abbrev restZ (zs : List Int) : List Int := dedupS zs ++ List.replicate (zs.length - (dedupS zs).length) 0

theorem compact_con {Y : YP} {f : FuncId} (hb : hasBody Y f) (hs : CompactSays Y.P f) {h : Heap} {id k : Nat} {c : Option Nat} {zs : List Int} (hg : h.get id = some (.arr (intsV zs) true)) (hne : zs ≠ []) (hl : zs.length < 2 ^ 60) :
    Con Y f [.sl (some (id, 0)) zs.length c k] h fun v h' => v = .sl (some (id, 0)) (dedupS zs).length c k ∧ h' = h.set id (some (.arr (intsV (restZ zs)) true)) :=
  ⟨hb, fun W w us hr hv => by
    obtain ⟨g1, g2⟩ := hr.holds hg
    have hpos : 0 < zs.length := List.length_pos_iff.2 hne
    have hlv : W.lv id := (hr.lv id).2 (by simp [hg])
    have hd := dedup_le zs
    cases hv with
    | cons _ u _ _ h1 h2 =>
      cases h2
      cases h1 with
      | sls _ _ _ _ _ a cap' hid hl' hc ha hn hk =>
        have ha' := ha hlv (by omega)
        subst ha'
        refine (hs.1 _ _ cap' zs w g1 (by omega) hl').mono ?_
        rintro e w' ⟨rfl, n, rfl⟩
        rw [compact_dedup]
        obtain ⟨q1, q2⟩ := hr.row hg (zs' := restZ zs) (by simp; omega) n
        exact ⟨.sl (some (id, 0)) (dedupS zs).length c k, _, W, _, ⟨rfl, rfl⟩, rfl, q1, .sls _ _ _ _ _ _ cap' hid (by omega) hc (fun _ _ => rfl) hn hk, q2⟩⟩

theorem compact_con0 {Y : YP} {f : FuncId} (hb : hasBody Y f) (hs : CompactSays Y.P f) {h : Heap} {k : Nat} {c : Option Nat} :
    Con Y f [.sl none 0 c k] h fun v h' => v = .sl none 0 c k ∧ h' = h :=
  ⟨hb, fun W w us hr hv => by
    cases hv with
    | cons _ u _ _ h1 h2 =>
      cases h2
      cases h1
      refine (hs.2 w).mono ?_
      rintro e w' ⟨rfl, rfl⟩
      exact ⟨.sl none 0 c k, _, W, _, ⟨rfl, rfl⟩, rfl, hr, .sln _ _, .refl _ _ _⟩⟩

theorem sortZ_le (zs : List Int) : (sortZ zs).Pairwise (· ≤ ·) := by
  have := List.pairwise_mergeSort (le := fun x y : Int => decide (x ≤ y)) (fun a b c h g => by simp at *; omega) (fun a b => by simp; omega) zs
  exact this.imp (fun h => by simpa using h)
theorem sortZ_mem (zs : List Int) (x : Int) : x ∈ sortZ zs ↔ x ∈ zs := List.mem_mergeSort
theorem sortZ_all (zs : List Int) : dedupS (sortZ zs) = allS [] zs := sorted_all (sortZ_le zs) (sortZ_mem zs)
end Go.Y
