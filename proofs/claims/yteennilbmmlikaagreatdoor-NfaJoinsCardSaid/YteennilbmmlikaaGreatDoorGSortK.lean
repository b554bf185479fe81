/- slices.Sort and slices.Compact at numbers, over memory, by what is known of them. -/
import Derived.Test.YteennilbmmlikaaGreatDoorYRow
import Derived.Sort.Row
import Derived.Sort.Grow
import Derived.Lib.SlicesCompact
import Derived.Test.YteennilbmmlikaaGreatDoorGRise
import Derived.Test.YteennilbmmlikaaGreatDoorGRule
import Derived.Test.YteennilbmmlikaaGreatDoorYTryzP
import Derived.Test.YteennilbmmlikaaGreatDoorYLoop
namespace Go.Y
open Go.Sort

abbrev intsV (zs : List Int) : List V := zs.map (V.i .i64)
abbrev encZ : Int → Value := Value.int .i64

theorem putRow_at (w : World) {b off : Nat} {d : Array Int} {c : Array Value} {e : TypeId} {fr : Nat × Nat} (h : w.heap[b]? = some (.cells c e fr)) :
    (putRow encZ w b off d).heap[b]? = some (.cells (putCells encZ off d c) e fr) := by
  simp only [putRow, mapBlock, Array.getElem?_modify, if_true, h, Option.map_some, onCells]
theorem putRow_off (w : World) {b c off : Nat} {d : Array Int} (h : c ≠ b) : (putRow encZ w b off d).heap[c]? = w.heap[c]? := by
  simp only [putRow, mapBlock, Array.getElem?_modify, if_neg (Ne.symm h)]

theorem HRel.holds {W : Vw} {h : Heap} {w : World} {id : Nat} {zs : List Int} (hr : HRel W h w) (hg : h.get id = some (.arr (intsV zs) true)) :
    Holds encZ w (W.mu id).1 (W.mu id).2 zs.toArray ∧ (W.mu id).1 < w.heap.size := by
  obtain ⟨c, e, fr, h1, h2, h3, h4, h5⟩ := hr.obj id _ hg
  refine ⟨fun j hj => ?_, lt_of_block h1⟩
  have hj : j < zs.length := by simpa using hj
  obtain ⟨u, hu, hvu⟩ := h4 j (.i .i64 zs[j]) (by simp [hj])
  cases hvu
  have hb := (Array.getElem?_eq_some_iff.1 hu).1
  constructor
  · rw [cell_of h1, hu]; simp [hj, encZ]
  · rw [frozen_of h1]
    have := h5 ((W.mu id).2 + j) (by simp) hb
    rw [Bool.eq_false_iff]
    simp only [ne_eq, Bool.and_eq_true, decide_eq_true_eq]
    exact this

theorem HRel.row {W : Vw} {h : Heap} {w : World} {id : Nat} {zs zs' : List Int} (hr : HRel W h w) (hg : h.get id = some (.arr (intsV zs) true)) (hl : zs'.length = zs.length) (n : Nat) :
    HRel W (h.set id (some (.arr (intsV zs') true))) (putRow encZ (Sort.ahead w n) (W.mu id).1 (W.mu id).2 zs'.toArray) ∧ Stp W W.own w W W.own (putRow encZ (Sort.ahead w n) (W.mu id).1 (W.mu id).2 zs'.toArray) := by
  obtain ⟨c, e, fr, h1, h2, h3, h4, h5⟩ := hr.obj id _ hg
  have hlv : W.lv id := (hr.lv id).2 (by simp [hg])
  have hsz : (putCells encZ (W.mu id).2 zs'.toArray c).size = c.size := by simp [putCells]
  have hstr : Str w (putRow encZ (Sort.ahead w n) (W.mu id).1 (W.mu id).2 zs'.toArray) := ⟨rfl, rfl, rfl⟩
  have ho : ORel W (putRow encZ (Sort.ahead w n) (W.mu id).1 (W.mu id).2 zs'.toArray) id (.arr (intsV zs') true) := by
    refine ⟨putCells encZ (W.mu id).2 zs'.toArray c, e, fr, putRow_at (Sort.ahead w n) h1, by rw [hsz]; exact h2, by rw [hsz]; simpa [hl] using h3, fun j v hj => ?_, fun j hj1 hj2 => h5 j (by simpa using hj1) (by rw [hsz] at hj2; exact hj2)⟩
    have hj' : j < zs'.length := by
      have := (List.getElem?_eq_some_iff.1 hj).1
      simpa using this
    have hv : v = .i .i64 zs'[j] := by
      have := hj
      simp [hj'] at this
      exact this.symm
    subst hv
    refine ⟨encZ zs'[j], ?_, .i _ _⟩
    have hb : (W.mu id).2 + j < c.size := by simp at h3; omega
    simp only [putCells, Array.getElem?_mapIdx, Array.getElem?_eq_getElem hb, Option.map_some]
    rw [if_pos ⟨by omega, by simp; omega⟩]
    simp [hj']
  refine hr.write hstr hlv (fun b hb => putRow_off (Sort.ahead w n) hb) (by simp) (fun c' e' fr' hc g1 g2 => ?_) ho
  rw [h1] at hc
  cases hc
  exact ⟨_, fr, putRow_at (Sort.ahead w n) h1, g1, by rw [hsz]; exact g2⟩

theorem HRel.grown {W : Vw} {h : Heap} {w : World} (hr : HRel W h w) (os : Array Obj) : ∃ W', HRel W' h (grow w os) ∧ Stp W W.own w W' W'.own (grow w os) := by
  have hk : ∀ b, b < w.heap.size → (grow w os).heap[b]? = w.heap[b]? := fun b hb => by
    simp only [grow, Array.getElem?_append_left hb]
  obtain ⟨g1, g2⟩ := hr.more (w' := grow w os) (s := W.snap) (fun _ _ h => h) (by simp [grow]) hk (fun b o hb => by
    have := hr.snap b o hb
    rw [hk b (lt_of_block this)]; exact this) ⟨rfl, rfl, rfl⟩
  exact ⟨_, g1, g2⟩

abbrev sortZ (zs : List Int) : List Int := zs.mergeSort fun x y => decide (x ≤ y)

abbrev SortSays (P : Program) (f : FuncId) : Prop := (∀ (blk off cap : Nat) (zs : List Int) (w : World), Holds encZ w blk off zs.toArray → blk < w.heap.size → zs.length < 4611686018427387904 →
      Calls P f #[.slice (some ⟨blk, off, none⟩) zs.length cap] w fun e w' => e = .returned (.tuple #[]) ∧ ∃ n os, w' = grow (putRow encZ (Sort.ahead w n) blk off (sortZ zs).toArray) os) ∧
    ∀ (w : World), Calls P f #[.slice none 0 0] w fun e w' => e = .returned (.tuple #[]) ∧ w' = w
abbrev CompactSays (P : Program) (f : FuncId) : Prop := (∀ (blk off cap : Nat) (zs : List Int) (w : World), Holds encZ w blk off zs.toArray → zs.length ≤ 9223372036854775807 → zs.length ≤ cap →
      Calls P f #[.slice (some ⟨blk, off, none⟩) zs.length cap] w fun e w' => e = .returned (.slice (some ⟨blk, off, none⟩) (Lib.compact zs).length cap) ∧ ∃ q, w' = putRow encZ (Sort.ahead w q) blk off (Lib.compact zs ++ List.replicate (zs.length - (Lib.compact zs).length) 0).toArray) ∧
    ∀ (w : World), Calls P f #[.slice none 0 0] w fun e w' => e = .returned (.slice none 0 0) ∧ w' = w

theorem sort_con {Y : YP} {f : FuncId} (hb : hasBody Y f) (hs : SortSays Y.P f) {h : Heap} {id k : Nat} {c : Option Nat} {zs : List Int} (hg : h.get id = some (.arr (intsV zs) true)) (hne : zs ≠ []) (hl : zs.length < 2 ^ 60) :
    Con Y f [.sl (some (id, 0)) zs.length c k] h fun v h' => v = .tup [] ∧ h' = h.set id (some (.arr (intsV (sortZ zs)) true)) :=
  ⟨hb, fun W w us hr hv => by
    obtain ⟨g1, g2⟩ := hr.holds hg
    have hpos : 0 < zs.length := List.length_pos_iff.2 hne
    have hlv : W.lv id := (hr.lv id).2 (by simp [hg])
    cases hv with
    | cons _ u _ _ h1 h2 =>
      cases h2
      cases h1 with
      | sls _ _ _ _ _ a cap' hid hl' hc ha hn hk =>
        have ha' := ha hlv (by omega)
        subst ha'
        refine (hs.1 _ _ cap' zs w g1 g2 (by omega)).mono ?_
        rintro e w' ⟨rfl, n, os, rfl⟩
        obtain ⟨q1, q2⟩ := hr.row hg (zs' := sortZ zs) (List.length_mergeSort _) n
        obtain ⟨W', q3, q4⟩ := q1.grown os
        exact ⟨.tup [], _, W', _, ⟨rfl, rfl⟩, rfl, q3, .tup [] [] .nil, q2.trans q4⟩⟩

theorem sort_con0 {Y : YP} {f : FuncId} (hb : hasBody Y f) (hs : SortSays Y.P f) {h : Heap} {k : Nat} {c : Option Nat} :
    Con Y f [.sl none 0 c k] h fun v h' => v = .tup [] ∧ h' = h :=
  ⟨hb, fun W w us hr hv => by
    cases hv with
    | cons _ u _ _ h1 h2 =>
      cases h2
      cases h1
      refine (hs.2 w).mono ?_
      rintro e w' ⟨rfl, rfl⟩
      exact ⟨.tup [], _, W, _, ⟨rfl, rfl⟩, rfl, hr, .tup [] [] .nil, .refl _ _ _⟩⟩

def keepL : Int → List Int → List Int
  | _, [] => []
  | a, b :: l => if b = a then keepL b l else b :: keepL b l
theorem dedup_keep : ∀ (a : Int) (l : List Int), dedupS (a :: l) = a :: keepL a l
  | a, [] => by simp [dedupS, keepL]
  | a, b :: l => by
    have ih := dedup_keep b l
    unfold dedupS keepL
    by_cases h : a = b
    · rw [if_pos h, if_pos h.symm, ih, h]
    · rw [if_neg h, if_neg (Ne.symm h), ih]
theorem keep_range : ∀ (a : Int) (l : List Int), ((List.range l.length).filter fun j => decide ((a :: l)[j + 1]! ≠ (a :: l)[j]!)).map (fun j => (a :: l)[j + 1]!) = keepL a l
  | a, [] => by simp [keepL]
  | a, b :: l => by
    have ih := keep_range b l
    have e : List.range (b :: l).length = 0 :: (List.range l.length).map Nat.succ := by
      rw [List.length_cons, List.range_succ_eq_map]
    rw [e, List.filter_cons, List.filter_map]
    have e1 : ((fun j => decide ((a :: b :: l)[j + 1]! ≠ (a :: b :: l)[j]!)) ∘ Nat.succ) = fun j => decide ((b :: l)[j + 1]! ≠ (b :: l)[j]!) := rfl
    unfold keepL
    rw [e1]
    by_cases h : b = a
    · subst h
      rw [if_neg (by simp), List.map_map]
      simp only [if_true]
      exact ih
    · rw [if_neg h, if_pos (by simpa using h), List.map_cons, List.map_map]
      exact congrArg (b :: ·) ih
theorem compact_dedup : ∀ zs : List Int, Lib.compact zs = dedupS zs
  | [] => rfl
  | a :: l => by
    rw [dedup_keep, ← keep_range]
    unfold Lib.compact Lib.compactUpTo
    rw [List.length_cons, List.range_succ_eq_map, List.filter_cons, List.filter_map, if_pos (by simp [Lib.keeps]), List.map_cons, List.map_map]
    have e0 : (a :: l).toArray[0]! = a := by simp
    rw [e0]
    refine congrArg (a :: ·) ?_
    have e1 : (Lib.keeps (a :: l).toArray ∘ Nat.succ) = fun j => decide ((a :: l)[j + 1]! ≠ (a :: l)[j]!) := by
      funext j; simp [Lib.keeps]
    rw [e1]
    refine List.map_congr_left fun j _ => ?_
    simp
theorem dedup_le : ∀ zs : List Int, (dedupS zs).length ≤ zs.length
  | [] => by simp [dedupS]
  | [a] => by simp [dedupS]
  | a :: b :: l => by
    have := dedup_le (b :: l)
    unfold dedupS
    split
    · simp at this ⊢; omega
    · simp at this ⊢; omega

abbrev restZ (zs : List Int) : List Int := dedupS zs ++ List.replicate (zs.length - (dedupS zs).length) 0

theorem compact_con {Y : YP} {f : FuncId} (hb : hasBody Y f) (hs : CompactSays Y.P f) {h : Heap} {id k : Nat} {c : Option Nat} {zs : List Int} (hg : h.get id = some (.arr (intsV zs) true)) (hne : zs ≠ []) (hl : zs.length < 2 ^ 60) :
    Con Y f [.sl (some (id, 0)) zs.length c k] h fun v h' => v = .sl (some (id, 0)) (dedupS zs).length c k ∧ h' = h.set id (some (.arr (intsV (restZ zs)) true)) :=
  ⟨hb, fun W w us hr hv => by
    obtain ⟨g1, g2⟩ := hr.holds hg
    have hpos : 0 < zs.length := List.length_pos_iff.2 hne
    have hlv : W.lv id := (hr.lv id).2 (by simp [hg])
    have hd := dedup_le zs
    cases hv with
    | cons _ u _ _ h1 h2 =>
      cases h2
      cases h1 with
      | sls _ _ _ _ _ a cap' hid hl' hc ha hn hk =>
        have ha' := ha hlv (by omega)
        subst ha'
        refine (hs.1 _ _ cap' zs w g1 (by omega) hl').mono ?_
        rintro e w' ⟨rfl, n, rfl⟩
        rw [compact_dedup]
        obtain ⟨q1, q2⟩ := hr.row hg (zs' := restZ zs) (by simp; omega) n
        exact ⟨.sl (some (id, 0)) (dedupS zs).length c k, _, W, _, ⟨rfl, rfl⟩, rfl, q1, .sls _ _ _ _ _ _ cap' hid (by omega) hc (fun _ _ => rfl) hn hk, q2⟩⟩

theorem compact_con0 {Y : YP} {f : FuncId} (hb : hasBody Y f) (hs : CompactSays Y.P f) {h : Heap} {k : Nat} {c : Option Nat} :
    Con Y f [.sl none 0 c k] h fun v h' => v = .sl none 0 c k ∧ h' = h :=
  ⟨hb, fun W w us hr hv => by
    cases hv with
    | cons _ u _ _ h1 h2 =>
      cases h2
      cases h1
      refine (hs.2 w).mono ?_
      rintro e w' ⟨rfl, rfl⟩
      exact ⟨.sl none 0 c k, _, W, _, ⟨rfl, rfl⟩, rfl, hr, .sln _ _, .refl _ _ _⟩⟩

theorem sortZ_le (zs : List Int) : (sortZ zs).Pairwise (· ≤ ·) := by
  have := List.pairwise_mergeSort (le := fun x y : Int => decide (x ≤ y)) (fun a b c h g => by simp at *; omega) (fun a b => by simp; omega) zs
  exact this.imp (fun h => by simpa using h)
theorem sortZ_mem (zs : List Int) (x : Int) : x ∈ sortZ zs ↔ x ∈ zs := List.mem_mergeSort
theorem sortZ_all (zs : List Int) : dedupS (sortZ zs) = allS [] zs := sorted_all (sortZ_le zs) (sortZ_mem zs)
end Go.Y

/- What lies in memory may be known less well; so may what is handed in to a function over memory. -/
namespace Go.Y

theorem Con.wk {Y : YP} {f : FuncId} {args args' : List V} {h : Heap} {Q : V → Heap → Prop} (hw : WkA args args') (c : Con Y f args' h Q) : Con Y f args h Q :=
  ⟨c.body, fun W w us hr hv => c.tr W w us hr (hw.vr hv)⟩
theorem WkL.get : ∀ {l l' : List V}, WkL l l' → ∀ {t : Nat} {v' : V}, l'[t]? = some v' → ∃ v, l[t]? = some v ∧ Wk0 v v'
  | _, _, .nil, t, v', h => by simp at h
  | _, _, .cons v v1 l l' hv hl, 0, v', h => by simp at h; subst h; exact ⟨v, rfl, hv⟩
  | _, _, .cons v v1 l l' hv hl, t + 1, v', h => by simp at h; simpa using hl.get h
theorem WkL.length : ∀ {l l' : List V}, WkL l l' → l.length = l'.length
  | _, _, .nil => rfl
  | _, _, .cons _ _ _ _ _ hl => by simp [hl.length]
theorem WkL.append : ∀ {a a' b b' : List V}, WkL a a' → WkL b b' → WkL (a ++ b) (a' ++ b')
  | _, _, _, _, .nil, g => g
  | _, _, _, _, .cons v v' l l' h hl, g => .cons v v' _ _ h (hl.append g)

theorem HRel.weak {W : Vw} {h : Heap} {w : World} {id : Nat} {cs cs' : List V} (r : HRel W h w) (hg : h.get id = some (.arr cs true)) (hw : WkL cs cs') : HRel W (h.set id (some (.arr cs' true))) w := by
  have hraw : ∀ i, ((h.set id (some (.arr cs' true))).raw i).isSome = true ↔ (h.raw i).isSome = true := fun i => by
    rw [Heap.raw_set]
    split
    · next e =>
      subst e
      have hj : (h.raw i).join = some (.arr cs true) := hg
      cases hr : h.raw i with
      | none => rw [hr] at hj; cases hj
      | some o => simp
    · exact Iff.rfl
  have hsome : ∀ i, ((h.set id (some (.arr cs' true))).get i).isSome = true ↔ (h.get i).isSome = true := fun i => by
    rw [Heap.get_set]
    split
    · next e => subst e; rw [hg]; simp
    · exact Iff.rfl
  refine ⟨fun i hi => (hraw i).2 (r.kn i hi), r.lk, fun i => (r.lv i).trans (hsome i).symm, fun i hi => by simpa using r.lt i ((hraw i).1 hi), r.snap, fun i o ho => ?_, r.inj, r.apart, fun p hp => r.tg p hp, r.gl⟩
  rw [Heap.get_set] at ho
  split at ho
  · next e =>
    subst e
    cases ho
    obtain ⟨c, e, fr, h1, h2, h3, h4, h5⟩ := r.obj i _ hg
    refine ⟨c, e, fr, h1, h2, by rw [← hw.length]; exact h3, fun j v' hj => ?_, fun j h6 h7 => h5 j h6 h7⟩
    obtain ⟨v, hv, hk⟩ := hw.get hj
    obtain ⟨u, hu, hr⟩ := h4 j v hv
    exact ⟨u, hu, hk.vr hr⟩
  · exact r.obj i o ho

def WeakQ (Q : V → Heap → Prop) (v : V) (h : Heap) : Prop := Q v h ∨ ∃ (id : Nat) (cs cs' : List V), h.get id = some (.arr cs true) ∧ WkL cs cs' ∧ Q v (h.set id (some (.arr cs' true)))
theorem Con.weakH {Y : YP} {f : FuncId} {args : List V} {h : Heap} {Q : V → Heap → Prop} (c : Con Y f args h (WeakQ Q)) : Con Y f args h Q :=
  ⟨c.body, fun W w us hr hv => (c.tr W w us hr hv).mono fun e w' ⟨v, h1, W', u, hq, he, hh, hvu, hst⟩ => by
    rcases hq with hq | ⟨id, cs, cs', hg, hw, hq⟩
    · exact ⟨v, h1, W', u, hq, he, hh, hvu, hst⟩
    · exact ⟨v, _, W', u, hq, he, hh.weak hg hw, hvu, hst⟩⟩
end Go.Y

/- Trees of spans: printed by program. -/
namespace Go.Y
open Go.Proofs
set_option maxRecDepth 100000
set_option maxHeartbeats 1000000
theorem f62_0 (s0 : List UInt8) (x1 : Int) (h : Heap) (K : KT) : (codeP Tryz.Y (Tryz.Y.loc 62) 100 (pre (flat (bodyOf Tryz.f62))) ⟨(V.s s0 :: V.i IntKind.i64 x1 :: List.replicate 79 .undef), [], h⟩ (VQ [0, 1, 3, 4, 7, 9] K)) =
  (K Out.normal 81 [V.s s0, V.i IntKind.i64 x1, V.undef, V.sl none 0 (some 0) 0, V.sl none 0 (some 0) 0, V.undef] h) := by kernel_rfl
theorem f62_1 (s0 : List UInt8) (x1 : Int) (a7z3 : Option (Nat × Nat)) (l7z3 : Nat) (c7z3 : Option Nat) (k7z3 : Nat) (v9z3 : V) (h : Heap) (K : KT) : (codeP Tryz.Y (Tryz.Y.loc 62) 100 ((flat (loopB (post (flat (bodyOf Tryz.f62)))))) ⟨mk 81 (([0, 1, 3, 4, 7, 9] : List Nat).zip [V.s s0, V.i IntKind.i64 x1, V.undef, V.sl none 0 (some 0) 0, V.sl a7z3 l7z3 c7z3 k7z3, v9z3]), [], h⟩ (VQ [0, 1, 3, 4, 5, 6, 7, 9] K)) =
  (If (ltI 0 (↑l7z3 : Int))
  (If (ltI x1 (↑s0.length : Int))
 (∃ (c : UInt8),
 (0 ≤ x1 ∧ s0[x1.toNat]? = some c) ∧
 If ((↑c.toNat : Int) == 93)
 (K Out.ret 81
 [V.s s0, V.i IntKind.i64 x1, V.undef, V.sl a7z3 l7z3 c7z3 k7z3, V.i IntKind.i64 (IntKind.i64.wrap (x1 + 1)),
 V.i IntKind.i64 0, V.sl a7z3 l7z3 c7z3 k7z3, v9z3]
 h)
 (∃ (n : Int),
 ∃ (n_1 : Int),
 ∃ (n_2 : Int),
 (PCon Tryz.Y 111 [V.s s0, V.i IntKind.i64 x1] fun (v : V) =>
 v = V.tup [V.i IntKind.u8 n, V.i IntKind.i64 n_1, V.i IntKind.i64 n_2]) ∧
 If (ltI n_1 0)
 (K Out.ret 81
 [V.s s0, V.i IntKind.i64 x1, V.undef, V.sl none 0 (some 0) 0, V.i IntKind.i64 (-1),
 V.i IntKind.i64 n_2, V.sl a7z3 l7z3 c7z3 k7z3, V.i IntKind.i64 n_1]
 h)
 (If (ltI (IntKind.i64.wrap (x1 + n_1)) (↑s0.length : Int))
 (∃ (c : UInt8),
 (0 ≤ IntKind.i64.wrap (x1 + n_1) ∧ s0[(IntKind.i64.wrap (x1 + n_1)).toNat]? = some c) ∧
 If ((↑c.toNat : Int) == 45)
 (∃ (n_3 : Int),
 ∃ (n_4 : Int),
 ∃ (n_5 : Int),
 (PCon Tryz.Y 111
 [V.s s0, V.i IntKind.i64 (IntKind.i64.wrap (IntKind.i64.wrap (x1 + n_1) + 1))]
 fun (v : V) =>
 v = V.tup [V.i IntKind.u8 n_3, V.i IntKind.i64 n_4, V.i IntKind.i64 n_5]) ∧
 If (ltI n_4 0)
 (K Out.ret 81
 [V.s s0, V.i IntKind.i64 (IntKind.i64.wrap (x1 + n_1)), V.undef,
 V.sl none 0 (some 0) 0, V.i IntKind.i64 (-1), V.i IntKind.i64 n_5,
 V.sl a7z3 l7z3 c7z3 k7z3, V.i IntKind.i64 n_4]
 h)
 (If (ltI n_3 n)
 (K Out.ret 81
 [V.s s0, V.i IntKind.i64 (IntKind.i64.wrap (x1 + n_1)), V.undef,
 V.sl none 0 (some 0) 0, V.i IntKind.i64 (-1),
 V.i IntKind.i64 (IntKind.i64.wrap (IntKind.i64.wrap (x1 + n_1) + n_4)),
 V.sl a7z3 l7z3 c7z3 k7z3, V.i IntKind.i64 n_4]
 h)
 (∃ (a : Option (Nat × Nat)),
 ∃ (l : Nat),
 ∃ (c : Option Nat),
 ∃ (k : Nat),
 ∃ (h_1 : Heap),
 appendH Tryz.Y h 57 57 (V.sl a7z3 l7z3 c7z3 k7z3)
 (V.ts [V.i IntKind.u8 n, V.i IntKind.u8 n_3] 1 (some 1)) =
 some (V.sl a l c k, h_1) ∧
 K Out.normal 81
 [V.s s0,
 V.i IntKind.i64
 (IntKind.i64.wrap
 (IntKind.i64.wrap (IntKind.i64.wrap (x1 + n_1) + 1) + n_4)),
 V.undef, V.sl none 0 (some 0) 0, V.undef, V.undef, V.sl a l c k,
 V.i IntKind.i64 n_4]
 h_1)))
 (∃ (a : Option (Nat × Nat)),
 ∃ (l : Nat),
 ∃ (c : Option Nat),
 ∃ (k : Nat),
 ∃ (h_1 : Heap),
 appendH Tryz.Y h 57 57 (V.sl a7z3 l7z3 c7z3 k7z3)
 (V.ts [V.i IntKind.u8 n, V.i IntKind.u8 n] 1 (some 1)) =
 some (V.sl a l c k, h_1) ∧
 K Out.normal 81
 [V.s s0, V.i IntKind.i64 (IntKind.i64.wrap (x1 + n_1)), V.undef,
 V.sl none 0 (some 0) 0, V.undef, V.undef, V.sl a l c k, V.i IntKind.i64 n_1]
 h_1))
 (∃ (a : Option (Nat × Nat)),
 ∃ (l : Nat),
 ∃ (c : Option Nat),
 ∃ (k : Nat),
 ∃ (h_1 : Heap),
 appendH Tryz.Y h 57 57 (V.sl a7z3 l7z3 c7z3 k7z3)
 (V.ts [V.i IntKind.u8 n, V.i IntKind.u8 n] 1 (some 1)) =
 some (V.sl a l c k, h_1) ∧
 K Out.normal 81
 [V.s s0, V.i IntKind.i64 (IntKind.i64.wrap (x1 + n_1)), V.undef,
 V.sl none 0 (some 0) 0, V.undef, V.undef, V.sl a l c k, V.i IntKind.i64 n_1]
 h_1))))
 (∃ (n : Int),
 ∃ (n_1 : Int),
 ∃ (n_2 : Int),
 (PCon Tryz.Y 111 [V.s s0, V.i IntKind.i64 x1] fun (v : V) =>
 v = V.tup [V.i IntKind.u8 n, V.i IntKind.i64 n_1, V.i IntKind.i64 n_2]) ∧
 If (ltI n_1 0)
 (K Out.ret 81
 [V.s s0, V.i IntKind.i64 x1, V.undef, V.sl none 0 (some 0) 0, V.i IntKind.i64 (-1), V.i IntKind.i64 n_2,
 V.sl a7z3 l7z3 c7z3 k7z3, V.i IntKind.i64 n_1]
 h)
 (If (ltI (IntKind.i64.wrap (x1 + n_1)) (↑s0.length : Int))
 (∃ (c : UInt8),
 (0 ≤ IntKind.i64.wrap (x1 + n_1) ∧ s0[(IntKind.i64.wrap (x1 + n_1)).toNat]? = some c) ∧
 If ((↑c.toNat : Int) == 45)
 (∃ (n_3 : Int),
 ∃ (n_4 : Int),
 ∃ (n_5 : Int),
 (PCon Tryz.Y 111
 [V.s s0, V.i IntKind.i64 (IntKind.i64.wrap (IntKind.i64.wrap (x1 + n_1) + 1))]
 fun (v : V) =>
 v = V.tup [V.i IntKind.u8 n_3, V.i IntKind.i64 n_4, V.i IntKind.i64 n_5]) ∧
 If (ltI n_4 0)
 (K Out.ret 81
 [V.s s0, V.i IntKind.i64 (IntKind.i64.wrap (x1 + n_1)), V.undef,
 V.sl none 0 (some 0) 0, V.i IntKind.i64 (-1), V.i IntKind.i64 n_5,
 V.sl a7z3 l7z3 c7z3 k7z3, V.i IntKind.i64 n_4]
 h)
 (If (ltI n_3 n)
 (K Out.ret 81
 [V.s s0, V.i IntKind.i64 (IntKind.i64.wrap (x1 + n_1)), V.undef,
 V.sl none 0 (some 0) 0, V.i IntKind.i64 (-1),
 V.i IntKind.i64 (IntKind.i64.wrap (IntKind.i64.wrap (x1 + n_1) + n_4)),
 V.sl a7z3 l7z3 c7z3 k7z3, V.i IntKind.i64 n_4]
 h)
 (∃ (a : Option (Nat × Nat)),
 ∃ (l : Nat),
 ∃ (c : Option Nat),
 ∃ (k : Nat),
 ∃ (h_1 : Heap),
 appendH Tryz.Y h 57 57 (V.sl a7z3 l7z3 c7z3 k7z3)
 (V.ts [V.i IntKind.u8 n, V.i IntKind.u8 n_3] 1 (some 1)) =
 some (V.sl a l c k, h_1) ∧
 K Out.normal 81
 [V.s s0,
 V.i IntKind.i64
 (IntKind.i64.wrap
 (IntKind.i64.wrap (IntKind.i64.wrap (x1 + n_1) + 1) + n_4)),
 V.undef, V.sl none 0 (some 0) 0, V.undef, V.undef, V.sl a l c k,
 V.i IntKind.i64 n_4]
 h_1)))
 (∃ (a : Option (Nat × Nat)),
 ∃ (l : Nat),
 ∃ (c : Option Nat),
 ∃ (k : Nat),
 ∃ (h_1 : Heap),
 appendH Tryz.Y h 57 57 (V.sl a7z3 l7z3 c7z3 k7z3)
 (V.ts [V.i IntKind.u8 n, V.i IntKind.u8 n] 1 (some 1)) =
 some (V.sl a l c k, h_1) ∧
 K Out.normal 81
 [V.s s0, V.i IntKind.i64 (IntKind.i64.wrap (x1 + n_1)), V.undef,
 V.sl none 0 (some 0) 0, V.undef, V.undef, V.sl a l c k, V.i IntKind.i64 n_1]
 h_1))
 (∃ (a : Option (Nat × Nat)),
 ∃ (l : Nat),
 ∃ (c : Option Nat),
 ∃ (k : Nat),
 ∃ (h_1 : Heap),
 appendH Tryz.Y h 57 57 (V.sl a7z3 l7z3 c7z3 k7z3)
 (V.ts [V.i IntKind.u8 n, V.i IntKind.u8 n] 1 (some 1)) =
 some (V.sl a l c k, h_1) ∧
 K Out.normal 81
 [V.s s0, V.i IntKind.i64 (IntKind.i64.wrap (x1 + n_1)), V.undef, V.sl none 0 (some 0) 0,
 V.undef, V.undef, V.sl a l c k, V.i IntKind.i64 n_1]
 h_1))))
  (∃ (n : Int),
 ∃ (n_1 : Int),
 ∃ (n_2 : Int),
 (PCon Tryz.Y 111 [V.s s0, V.i IntKind.i64 x1] fun (v : V) =>
 v = V.tup [V.i IntKind.u8 n, V.i IntKind.i64 n_1, V.i IntKind.i64 n_2]) ∧
 If (ltI n_1 0)
 (K Out.ret 81
 [V.s s0, V.i IntKind.i64 x1, V.undef, V.sl none 0 (some 0) 0, V.i IntKind.i64 (-1), V.i IntKind.i64 n_2,
 V.sl a7z3 l7z3 c7z3 k7z3, V.i IntKind.i64 n_1]
 h)
 (If (ltI (IntKind.i64.wrap (x1 + n_1)) (↑s0.length : Int))
 (∃ (c : UInt8),
 (0 ≤ IntKind.i64.wrap (x1 + n_1) ∧ s0[(IntKind.i64.wrap (x1 + n_1)).toNat]? = some c) ∧
 If ((↑c.toNat : Int) == 45)
 (∃ (n_3 : Int),
 ∃ (n_4 : Int),
 ∃ (n_5 : Int),
 (PCon Tryz.Y 111 [V.s s0, V.i IntKind.i64 (IntKind.i64.wrap (IntKind.i64.wrap (x1 + n_1) + 1))]
 fun (v : V) => v = V.tup [V.i IntKind.u8 n_3, V.i IntKind.i64 n_4, V.i IntKind.i64 n_5]) ∧
 If (ltI n_4 0)
 (K Out.ret 81
 [V.s s0, V.i IntKind.i64 (IntKind.i64.wrap (x1 + n_1)), V.undef, V.sl none 0 (some 0) 0,
 V.i IntKind.i64 (-1), V.i IntKind.i64 n_5, V.sl a7z3 l7z3 c7z3 k7z3,
 V.i IntKind.i64 n_4]
 h)
 (If (ltI n_3 n)
 (K Out.ret 81
 [V.s s0, V.i IntKind.i64 (IntKind.i64.wrap (x1 + n_1)), V.undef,
 V.sl none 0 (some 0) 0, V.i IntKind.i64 (-1),
 V.i IntKind.i64 (IntKind.i64.wrap (IntKind.i64.wrap (x1 + n_1) + n_4)),
 V.sl a7z3 l7z3 c7z3 k7z3, V.i IntKind.i64 n_4]
 h)
 (∃ (a : Option (Nat × Nat)),
 ∃ (l : Nat),
 ∃ (c : Option Nat),
 ∃ (k : Nat),
 ∃ (h_1 : Heap),
 appendH Tryz.Y h 57 57 (V.sl a7z3 l7z3 c7z3 k7z3)
 (V.ts [V.i IntKind.u8 n, V.i IntKind.u8 n_3] 1 (some 1)) =
 some (V.sl a l c k, h_1) ∧
 K Out.normal 81
 [V.s s0,
 V.i IntKind.i64
 (IntKind.i64.wrap
 (IntKind.i64.wrap (IntKind.i64.wrap (x1 + n_1) + 1) + n_4)),
 V.undef, V.sl none 0 (some 0) 0, V.undef, V.undef, V.sl a l c k,
 V.i IntKind.i64 n_4]
 h_1)))
 (∃ (a : Option (Nat × Nat)),
 ∃ (l : Nat),
 ∃ (c : Option Nat),
 ∃ (k : Nat),
 ∃ (h_1 : Heap),
 appendH Tryz.Y h 57 57 (V.sl a7z3 l7z3 c7z3 k7z3)
 (V.ts [V.i IntKind.u8 n, V.i IntKind.u8 n] 1 (some 1)) =
 some (V.sl a l c k, h_1) ∧
 K Out.normal 81
 [V.s s0, V.i IntKind.i64 (IntKind.i64.wrap (x1 + n_1)), V.undef,
 V.sl none 0 (some 0) 0, V.undef, V.undef, V.sl a l c k, V.i IntKind.i64 n_1]
 h_1))
 (∃ (a : Option (Nat × Nat)),
 ∃ (l : Nat),
 ∃ (c : Option Nat),
 ∃ (k : Nat),
 ∃ (h_1 : Heap),
 appendH Tryz.Y h 57 57 (V.sl a7z3 l7z3 c7z3 k7z3)
 (V.ts [V.i IntKind.u8 n, V.i IntKind.u8 n] 1 (some 1)) =
 some (V.sl a l c k, h_1) ∧
 K Out.normal 81
 [V.s s0, V.i IntKind.i64 (IntKind.i64.wrap (x1 + n_1)), V.undef, V.sl none 0 (some 0) 0,
 V.undef, V.undef, V.sl a l c k, V.i IntKind.i64 n_1]
 h_1)))) := by kernel_rfl
theorem f111_0 (s0 : List UInt8) (x1 : Int) (h : Heap) (K : KT) : (codeP Tryz.Y (Tryz.Y.loc 111) 100 ((flat (bodyOf Tryz.f111))) ⟨(V.s s0 :: V.i IntKind.i64 x1 :: List.replicate 40 .undef), [], h⟩ (VQ [4, 5, 6] K)) =
  (If (leI (↑s0.length : Int) x1) (K Out.ret 42 [V.i IntKind.u8 0, V.i IntKind.i64 (-1), V.i IntKind.i64 x1] h)
  (∃ (c : UInt8),
 (0 ≤ x1 ∧ s0[x1.toNat]? = some c) ∧
 If ((↑c.toNat : Int) == 93) (K Out.ret 42 [V.i IntKind.u8 0, V.i IntKind.i64 (-1), V.i IntKind.i64 x1] h)
 (∃ (c : UInt8),
 (0 ≤ x1 ∧ s0[x1.toNat]? = some c) ∧
 If ((↑c.toNat : Int) == 45) (K Out.ret 42 [V.i IntKind.u8 0, V.i IntKind.i64 (-1), V.i IntKind.i64 x1] h)
 (∃ (c : UInt8),
 (0 ≤ x1 ∧ s0[x1.toNat]? = some c) ∧
 If ((↑c.toNat : Int) != 92)
 (∃ (c : UInt8),
 (0 ≤ x1 ∧ s0[x1.toNat]? = some c) ∧
 K Out.ret 42 [V.i IntKind.u8 (↑c.toNat : Int), V.i IntKind.i64 1, V.i IntKind.i64 0] h)
 (If (leI (↑s0.length : Int) (IntKind.i64.wrap (x1 + 1)))
 (K Out.ret 42
 [V.i IntKind.u8 0, V.i IntKind.i64 (-1), V.i IntKind.i64 (IntKind.i64.wrap (x1 + 1))] h)
 (∃ (c : UInt8),
 (0 ≤ IntKind.i64.wrap (x1 + 1) ∧ s0[(IntKind.i64.wrap (x1 + 1)).toNat]? = some c) ∧
 K Out.ret 42 [V.i IntKind.u8 (↑c.toNat : Int), V.i IntKind.i64 2, V.i IntKind.i64 0] h)))))) := by kernel_rfl
end Go.Y
