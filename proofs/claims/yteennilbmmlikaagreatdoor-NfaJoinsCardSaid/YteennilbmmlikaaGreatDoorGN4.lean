/- Automata: all, step. -/
import Derived.Test.YteennilbmmlikaaGreatDoorGEreJoin
import Derived.Test.YteennilbmmlikaaGreatDoorNT2
import Derived.Test.YteennilbmmlikaaGreatDoorYTryzP
import Derived.Test.YteennilbmmlikaaGreatDoorYLoop
namespace Go.Y
open Go.Proofs
set_option maxRecDepth 100000
set_option maxHeartbeats 1000000

theorem putS_len (n : Int) : ∀ l : List Int, (putS l n).length ≤ l.length + 1
  | [] => by simp [putS]
  | a :: l => by
    have := putS_len n l
    unfold putS
    split
    · simp; omega
    · split <;> simp
theorem allS_len : ∀ (more l : List Int), (allS l more).length ≤ l.length + more.length
  | [], l => by simp [allS]
  | n :: r, l => by
    have e : allS l (n :: r) = allS (putS l n) r := rfl
    have h1 := allS_len r (putS l n)
    have h2 := putS_len n l
    rw [e]
    simp only [List.length_cons]; omega
structure OkA (a : Au) : Prop where
  may : mayA a = true
  small : smallA a = true
theorem OkA.fl {a : Au} (h : OkA a) : a.follow.length = a.sets.length := by
  have := h.may
  simp only [mayA, Bool.and_eq_true, decide_eq_true_eq] at this
  exact this.1.1.1.2
theorem OkA.fr {a : Au} (h : OkA a) {l : List Int} (hl : l ∈ a.follow) : ∀ p ∈ l, 0 ≤ p ∧ p < a.sets.length := by
  have := h.may
  simp only [mayA, Bool.and_eq_true, List.all_eq_true] at this
  exact fun p hp => risB_mem (this.2 l hl) hp
theorem OkA.first {a : Au} (h : OkA a) : ∀ p ∈ a.first, 0 ≤ p ∧ p < a.sets.length := by
  have := h.may
  simp only [mayA, Bool.and_eq_true] at this
  exact fun p hp => risB_mem this.1.1.2 hp
theorem OkA.len {a : Au} (h : OkA a) {l : List Int} (hl : l ∈ a.follow) : l.length ≤ 300 := (small_of h.small).2.2.2.2 l hl
theorem OkA.nsets {a : Au} (h : OkA a) : a.sets.length ≤ 300 := (small_of h.small).1
theorem OkA.nfirst {a : Au} (h : OkA a) : a.first.length ≤ 300 := (small_of h.small).2.1
theorem OkA.nlast {a : Au} (h : OkA a) : a.last.length ≤ 300 := (small_of h.small).2.2.1

theorem inR_eq (a : Au) (p : Int) : inR a p = (leI 0 p && ltI p a.sets.length) := rfl
theorem catL_snoc (a : Au) (ps : List Int) (c : Nat) {i : Nat} (hi : i < ps.length) : catL a (ps.take (i + 1)) c = catL a (ps.take i) c ++ nextL a c ps[i] := by
  rw [List.take_succ_eq_append_getElem hi]; unfold catL; rw [List.flatMap_append]; simp
theorem nextL_len {a : Au} (h : OkA a) (c : Nat) (p : Int) : (nextL a c p).length ≤ 300 := by
  unfold nextL
  split
  · have h1 := havL_len a.sets (a.follow.getD p.toNat []) c
    by_cases hp : p.toNat < a.follow.length
    · have e : a.follow.getD p.toNat [] = a.follow[p.toNat] := by simp [hp]
      rw [e] at h1 ⊢
      exact Nat.le_trans h1 (h.len (List.getElem_mem hp))
    · have e : a.follow.getD p.toNat [] = [] := by simp [Nat.le_of_not_lt hp]
      rw [e]
      have : havL a.sets [] c = [] := rfl
      rw [this]; simp
  · simp
theorem catL_len {a : Au} (h : OkA a) (c : Nat) : ∀ ps : List Int, (catL a ps c).length ≤ 300 * ps.length
  | [] => by simp [catL]
  | p :: ps => by
    have := catL_len h c ps
    have h1 := nextL_len h c p
    unfold catL at this ⊢
    simp only [List.flatMap_cons, List.length_append, List.length_cons]; omega
theorem rising_len : ∀ {l : List Int} {k n : Int}, Rising l → (∀ x ∈ l, k ≤ x ∧ x < n) → k ≤ n → (l.length : Int) ≤ n - k
  | [], k, n, _, _, h => by simp; omega
  | a :: r, k, n, hr, hb, _ => by
    obtain ⟨h1, h2⟩ := List.pairwise_cons.1 hr
    obtain ⟨b1, b2⟩ := hb a (by simp)
    have := rising_len (k := a + 1) (n := n) h2 (fun x hx => ⟨by have := h1 x hx; omega, (hb x (List.mem_cons_of_mem _ hx)).2⟩) (by omega)
    simp only [List.length_cons]; omega
theorem nextL_mem {a : Au} (h : OkA a) {c : Nat} {p x : Int} (hx : x ∈ nextL a c p) : 0 ≤ x ∧ x < a.sets.length := by
  unfold nextL at hx
  split at hx
  · have hx := (List.mem_filter.1 hx).1
    by_cases hp : p.toNat < a.follow.length
    · have e : a.follow.getD p.toNat [] = a.follow[p.toNat] := by simp [hp]
      rw [e] at hx
      exact h.fr (List.getElem_mem hp) x hx
    · have e : a.follow.getD p.toNat [] = [] := by simp [Nat.le_of_not_lt hp]
      rw [e] at hx; cases hx
  · cases hx
theorem stepA_mem {a : Au} (h : OkA a) {c : Nat} {ps : List Int} {x : Int} (hx : x ∈ stepA a ps c) : 0 ≤ x ∧ x < a.sets.length := by
  unfold stepA at hx
  rcases mem_allS.1 hx with hx | hx
  · cases hx
  · unfold catL at hx
    obtain ⟨p, _, hp⟩ := List.mem_flatMap.1 hx
    exact nextL_mem h hp
theorem stepA_len {a : Au} (h : OkA a) (c : Nat) (ps : List Int) : (stepA a ps c).length ≤ 300 := by
  have := rising_len (l := stepA a ps c) (k := 0) (n := a.sets.length) (allS_rising (by simp [Rising])) (fun x hx => stepA_mem h hx) (by omega)
  have := h.nsets
  omega

theorem step24 (hs : SortSays Tryz.Y.P 75) (hcm : CompactSays Tryz.Y.P 76) {a : Au} (ha : OkA a) (ps : List Int) (c : Nat) (hc : c < 256) (hl : ps.length ≤ 2 ^ 10) : PCon Tryz.Y 35 [.agg (auC a), lst encI ps, .i .u8 (c : Nat)] (· = lst encI (stepA a ps c)) := by
  refine pcon_of Tryz.Yok (fn := Tryz.f35) (by kernel_rfl) (by kernel_rfl) rfl ?_
  refine pre_rule Tryz.Yok (n := 40) (loc := Tryz.Y.loc 35) 100 [2, 3, 7, 10, 11, 12] (by kernel_rfl) ?_
  refine Eq.mpr (f35_0 (row setC a.sets) a.sets.length (row encI a.first) a.first.length (row encI a.last) a.last.length (row encLI a.follow) a.follow.length a.empty (row encI ps) ps.length (c : Nat) .empty _) ?_
  refine ⟨rfl, loop2 [2, 3, 7, 10, 11, 12] [2, 3, 7, 10, 11, 12] rfl (by kernel_rfl) (fun m vs h => ∃ (i : Nat) (q : Option (Nat × Nat)) (n : Nat) (cp : Option Nat) (kk : Nat), vs = [.i .u8 (c : Nat), .lb (auC a), .sl q n cp kk, lst encI ps, .i .i64 ps.length, .i .i64 (i : Nat)] ∧ i ≤ ps.length ∧ m = ps.length - i ∧ Lst encI 1 h q n cp kk (catL a (ps.take i) c) ∧ (catL a (ps.take i) c = [] → q = none)) ps.length mk_len ⟨0, none, 0, some 0, 0, rfl, by omega, by omega, Lst.nil _ _ _ _ _, fun _ => rfl⟩ ?_⟩
  rintro m vs h ⟨i, q, n, cp, kk, rfl, hi, rfl, hL, hnil⟩
  refine all_rule Tryz.Yok (loc := Tryz.Y.loc 35) 100 [2, 3, 7, 10, 11, 12] ?_
  refine Eq.mpr (f35_1 (row setC a.sets) a.sets.length (row encI a.first) a.first.length (row encI a.last) a.last.length (row encLI a.follow) a.follow.length a.empty (row encI ps) ps.length (c : Nat) q n cp kk (i : Nat) h _) ?_
  refine if_lt_nat (fun hlt => ?_) (fun hge => ?_)
  · have hsn := catL_snoc a ps c hlt
    have hout : inR a ps[i] = false → nextL a c ps[i] = [] := fun e => by unfold nextL; rw [e]; rfl
    have stay : nextL a c ps[i] = [] → ∃ m', m' < ps.length - i ∧ ∃ (i' : Nat) (q' : Option (Nat × Nat)) (n' : Nat) (cp' : Option Nat) (kk' : Nat), [V.i .u8 (c : Nat), .lb (auC a), .sl q n cp kk, lst encI ps, .i .i64 ps.length, .i .i64 (IntKind.i64.wrap ((i : Nat) + 1))] = [.i .u8 (c : Nat), .lb (auC a), .sl q' n' cp' kk', lst encI ps, .i .i64 ps.length, .i .i64 (i' : Nat)] ∧ i' ≤ ps.length ∧ m' = ps.length - i' ∧ Lst encI 1 h q' n' cp' kk' (catL a (ps.take i') c) ∧ (catL a (ps.take i') c = [] → q' = none) := fun e =>
      ⟨ps.length - (i + 1), by omega, i + 1, q, n, cp, kk, by rw [wrap_succ (by omega)], by omega, rfl, by rw [hsn, e, List.append_nil]; exact hL, by rw [hsn, e, List.append_nil]; exact hnil⟩
    refine ⟨bnd_nat hlt, _, getI ps hlt, if_mk (fun g1 => if_mk (fun g2 => ?_) (fun g2 => ⟨rfl, stay (hout (by rw [inR_eq]; rw [g1, g2]; rfl))⟩)) (fun g1 => ⟨rfl, stay (hout (by rw [inR_eq]; rw [g1]; rfl))⟩)⟩
    have hin : inR a ps[i] = true := by rw [inR_eq]; rw [g1, g2]; rfl
    have g1 : 0 ≤ ps[i] := by simpa [leI] using g1
    have g2 : ps[i] < a.sets.length := by simpa [ltI] using g2
    have hp : ps[i].toNat < a.follow.length := by rw [ha.fl]; omega
    have hD : a.follow.getD ps[i].toNat [] = a.follow[ps[i].toNat] := by simp [hp]
    have hnx : nextL a c ps[i] = havL a.sets a.follow[ps[i].toNat] c := by unfold nextL; rw [hin, if_pos rfl, hD]
    have hmem := List.getElem_mem hp
    have hF := getL a.follow hp
    rw [Int.toNat_natCast] at hF
    have hlen : (catL a (ps.take i) c).length + (havL a.sets a.follow[ps[i].toNat] c).length < 2 ^ 29 := by
      have h1 := catL_len ha c (ps.take i)
      have h2 := havL_len a.sets a.follow[ps[i].toNat] c
      have h3 := ha.len hmem
      rw [List.length_take] at h1; omega
    obtain ⟨a', l', c', k', h', q1, q2, q3⟩ := appLI (havL a.sets a.follow[ps[i].toNat] c) hL hlen
    refine ⟨⟨g1, by rw [ha.fl]; exact g2⟩, _, _, _, hF, _, _, _, having23 a a.follow[ps[i].toNat] c hc (ha.fr hmem) (by have := ha.len hmem; omega), a', l', c', k', h', q1, rfl, ps.length - (i + 1), by omega, i + 1, a', l', c', k', by rw [wrap_succ (by omega)]; rfl, by omega, rfl, by rw [hsn, hnx]; exact q2, ?_⟩
    rw [hsn, hnx]
    exact fun e => by rw [q3 e, hnil (List.append_eq_nil_iff.1 e).1]
  · refine roundW_exit [7] (by kernel_rfl) rfl rfl ?_
    refine end_rule Tryz.Yok (loc := Tryz.Y.loc 35) 100 [6] ?_
    refine Eq.mpr (f35_2 ..) ?_
    rw [List.take_of_length_le hge] at hL hnil
    have hb36 : hasBody Tryz.Y 75 := ⟨Tryz.f75, _, by kernel_rfl, rfl⟩
    have hb37 : hasBody Tryz.Y 76 := ⟨Tryz.f76, _, by kernel_rfl, rfl⟩
    generalize hz : catL a ps c = zs at hL hnil
    have hzl : zs.length ≤ 300 * ps.length := by rw [← hz]; exact catL_len ha c ps
    have hres : stepA a ps c = dedupS (sortZ zs) := by unfold stepA; rw [hz, sortZ_all]
    obtain ⟨⟨cells, hI, hcold, hF⟩, hlen⟩ := hL
    rw [rowI] at hF
    have hcs := frzI hF
    subst hcs
    rcases hI.2 with ⟨rfl, h0, h5⟩ | ⟨id, rfl, rfl, rfl, h5, h6⟩
    · have hz0 : zs = [] := by cases zs with
        | nil => rfl
        | cons z r => simp at h5
      subst hz0 h0
      refine (sort_con0 hb36 hs).mono fun v h' ⟨e1, e2⟩ => ⟨e1, ?_⟩
      refine (compact_con0 hb37 hcm).mono fun v h' ⟨e1, e2⟩ => ⟨_, _, _, _, e1, ?_⟩
      refine finV1 (.inr rfl) rfl (.sln _ _ none (fun _ h => by cases h)) ?_
      rw [hres, show sortZ ([] : List Int) = [] from List.mergeSort_nil]
      rfl
    · have hne : zs ≠ [] := fun e => by have := hnil e; cases this
      subst hlen
      refine (sort_con hb36 hs h6 hne (by omega)).mono fun v h' ⟨e1, e2⟩ => ⟨e1, ?_⟩
      subst e2
      have hg : (h.set id (some (.arr (intsV (sortZ zs)) true))).get id = some (.arr (intsV (sortZ zs)) true) := by rw [Heap.get_set, if_pos rfl]
      have hsl : (sortZ zs).length = zs.length := List.length_mergeSort _
      have hc2 := compact_con hb37 hcm (c := none) (k := 1) hg (fun e => by rw [e] at hsl; exact hne (List.eq_nil_of_length_eq_zero hsl.symm)) (by omega)
      rw [hsl] at hc2
      refine hc2.mono fun v h' ⟨e1, e2⟩ => ⟨_, _, _, _, e1, ?_⟩
      subst e2
      refine finV1 (.inr rfl) rfl (.sl id 0 _ none 1 (intsV (restZ (sortZ zs))) true (intsV (dedupS (sortZ zs))) (intsV (dedupS (sortZ zs))) none (by rw [Heap.get_set, if_pos rfl]) ?_ (fun _ h => by cases h) (by decide) ?_) ?_
      · rw [List.drop_zero, Nat.mul_one]
        have : ∀ (x y : List V), takeX x.length (x ++ y) = some x := by
          intro x
          induction x with
          | nil => intro y; rfl
          | cons v x ih => intro y; simp [takeX, ih]
        have h2 := this (intsV (dedupS (sortZ zs))) (intsV (List.replicate ((sortZ zs).length - (dedupS (sortZ zs)).length) 0))
        rw [List.length_map] at h2
        rw [← h2, intsV, List.map_append]
      · have := rowI_frz (dedupS (sortZ zs)) ((h.set id (some (.arr (intsV (sortZ zs)) true))).set id (some (.arr (intsV (restZ (sortZ zs))) true)))
        rwa [rowI] at this
      · rw [hres]
        simp only [lst, rowI]

end Go.Y

/- The table once more: an automaton's lists in memory hold what is read-only. -/
namespace Go.Y
open Go.Proofs
def Tryr.locs : List (List Nat) := (Tryz.locs.set 190 []).set 176 [2]
noncomputable def Tryr.Y : YP := ⟨Go.Proofs.Tryz.prog, Tryz.tys, Tryr.locs, Tryz.modes, [182, 5], [(185, 1), (197, 2)], [26, 27, 28, 31, 32, 33, 34, 35]⟩
theorem Tryr.Yok : YOK Tryr.Y := tabB_ok (by kernel_rfl) Tryz.extok
end Go.Y

/- What the pieces of functions come to: printed by program. -/
namespace Go.Y
open Go.Proofs
set_option maxRecDepth 100000
set_option maxHeartbeats 0
theorem f65_0 (cs0 : List V) (n0 : Nat) (id1 : Nat) (h : Heap) (K : KT) : (codeP Tryz.Y (Tryz.Y.loc 65) 100 ((flat (bodyOf Tryz.f65))) ⟨(V.ts cs0 n0 none :: V.fn (Fn.func 66) [] [V.p (some (id1, 0))] :: List.replicate 7 .undef), [], h⟩ (VQ [4] K)) =
  (Con Tryz.Y (85 : Nat) [V.ts cs0 n0 none, V.fn (Fn.func 66) [] [V.p (some (id1, 0))]] h
  fun (v : V) (h' : Heap) => ∃ (n : Int), v = V.i IntKind.i64 n ∧ K Out.ret 9 [V.b (leI (0 : Int) n)] h') := by kernel_rfl
theorem f66_0 (cs0 : List V) (n0 : Nat) (id1 : Nat) (h : Heap) (K : KT) : (codeP Tryz.Y (Tryz.Y.loc 66) 100 ((flat (bodyOf Tryz.f66))) ⟨(V.ts cs0 n0 none :: V.p (some (id1, 0)) :: List.replicate 6 .undef), [], h⟩ (VQ [3] K)) =
  (∃ (n : Int),
  hcells h id1 0 1 = some [V.i IntKind.i64 n] ∧
 ∃ (b : Bool),
 (PCon Tryz.Y (64 : Nat) [V.ts cs0 n0 none, V.i IntKind.i64 n] fun (v : V) => v = V.b b) ∧
 K Out.ret 8 [V.b !b] h) := by kernel_rfl
theorem f85_0 (cs0 : List V) (n0 : Nat) (id1 : Nat) (h : Heap) (K : KT) : (codeP Tryz.Y (Tryz.Y.loc 85) 100 (pre (flat (bodyOf Tryz.f85))) ⟨(V.ts cs0 n0 none :: V.fn (Fn.func 66) [] [V.p (some (id1, 0))] :: List.replicate 17 .undef), [], h⟩ (VQ [0, 1, 7, 8] K)) =
  (K Out.normal 19
  [V.ts cs0 n0 none, V.fn (Fn.func 66) [] [V.p (some (id1, 0))], V.i IntKind.i64 (↑n0 : Int),
 V.i IntKind.i64 (0 : Int)]
  h) := by kernel_rfl
theorem f85_1 (cs0 : List V) (n0 : Nat) (id1 : Nat) (x8 : Int) (h : Heap) (K : KT) : (codeP Tryz.Y (Tryz.Y.loc 85) 100 ((flat (loopB (post (flat (bodyOf Tryz.f85)))))) ⟨mk 19 (([0, 1, 7, 8] : List Nat).zip [V.ts cs0 n0 none, V.fn (Fn.func 66) [] [V.p (some (id1, 0))], V.i IntKind.i64 (↑n0 : Int), V.i IntKind.i64 x8]), [], h⟩ (VQ [0, 1, 4, 7, 8] K)) =
  (If (ltI x8 (↑n0 : Int))
  (((0 : Int) ≤ x8 ∧ x8 < (↑n0 : Int)) ∧
 ∃ (cs : List V),
 ∃ (l : Nat),
 ∃ (c : Option Nat),
 takeX 1 (List.drop (x8.toNat * (1 : Nat)) cs0) = some [V.ts cs l c] ∧
 ∃ (b : Bool),
 RCon Tryz.Y 66 [V.ts cs l c, V.p (some (id1, 0))] h (V.b b) ∧
 If b
 (K Out.ret 19
 [V.ts cs0 n0 none, V.fn (Fn.func 66) [] [V.p (some (id1, 0))],
 V.i IntKind.i64 x8, V.i IntKind.i64 (↑n0 : Int), V.i IntKind.i64 x8]
 h)
 (K Out.normal 19
 [V.ts cs0 n0 none, V.fn (Fn.func 66) [] [V.p (some (id1, 0))], V.undef,
 V.i IntKind.i64 (↑n0 : Int), V.i IntKind.i64 (IntKind.i64.wrap (x8 + (1 : Int)))]
 h))
  (K (Out.exit 0) 19
 [V.ts cs0 n0 none, V.fn (Fn.func 66) [] [V.p (some (id1, 0))], V.undef,
 V.i IntKind.i64 (↑n0 : Int), V.i IntKind.i64 x8]
 h)) := by kernel_rfl
theorem f85_2  (h : Heap) (K : KT) : (codeP Tryz.Y (Tryz.Y.loc 85) 100 (((post (flat (bodyOf Tryz.f85))).drop 1)) ⟨mk 19 (([] : List Nat).zip []), [], h⟩ (VQ [4] K)) =
  (K Out.ret 19 [V.i IntKind.i64 (-1 : Int)] h) := by kernel_rfl
theorem f77_0 (cs0 : List V) (n0 : Nat) (id1 : Nat) (h : Heap) (K : KT) : (codeP Tryz.Y (Tryz.Y.loc 77) 100 ((flat (bodyOf Tryz.f77))) ⟨(V.ts cs0 n0 none :: V.fn (Fn.func 78) [] [V.p (some (id1, 0))] :: List.replicate 7 .undef), [], h⟩ (VQ [4] K)) =
  (Con Tryz.Y (122 : Nat) [V.ts cs0 n0 none, V.fn (Fn.func 78) [] [V.p (some (id1, 0))]] h
  fun (v : V) (h' : Heap) => ∃ (n : Int), v = V.i IntKind.i64 n ∧ K Out.ret 9 [V.b (leI (0 : Int) n)] h') := by kernel_rfl
theorem f78_0 (x0 : Int) (id1 : Nat) (h : Heap) (K : KT) : (codeP Tryr.Y (Tryr.Y.loc 78) 100 ((flat (bodyOf Tryz.f78))) ⟨(V.i .i64 x0 :: V.p (some (id1, 0)) :: List.replicate 6 .undef), [], h⟩ (VQ [3] K)) =
  (∃ (cs : List V),
  ∃ (l : Nat),
 ∃ (c : Option Nat),
 hcells h id1 2 1 = some [V.ts cs l c] ∧
 ∃ (b : Bool),
 (PCon Tryr.Y (79 : Nat) [V.ts cs l c, V.i IntKind.i64 x0] fun (v : V) => v = V.b b) ∧
 K Out.ret 8 [V.b b] h) := by kernel_rfl
theorem f79_0 (cs0 : List V) (n0 : Nat) (x1 : Int) (h : Heap) (K : KT) : (codeP Tryz.Y (Tryz.Y.loc 79) 100 ((flat (bodyOf Tryz.f79))) ⟨(V.ts cs0 n0 none :: V.i IntKind.i64 x1 :: List.replicate 7 .undef), [], h⟩ (VQ [4] K)) =
  (∃ (n : Int),
  (PCon Tryz.Y (123 : Nat) [V.ts cs0 n0 none, V.i IntKind.i64 x1] fun (v : V) => v = V.i IntKind.i64 n) ∧
 K Out.ret 9 [V.b (leI (0 : Int) n)] h) := by kernel_rfl
theorem f122_0 (cs0 : List V) (n0 : Nat) (id1 : Nat) (h : Heap) (K : KT) : (codeP Tryz.Y (Tryz.Y.loc 122) 100 (pre (flat (bodyOf Tryz.f122))) ⟨(V.ts cs0 n0 none :: V.fn (Fn.func 78) [] [V.p (some (id1, 0))] :: List.replicate 17 .undef), [], h⟩ (VQ [0, 1, 7, 8] K)) =
  (K Out.normal 19
  [V.ts cs0 n0 none, V.fn (Fn.func 78) [] [V.p (some (id1, 0))], V.i IntKind.i64 (↑n0 : Int),
 V.i IntKind.i64 (0 : Int)]
  h) := by kernel_rfl
theorem f122_1 (cs0 : List V) (n0 : Nat) (id1 : Nat) (x8 : Int) (h : Heap) (K : KT) : (codeP Tryz.Y (Tryz.Y.loc 122) 100 ((flat (loopB (post (flat (bodyOf Tryz.f122)))))) ⟨mk 19 (([0, 1, 7, 8] : List Nat).zip [V.ts cs0 n0 none, V.fn (Fn.func 78) [] [V.p (some (id1, 0))], V.i IntKind.i64 (↑n0 : Int), V.i IntKind.i64 x8]), [], h⟩ (VQ [0, 1, 4, 7, 8] K)) =
  (If (ltI x8 (↑n0 : Int))
  (((0 : Int) ≤ x8 ∧ x8 < (↑n0 : Int)) ∧
 ∃ (n : Int),
 takeX 1 (List.drop (x8.toNat * (1 : Nat)) cs0) = some [V.i IntKind.i64 n] ∧
 ∃ (b : Bool),
 RCon Tryz.Y 78 [V.i IntKind.i64 n, V.p (some (id1, 0))] h (V.b b) ∧
 If b
 (K Out.ret 19
 [V.ts cs0 n0 none, V.fn (Fn.func 78) [] [V.p (some (id1, 0))], V.i IntKind.i64 x8,
 V.i IntKind.i64 (↑n0 : Int), V.i IntKind.i64 x8]
 h)
 (K Out.normal 19
 [V.ts cs0 n0 none, V.fn (Fn.func 78) [] [V.p (some (id1, 0))], V.undef,
 V.i IntKind.i64 (↑n0 : Int), V.i IntKind.i64 (IntKind.i64.wrap (x8 + (1 : Int)))]
 h))
  (K (Out.exit 0) 19
 [V.ts cs0 n0 none, V.fn (Fn.func 78) [] [V.p (some (id1, 0))], V.undef,
 V.i IntKind.i64 (↑n0 : Int), V.i IntKind.i64 x8]
 h)) := by kernel_rfl
theorem f122_2  (h : Heap) (K : KT) : (codeP Tryz.Y (Tryz.Y.loc 122) 100 (((post (flat (bodyOf Tryz.f122))).drop 1)) ⟨mk 19 (([] : List Nat).zip []), [], h⟩ (VQ [4] K)) =
  (K Out.ret 19 [V.i IntKind.i64 (-1 : Int)] h) := by kernel_rfl
theorem f123_0 (cs0 : List V) (n0 : Nat) (x1 : Int) (h : Heap) (K : KT) : (codeP Tryz.Y (Tryz.Y.loc 123) 100 (pre (flat (bodyOf Tryz.f123))) ⟨(V.ts cs0 n0 none :: V.i IntKind.i64 x1 :: List.replicate 17 .undef), [], h⟩ (VQ [0, 1, 7, 8] K)) =
  (K Out.normal 19 [V.ts cs0 n0 none, V.i IntKind.i64 x1, V.i IntKind.i64 (↑n0 : Int), V.i IntKind.i64 (0 : Int)]
  h) := by kernel_rfl
theorem f123_1 (cs0 : List V) (n0 : Nat) (x1 : Int) (x8 : Int) (h : Heap) (K : KT) : (codeP Tryz.Y (Tryz.Y.loc 123) 100 ((flat (loopB (post (flat (bodyOf Tryz.f123)))))) ⟨mk 19 (([0, 1, 7, 8] : List Nat).zip [V.ts cs0 n0 none, V.i IntKind.i64 x1, V.i IntKind.i64 (↑n0 : Int), V.i IntKind.i64 x8]), [], h⟩ (VQ [0, 1, 4, 7, 8] K)) =
  (If (ltI x8 (↑n0 : Int))
  (((0 : Int) ≤ x8 ∧ x8 < (↑n0 : Int)) ∧
 ∃ (n : Int),
 takeX 1 (List.drop (x8.toNat * (1 : Nat)) cs0) = some [V.i IntKind.i64 n] ∧
 If (x1 == n)
 (K Out.ret 19
 [V.ts cs0 n0 none, V.i IntKind.i64 x1, V.i IntKind.i64 x8, V.i IntKind.i64 (↑n0 : Int), V.i IntKind.i64 x8]
 h)
 (K Out.normal 19
 [V.ts cs0 n0 none, V.i IntKind.i64 x1, V.undef, V.i IntKind.i64 (↑n0 : Int),
 V.i IntKind.i64 (IntKind.i64.wrap (x8 + (1 : Int)))]
 h))
  (K (Out.exit 0) 19
 [V.ts cs0 n0 none, V.i IntKind.i64 x1, V.undef, V.i IntKind.i64 (↑n0 : Int), V.i IntKind.i64 x8] h)) := by kernel_rfl
theorem f123_2  (h : Heap) (K : KT) : (codeP Tryz.Y (Tryz.Y.loc 123) 100 (((post (flat (bodyOf Tryz.f123))).drop 1)) ⟨mk 19 (([] : List Nat).zip []), [], h⟩ (VQ [4] K)) =
  (K Out.ret 19 [V.i IntKind.i64 (-1 : Int)] h) := by kernel_rfl
end Go.Y

/- Automata: ends, May. -/
namespace Go.Y
open Go.Proofs
set_option maxRecDepth 100000
set_option maxHeartbeats 1000000

def idxI (l : List Int) (x : Int) : Int := if hasI l x then (l.findIdx (fun y => x == y) : Nat) else -1
theorem idxI_ok (l : List Int) (x : Int) : leI 0 (idxI l x) = hasI l x := by
  unfold idxI
  by_cases h : hasI l x = true
  · rw [if_pos h, h]; simp [leI]
  · have h : hasI l x = false := by simpa using h
    rw [h]; rfl

theorem index53 (l : List Int) (x : Int) (hl : l.length < 2 ^ 20) : PCon Tryz.Y 123 [lst encI l, .i .i64 x] (· = .i .i64 (idxI l x)) := by
  refine pcon_of Tryz.Yok (fn := Tryz.f123) (by kernel_rfl) (by kernel_rfl) rfl ?_
  refine pre_rule Tryz.Yok (n := 19) (loc := Tryz.Y.loc 123) 100 [0, 1, 7, 8] (by kernel_rfl) ?_
  refine Eq.mpr (f123_0 (row encI l) l.length x .empty _) ?_
  refine ⟨rfl, loop2 [0, 1, 7, 8] [0, 1, 4, 7, 8] rfl (by kernel_rfl) (fun m vs _ => ∃ i : Nat, vs = [lst encI l, .i .i64 x, .i .i64 l.length, .i .i64 (i : Nat)] ∧ i ≤ l.length ∧ hasI (l.take i) x = false ∧ m = l.length - i) l.length mk_len ⟨0, rfl, by omega, by simp [hasI], by omega⟩ ?_⟩
  rintro m vs h ⟨i, rfl, hi, hno, rfl⟩
  refine all_rule Tryz.Yok (loc := Tryz.Y.loc 123) 100 [0, 1, 4, 7, 8] ?_
  refine Eq.mpr (f123_1 (row encI l) l.length x (i : Nat) h _) ?_
  refine if_lt_nat (fun hlt => ?_) (fun hge => ?_)
  · refine ⟨bnd_nat hlt, _, getI l hlt, if_mk (fun hc => ?_) (fun hc => ?_)⟩
    · refine fin_at (.inr rfl) rfl ⟨_, .i _ _, ?_⟩
      have h1 : hasI l x = true := List.any_eq_true.2 ⟨l[i], List.getElem_mem hlt, hc⟩
      have h2 : l.findIdx (fun y => x == y) = i := (List.findIdx_eq hlt).2 ⟨hc, fun j hj => by
        have := List.any_eq_false.1 hno l[j] (List.mem_take_iff_getElem.2 ⟨j, by omega, rfl⟩)
        simpa using this⟩
      unfold idxI
      rw [if_pos h1, h2]
    · refine ⟨rfl, l.length - (i + 1), by omega, i + 1, by rw [wrap_succ (by omega)]; rfl, by omega, ?_, rfl⟩
      unfold hasI at hno ⊢
      rw [List.take_succ_eq_append_getElem hlt, List.any_append, hno]; simp only [List.any_cons, List.any_nil, hc, Bool.or_false]
  · refine roundW_exit [] (by kernel_rfl) rfl rfl ?_
    refine end_rule Tryz.Yok (loc := Tryz.Y.loc 123) 100 [4] ?_
    refine Eq.mpr (f123_2 h _) ?_
    rw [List.take_of_length_le hge] at hno
    exact finV1 (.inr rfl) rfl (.i _ _) (by unfold idxI; rw [hno]; rfl)

theorem contains40 (l : List Int) (x : Int) (hl : l.length < 2 ^ 20) : PCon Tryz.Y 79 [lst encI l, .i .i64 x] (· = .b (hasI l x)) :=
  tree_con Tryz.Yok (fn := Tryz.f79) (by kernel_rfl) (by kernel_rfl) rfl (fun K => f79_0 (row encI l) l.length x .empty K) rfl ⟨_, index53 l x hl, finV1 (.inr rfl) rfl (.b _) (by rw [idxI_ok])⟩

theorem Con.zr {f : FuncId} {args : List V} {h : Heap} {Q : V → Heap → Prop} (c : Con Tryr.Y f args h Q) : Con Tryz.Y f args h Q := ⟨c.body, c.tr⟩
theorem PCon.rz {f : FuncId} {args : List V} {Q : V → Prop} (c : PCon Tryz.Y f args Q) : PCon Tryr.Y f args Q := ⟨c.body, c.tr⟩
theorem close39 {a : Au} (hl : a.last.length ≤ 300) (x : Int) {h : Heap} {id : Nat} (hg : h.get id = some (.arr (auC a) true)) : Con Tryz.Y 78 [.i .i64 x, .p (some (id, 0))] h fun v h' => v = .b (hasI a.last x) ∧ h' = h := by
  refine Con.zr ?_
  refine conz_of Tryr.Yok (fn := Tryz.f78) (by kernel_rfl) (by kernel_rfl) (end_rule Tryr.Yok (loc := Tryr.Y.loc 78) 100 [3] ?_)
  refine Eq.mpr (f78_0 x id h _) ?_
  exact ⟨_, _, _, by rw [hcells_of hg]; rfl, _, PCon.rz (contains40 a.last x (by omega)), finC (.inr rfl) rfl (.now ⟨rfl, rfl⟩)⟩
theorem rcon39 {a : Au} (hl : a.last.length ≤ 300) (x : Int) {h : Heap} {id : Nat} (hg : h.get id = some (.arr (auC a) true)) : RCon Tryz.Y 78 [.i .i64 x, .p (some (id, 0))] h (.b (hasI a.last x)) :=
  ⟨h, close39 hl x hg, fun _ _ => rfl, fun _ hp => hp⟩

theorem index52 {a : Au} (ha : a.last.length ≤ 300) (l : List Int) {h : Heap} {id : Nat} (hg : h.get id = some (.arr (auC a) true)) (hl : l.length ≤ 2 ^ 10) :
    Con Tryz.Y 122 [lst encI l, .fn (.func 78) [] [.p (some (id, 0))]] h fun v h' => ∃ n : Int, v = .i .i64 n ∧ leI 0 n = endsA a l ∧ h' = h := by
  refine conz_of Tryz.Yok (fn := Tryz.f122) (by kernel_rfl) (by kernel_rfl) ?_
  refine pre_rule Tryz.Yok (n := 19) (loc := Tryz.Y.loc 122) 100 [0, 1, 7, 8] (by kernel_rfl) ?_
  refine Eq.mpr (f122_0 (row encI l) l.length id h _) ?_
  refine ⟨rfl, loop2 [0, 1, 7, 8] [0, 1, 4, 7, 8] rfl (by kernel_rfl) (fun m vs h' => ∃ i : Nat, vs = [lst encI l, .fn (.func 78) [] [.p (some (id, 0))], .i .i64 l.length, .i .i64 (i : Nat)] ∧ i ≤ l.length ∧ endsA a (l.take i) = false ∧ m = l.length - i ∧ h' = h) l.length mk_len ⟨0, rfl, by omega, by simp [endsA], by omega, rfl⟩ ?_⟩
  rintro m vs h' ⟨i, rfl, hi, hno, rfl, rfl⟩
  refine all_rule Tryz.Yok (loc := Tryz.Y.loc 122) 100 [0, 1, 4, 7, 8] ?_
  refine Eq.mpr (f122_1 (row encI l) l.length id (i : Nat) h' _) ?_
  refine if_lt_nat (fun hlt => ?_) (fun hge => ?_)
  · refine ⟨bnd_nat hlt, _, getI l hlt, _, rcon39 ha l[i] hg, if_mk (fun hc => ?_) (fun hc => ?_)⟩
    · refine fin_at (.inr rfl) rfl (.now ⟨(i : Nat), rfl, ?_, rfl⟩)
      have : endsA a l = true := List.any_eq_true.2 ⟨l[i], List.getElem_mem hlt, hc⟩
      rw [this]; simp [leI]
    · refine ⟨rfl, l.length - (i + 1), by omega, i + 1, ?_, by omega, ?_, rfl, rfl⟩
      · rw [wrap_succ (by omega)]; rfl
      · unfold endsA at hno ⊢
        rw [List.take_succ_eq_append_getElem hlt, List.any_append, hno]; simp only [List.any_cons, List.any_nil, hc, Bool.or_false]
  · refine roundW_exit [] (by kernel_rfl) rfl rfl ?_
    refine end_rule Tryz.Yok (loc := Tryz.Y.loc 122) 100 [4] ?_
    refine Eq.mpr (f122_2 h' _) ?_
    rw [List.take_of_length_le hge] at hno
    exact finC (.inr rfl) rfl (.now ⟨-1, rfl, by rw [hno]; rfl, rfl⟩)
theorem contains38 {a : Au} (ha : a.last.length ≤ 300) (l : List Int) {h : Heap} {id : Nat} (hg : h.get id = some (.arr (auC a) true)) (hl : l.length ≤ 2 ^ 10) :
    Con Tryz.Y 77 [lst encI l, .fn (.func 78) [] [.p (some (id, 0))]] h fun v h' => v = .b (endsA a l) ∧ h' = h := by
  refine conz_of Tryz.Yok (fn := Tryz.f77) (by kernel_rfl) (by kernel_rfl) (end_rule Tryz.Yok (loc := Tryz.Y.loc 77) 100 [4] ?_)
  refine Eq.mpr (f77_0 (row encI l) l.length id h _) ?_
  refine (index52 ha l hg hl).mono fun v h' ⟨n, e1, e2, e3⟩ => ⟨n, e1, ?_⟩
  subst e3
  rw [e2]
  exact finC (.inr rfl) rfl (.now ⟨rfl, rfl⟩)
theorem ends25 {a : Au} (ha : a.last.length ≤ 300) (ps : List Int) (hl : ps.length ≤ 2 ^ 10) : PCon Tryz.Y 36 [.agg (auC a), lst encI ps] (· = .b (endsA a ps)) := by
  refine tree_con Tryz.Yok (fn := Tryz.f36) (by kernel_rfl) (by kernel_rfl) rfl (fun K => f36_0 (row setC a.sets) a.sets.length (row encI a.first) a.first.length (row encI a.last) a.last.length (row encLI a.follow) a.follow.length a.empty (row encI ps) ps.length .empty K) rfl ?_
  refine (contains38 ha ps (by simp) hl).mono fun v h' ⟨e1, e2⟩ => ⟨_, e1, finV1 (.inr rfl) rfl (.b _) rfl⟩

abbrev nC (n : Int) : List V := [.i .i64 n]
theorem close22 (l : List Int) (hl : l.length ≤ 300) (n : Int) {h : Heap} {id : Nat} (hg : h.get id = some (.arr (nC n) true)) : Con Tryz.Y 66 [lst encI l, .p (some (id, 0))] h fun v h' => v = .b (!risB l n) ∧ h' = h := by
  refine conz_of Tryz.Yok (fn := Tryz.f66) (by kernel_rfl) (by kernel_rfl) (end_rule Tryz.Yok (loc := Tryz.Y.loc 66) 100 [3] ?_)
  refine Eq.mpr (f66_0 (row encI l) l.length id h _) ?_
  exact ⟨n, by rw [hcells_of hg]; rfl, _, ris20 l n (by omega), finC (.inr rfl) rfl (.now ⟨rfl, rfl⟩)⟩
theorem rcon22 (l : List Int) (hl : l.length ≤ 300) (n : Int) {h : Heap} {id : Nat} (hg : h.get id = some (.arr (nC n) true)) : RCon Tryz.Y 66 [lst encI l, .p (some (id, 0))] h (.b (!risB l n)) :=
  ⟨h, close22 l hl n hg, fun _ _ => rfl, fun _ hp => hp⟩

theorem index35 (ls : List (List Int)) (hls : ∀ l ∈ ls, l.length ≤ 300) (k : Int) {h : Heap} {id : Nat} (hg : h.get id = some (.arr (nC k) true)) (hl : ls.length ≤ 300) :
    Con Tryz.Y 85 [lst encLI ls, .fn (.func 66) [] [.p (some (id, 0))]] h fun v h' => ∃ n : Int, v = .i .i64 n ∧ leI 0 n = (ls.any fun l => !risB l k) ∧ h' = h := by
  refine conz_of Tryz.Yok (fn := Tryz.f85) (by kernel_rfl) (by kernel_rfl) ?_
  refine pre_rule Tryz.Yok (n := 19) (loc := Tryz.Y.loc 85) 100 [0, 1, 7, 8] (by kernel_rfl) ?_
  refine Eq.mpr (f85_0 (row encLI ls) ls.length id h _) ?_
  refine ⟨rfl, loop2 [0, 1, 7, 8] [0, 1, 4, 7, 8] rfl (by kernel_rfl) (fun m vs h' => ∃ i : Nat, vs = [lst encLI ls, .fn (.func 66) [] [.p (some (id, 0))], .i .i64 ls.length, .i .i64 (i : Nat)] ∧ i ≤ ls.length ∧ ((ls.take i).any fun l => !risB l k) = false ∧ m = ls.length - i ∧ h' = h) ls.length mk_len ⟨0, rfl, by omega, by simp, by omega, rfl⟩ ?_⟩
  rintro m vs h' ⟨i, rfl, hi, hno, rfl, rfl⟩
  refine all_rule Tryz.Yok (loc := Tryz.Y.loc 85) 100 [0, 1, 4, 7, 8] ?_
  refine Eq.mpr (f85_1 (row encLI ls) ls.length id (i : Nat) h' _) ?_
  refine if_lt_nat (fun hlt => ?_) (fun hge => ?_)
  · refine ⟨bnd_nat hlt, _, _, _, getL ls hlt, _, rcon22 ls[i] (hls _ (List.getElem_mem hlt)) k hg, if_mk (fun hc => ?_) (fun hc => ?_)⟩
    · refine fin_at (.inr rfl) rfl (.now ⟨(i : Nat), rfl, ?_, rfl⟩)
      have : (ls.any fun l => !risB l k) = true := List.any_eq_true.2 ⟨ls[i], List.getElem_mem hlt, hc⟩
      rw [this]; simp [leI]
    · refine ⟨rfl, ls.length - (i + 1), by omega, i + 1, ?_, by omega, ?_, rfl, rfl⟩
      · rw [wrap_succ (by omega)]; rfl
      · rw [List.take_succ_eq_append_getElem hlt, List.any_append, hno]; simp only [List.any_cons, List.any_nil, hc, Bool.or_false]
  · refine roundW_exit [] (by kernel_rfl) rfl rfl ?_
    refine end_rule Tryz.Yok (loc := Tryz.Y.loc 85) 100 [4] ?_
    refine Eq.mpr (f85_2 h' _) ?_
    rw [List.take_of_length_le hge] at hno
    exact finC (.inr rfl) rfl (.now ⟨-1, rfl, by rw [hno]; rfl, rfl⟩)
theorem contains21 (ls : List (List Int)) (hls : ∀ l ∈ ls, l.length ≤ 300) (k : Int) {h : Heap} {id : Nat} (hg : h.get id = some (.arr (nC k) true)) (hl : ls.length ≤ 300) :
    Con Tryz.Y 65 [lst encLI ls, .fn (.func 66) [] [.p (some (id, 0))]] h fun v h' => v = .b (!ls.all fun l => risB l k) ∧ h' = h := by
  refine conz_of Tryz.Yok (fn := Tryz.f65) (by kernel_rfl) (by kernel_rfl) (end_rule Tryz.Yok (loc := Tryz.Y.loc 65) 100 [4] ?_)
  refine Eq.mpr (f65_0 (row encLI ls) ls.length id h _) ?_
  refine (index35 ls hls k hg hl).mono fun v h' ⟨n, e1, e2, e3⟩ => ⟨n, e1, ?_⟩
  subst e3
  rw [e2, any_neg]
  exact finC (.inr rfl) rfl (.now ⟨rfl, rfl⟩)

theorem may7 (a : Au) (hs : smallA a = true) : PCon Tryz.Y 26 [.agg (auC a)] (· = .b (mayA a)) := by
  obtain ⟨s1, s2, s3, s4, s5⟩ := small_of hs
  refine tree_con Tryz.Yok (fn := Tryz.f26) (by kernel_rfl) (by kernel_rfl) rfl (fun K => f26_0 (row setC a.sets) a.sets.length (row encI a.first) a.first.length (row encI a.last) a.last.length (row encLI a.follow) a.follow.length a.empty .empty K) rfl ?_
  have htag : Tryz.Y.tag 3 = none := by kernel_rfl
  rw [htag]
  have hgp : ∀ j, ((Heap.empty).pushT none (YObj.arr [.i .i64 0] true)).get j = if j = Heap.empty.nx then some (YObj.arr [.i .i64 0] true) else Heap.empty.get j := fun j => Heap.get_pushT _ _ _ _
  let h1 : Heap := ((Heap.empty).pushT none (YObj.arr [.i .i64 0] true)).set Heap.empty.nx (some (.arr (nC a.sets.length) true))
  have hst : hstore ((Heap.empty).pushT none (YObj.arr [.i .i64 0] true)) Heap.empty.nx 0 [.i .i64 (a.sets.length : Nat)] = some h1 := by
    simp only [hstore, hgp, if_true]
    rfl
  have hx : h1.get Heap.empty.nx = some (.arr (nC a.sets.length) true) := by rw [Heap.get_set, if_pos rfl]
  have c1 : hcells h1 Heap.empty.nx 0 1 = some [.i .i64 (a.sets.length : Nat)] := by rw [hcells_of hx]; rfl
  have no : mayA a = false → Fin Tryz.Y Tryz.f26 [2] (fun v h => ∃ r, Frz h v r ∧ r = .b (mayA a)) .ret 35 [.b false] h1 := fun e => finV1 (.inr rfl) rfl (.b _) (by rw [e])
  refine ⟨h1, hst, _, c1, if_lt (fun g => by omega) (fun g1 => ⟨_, c1, if_mk (fun g => no (by simp at g; simp [mayA, show ¬ a.follow.length = a.sets.length by omega])) (fun g2 => ?_)⟩)⟩
  have g2 : a.follow.length = a.sets.length := by simp at g2; omega
  refine ⟨_, c1, _, ris20 a.first a.sets.length (by omega), if_mk (fun g => no (by simp [mayA, show risB a.first a.sets.length = false by simpa using g])) (fun g3 => ?_)⟩
  have g3 : risB a.first a.sets.length = true := by simpa using g3
  refine ⟨_, c1, _, ris20 a.last a.sets.length (by omega), if_mk (fun g => no (by simp [mayA, show risB a.last a.sets.length = false by simpa using g])) (fun g4 => ?_)⟩
  have g4 : risB a.last a.sets.length = true := by simpa using g4
  refine (contains21 a.follow s5 a.sets.length hx s4).mono fun v h' ⟨e1, e2⟩ => ⟨_, e1, finV1 (.inr rfl) rfl (.b _) ?_⟩
  simp only [mayA, g2, g3, g4, show a.sets.length ≤ 300 by omega, decide_true, Bool.true_and, Bool.not_not]
end Go.Y
