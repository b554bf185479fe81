/- nfa.part: repeats, and all kinds, by contracts. -/
import Derived.Test.YteennilbmmlikaaGreatDoorGPart
import Derived.Test.YteennilbmmlikaaGreatDoorYTryzP
import Derived.Test.YteennilbmmlikaaGreatDoorYLoop
namespace Go.Y
open Go.Proofs Go.Sort
set_option maxRecDepth 100000
set_option maxHeartbeats 2000000

theorem leI_dec (a b : Int) : leI a b = decide (a ≤ b) := by
  unfold leI
  by_cases h : a ≤ b <;> simp [h]

abbrev repS (A : Au0) (x : Re) (lo hi : Int) (i : Nat) : Au0 × Part := repP boS (partF boS x) lo hi (timesF lo hi) i 0 A ⟨[], [], true⟩

theorem repeat_ex (hs : SortSays Tryz.Y.P 75) (hcm : CompactSays Tryz.Y.P 76) {B : Nat} {k : Int} {s : S4} {x : Re} {lo hi n : Int} (h1 : 0 ≤ lo) (h2 : lo ≤ 8) (h3 : hi ≤ 8) (hwf : wfRe B x) (ih : PartX x) {h : Heap} {id : Nat} {A : Au0} (hA : AuB A) (hM : MkA h id A) (hn : A.sets.length + timesF lo hi * cntRe x ≤ 300) :
    ∃ g, (Con Tryz.Y 74 [.p (some (id, 0)), .agg (encRe (.mk k s [x] lo hi n))] h fun v h' => v = .agg (partC (repS A x lo hi (timesF lo hi)).2) ∧ h' = g) ∧ MkA g id (repS A x lo hi (timesF lo hi)).1 := by
  have hN := times_le h2 h3
  have htc := times_con k s [x] lo hi n h1
  have stp : ∀ i, repS A x lo hi (i + 1) = stepR boS (partF boS x) lo hi (timesF lo hi) i (repS A x lo hi i) := fun i => by
    rw [repS, rep_snoc, Nat.zero_add]
  have bnd : ∀ i, i ≤ timesF lo hi → AuB (repS A x lo hi i).1 ∧ PaB (repS A x lo hi i).1.sets.length (repS A x lo hi i).2 ∧ (repS A x lo hi i).1.sets.length = A.sets.length + i * cntRe x := fun i _ =>
    rep_B (fun A hA => part_B x hwf A hA) lo hi _ i 0 A _ hA (PaB.nil _ _)
  have cnt : ∀ i, i < timesF lo hi → (repS A x lo hi i).1.sets.length + cntRe x ≤ 300 := fun i hi' => by
    have e1 := (bnd i (by omega)).2.2
    have e2 : (i + 1) * cntRe x ≤ timesF lo hi * cntRe x := Nat.mul_le_mul_right _ hi'
    rw [Nat.add_mul, Nat.one_mul] at e2
    omega
  generalize hNN : timesF lo hi = N at *
  obtain ⟨H, h0, hP, hR⟩ := fin_choice (fun i g => MkA g id (repS A x lo hi i).1) (fun i g g' => ∃ g1 g2, (Con Tryz.Y 32 [.p (some (id, 0)), .agg (encRe x)] g fun v h' => v = .agg (partC (partF boS x (repS A x lo hi i).1).2) ∧ h' = g1) ∧
      (hi < 0 ∧ i + 1 = N → Con Tryz.Y 119 [.p (some (id, 0)), lst encI (ints (partF boS x (repS A x lo hi i).1).2.last), lst encI (ints (partF boS x (repS A x lo hi i).1).2.first)] g1 fun v h' => v = .tup [] ∧ h' = g2) ∧ (¬ (hi < 0 ∧ i + 1 = N) → g2 = g1) ∧
      Con Tryz.Y 73 [.p (some (id, 0)), .agg (partC (repS A x lo hi i).2), .agg (partC ⟨(partF boS x (repS A x lo hi i).1).2.first, (partF boS x (repS A x lo hi i).1).2.last, (partF boS x (repS A x lo hi i).1).2.empty || decide (lo ≤ (i : Int))⟩)] g2 fun v h' => v = .agg (partC (repS A x lo hi (i + 1)).2) ∧ h' = g') h N (by
    show MkA h id (repS A x lo hi 0).1
    rw [repS, repP]; exact hM) (fun i hi' g hg => by
    obtain ⟨g1, c1, c2⟩ := ih (bnd i (by omega)).1 hg (cnt i hi')
    have hb := part_B x hwf _ (bnd i (by omega)).1
    have hcn := cnt i hi'
    have ho := (bnd i (by omega)).2.1.mono (show (repS A x lo hi i).1.sets.length ≤ (partF boS x (repS A x lo hi i).1).1.sets.length by omega)
    rw [stp i]
    unfold stepR
    generalize repS A x lo hi i = S at *
    generalize partF boS x S.1 = T at *
    by_cases hc : hi < 0 ∧ i + 1 = N
    · have m1 := linkH_ok hb.1 c2 hb.2.1.la hb.2.1.fi T.2.last.length (Nat.le_refl _)
      rw [List.take_length] at m1
      have a1 : AuB (loopP boS T.1 T.2) := hb.1.link hb.2.1.fi.2
      rw [if_pos hc]
      refine ⟨linkH (linkH g1 id T.1.fol T.2.last T.2.first T.2.last.length) id (loopP boS T.1 T.2).fol S.2.last T.2.first S.2.last.length, ⟨g1, linkH g1 id T.1.fol T.2.last T.2.first T.2.last.length, c1, fun _ => link_ex hs hcm hb.1 c2 (by omega) hb.2.1.la hb.2.1.fi, fun hn => absurd hc hn, ?_⟩, ?_⟩
      · exact cat_ex hs hcm a1 m1 (show T.1.sets.length ≤ 300 by omega) ho ⟨hb.2.1.fi, hb.2.1.la⟩
      · exact cat_ok a1 m1 ho ⟨hb.2.1.fi, hb.2.1.la⟩
    · rw [if_neg hc]
      refine ⟨linkH g1 id T.1.fol S.2.last T.2.first S.2.last.length, ⟨g1, g1, c1, fun h => absurd h hc, fun _ => rfl, ?_⟩, ?_⟩
      · exact cat_ex hs hcm hb.1 c2 (by omega) ho ⟨hb.2.1.fi, hb.2.1.la⟩
      · exact cat_ok hb.1 c2 ho ⟨hb.2.1.fi, hb.2.1.la⟩)
  refine ⟨H N, ?_, hP _ (Nat.le_refl _)⟩
  refine conz_of Tryz.Yok (fn := Tryz.f74) (by kernel_rfl) (by kernel_rfl) ?_
  rw [encRe_mk] at htc ⊢
  refine pre_tree Tryz.Yok 52 (fun K => f74_0 id k s.1 s.2.1 s.2.2.1 s.2.2.2 (row encRe [x]) 1 lo hi n h K) rfl (by kernel_rfl) ?_
  refine ⟨_, htc, rfl, loop3 [0, 2, 3, 4, 5, 6, 12, 13] [0, 2, 3, 4, 5, 6, 12, 13] rfl (by kernel_rfl) (fun m vs g => ∃ i : Nat, vs = [.p (some (id, 0)), .undef, reLb k s [x] lo hi n, noPart, .lb (partC (repS A x lo hi i).2), .i .i64 (N : Nat), .i .i64 (N : Nat), .i .i64 (i : Nat)] ∧ i ≤ N ∧ m = N - i ∧ g = H i) N mk_len ?_ ?_⟩
  · refine ⟨_, .cons _ _ _ _ (.refl _) (.cons _ _ _ _ (.refl _) (.cons _ _ _ _ (.refl _) (.cons _ _ _ _ (.refl _) (.cons _ _ _ _ (wk_part true) (WkE.refl _))))), 0, ?_, by omega, by omega, h0.symm⟩
    rw [repS, repP]; rfl
  rintro m vs g ⟨i, rfl, hi', rfl, rfl⟩
  refine all_tree Tryz.Yok (fun K => f74_1 id k s.1 s.2.1 s.2.2.1 s.2.2.2 (row encRe [x]) 1 lo hi n (N : Nat) (N : Nat) none (row encI (ints (repS A x lo hi i).2.first)) (ints (repS A x lo hi i).2.first).length none (row encI (ints (repS A x lo hi i).2.last)) (ints (repS A x lo hi i).2.last).length (repS A x lo hi i).2.empty (i : Nat) (H i) K) rfl ?_
  refine if_lt_nat (fun hlt => ?_) (fun hge => ?_)
  · obtain ⟨g1, g2, c1, c2, c3, c4⟩ := hR i hlt
    have hrow : takeX 9 (row encRe [x]) = some (encRe x) := by
      have := row_get (f := encRe) (k := 9) encRe_len (l := [x]) (i := 0) (by simp)
      rwa [Nat.zero_mul] at this
    obtain ⟨xk, xs, xl, xlo, xhi, xn⟩ := x
    rw [encRe_mk] at c1 hrow
    generalize partF boS (.mk xk xs xl xlo xhi xn) (repS A (.mk xk xs xl xlo xhi xn) lo hi i).1 = T at c1 c2 c3 c4
    refine ⟨⟨by omega, by omega⟩, _, _, _, _, _, _, _, _, _, _, _, hrow, c1.mono fun v g ⟨hv, hg⟩ => ?_⟩
    subst hv hg
    refine ⟨_, _, _, _, _, _, _, rfl, ?_⟩
    have hle : leI lo ((i : Nat) : Int) = decide (lo ≤ (i : Int)) := leI_dec _ _
    have last : ∀ (b : Bool), b = (T.2.empty || decide (lo ≤ (i : Int))) → Con Tryz.Y 73 [.p (some (id, 0)), .agg (partC (repS A (.mk xk xs xl xlo xhi xn) lo hi i).2), .agg [lst encI (ints T.2.first), lst encI (ints T.2.last), .b b]] g2 fun v h' => ∃ (cs : List V) (l : Nat) (c : Option Nat) (cs_2 : List V) (l_2 : Nat) (c_2 : Option Nat) (b' : Bool), v = .agg [.ts cs l c, .ts cs_2 l_2 c_2, .b b'] ∧
        RoundX Tryz.Y 52 [0, 2, 3, 4, 5, 6, 12, 13] [0, 2, 3, 4, 5, 6, 12, 13] (fun m vs g => ∃ i : Nat, vs = [.p (some (id, 0)), .undef, reLb k s [.mk xk xs xl xlo xhi xn] lo hi n, noPart, .lb (partC (repS A (.mk xk xs xl xlo xhi xn) lo hi i).2), .i .i64 (N : Nat), .i .i64 (N : Nat), .i .i64 (i : Nat)] ∧ i ≤ N ∧ m = N - i ∧ g = H i) (N - i) (loopId (post (flat (bodyOf Tryz.f74)))) ((post (flat (bodyOf Tryz.f74))).drop 1)
          (FinS Tryz.Y Tryz.f74 (AfterZ fun v h' => v = .agg (partC (repS A (.mk xk xs xl xlo xhi xn) lo hi N).2) ∧ h' = H N)) .normal 52 [.p (some (id, 0)), .undef, reLb k s [.mk xk xs xl xlo xhi xn] lo hi n, noPart, .lb [.ts cs l c, .ts cs_2 l_2 c_2, .b b'], .i .i64 (N : Nat), .i .i64 (N : Nat), .i .i64 (IntKind.i64.wrap (((i : Nat) : Int) + 1))] h' := fun b hb => by
      subst hb
      exact c4.mono fun v g ⟨hv, hg⟩ => ⟨_, _, _, _, _, _, _, hv, rfl, N - (i + 1), by omega, _, WkE.refl _, i + 1, by rw [wrap_succ (by omega)]; rfl, by omega, rfl, hg⟩
    have fork : ∀ g', g' = g2 → If T.2.empty (Con Tryz.Y 73 [.p (some (id, 0)), .agg (partC (repS A (.mk xk xs xl xlo xhi xn) lo hi i).2), .agg [lst encI (ints T.2.first), lst encI (ints T.2.last), .b true]] g' fun v h' => ∃ (cs : List V) (l : Nat) (c : Option Nat) (cs_2 : List V) (l_2 : Nat) (c_2 : Option Nat) (b' : Bool), v = .agg [.ts cs l c, .ts cs_2 l_2 c_2, .b b'] ∧
        RoundX Tryz.Y 52 [0, 2, 3, 4, 5, 6, 12, 13] [0, 2, 3, 4, 5, 6, 12, 13] (fun m vs g => ∃ i : Nat, vs = [.p (some (id, 0)), .undef, reLb k s [.mk xk xs xl xlo xhi xn] lo hi n, noPart, .lb (partC (repS A (.mk xk xs xl xlo xhi xn) lo hi i).2), .i .i64 (N : Nat), .i .i64 (N : Nat), .i .i64 (i : Nat)] ∧ i ≤ N ∧ m = N - i ∧ g = H i) (N - i) (loopId (post (flat (bodyOf Tryz.f74)))) ((post (flat (bodyOf Tryz.f74))).drop 1)
          (FinS Tryz.Y Tryz.f74 (AfterZ fun v h' => v = .agg (partC (repS A (.mk xk xs xl xlo xhi xn) lo hi N).2) ∧ h' = H N)) .normal 52 [.p (some (id, 0)), .undef, reLb k s [.mk xk xs xl xlo xhi xn] lo hi n, noPart, .lb [.ts cs l c, .ts cs_2 l_2 c_2, .b b'], .i .i64 (N : Nat), .i .i64 (N : Nat), .i .i64 (IntKind.i64.wrap (((i : Nat) : Int) + 1))] h')
        (Con Tryz.Y 73 [.p (some (id, 0)), .agg (partC (repS A (.mk xk xs xl xlo xhi xn) lo hi i).2), .agg [lst encI (ints T.2.first), lst encI (ints T.2.last), .b (leI lo ((i : Nat) : Int))]] g' fun v h' => ∃ (cs : List V) (l : Nat) (c : Option Nat) (cs_2 : List V) (l_2 : Nat) (c_2 : Option Nat) (b' : Bool), v = .agg [.ts cs l c, .ts cs_2 l_2 c_2, .b b'] ∧
        RoundX Tryz.Y 52 [0, 2, 3, 4, 5, 6, 12, 13] [0, 2, 3, 4, 5, 6, 12, 13] (fun m vs g => ∃ i : Nat, vs = [.p (some (id, 0)), .undef, reLb k s [.mk xk xs xl xlo xhi xn] lo hi n, noPart, .lb (partC (repS A (.mk xk xs xl xlo xhi xn) lo hi i).2), .i .i64 (N : Nat), .i .i64 (N : Nat), .i .i64 (i : Nat)] ∧ i ≤ N ∧ m = N - i ∧ g = H i) (N - i) (loopId (post (flat (bodyOf Tryz.f74)))) ((post (flat (bodyOf Tryz.f74))).drop 1)
          (FinS Tryz.Y Tryz.f74 (AfterZ fun v h' => v = .agg (partC (repS A (.mk xk xs xl xlo xhi xn) lo hi N).2) ∧ h' = H N)) .normal 52 [.p (some (id, 0)), .undef, reLb k s [.mk xk xs xl xlo xhi xn] lo hi n, noPart, .lb [.ts cs l c, .ts cs_2 l_2 c_2, .b b'], .i .i64 (N : Nat), .i .i64 (N : Nat), .i .i64 (IntKind.i64.wrap (((i : Nat) : Int) + 1))] h') := by
      rintro g' rfl
      exact if_mk (fun he => last true (by rw [he]; rfl)) (fun he => last _ (by rw [he, hle]; rfl))
    refine if_lt (fun hneg => if_mk (fun hl => ?_) (fun hl => ?_)) (fun hpos => ?_)
    · have hl : ((i : Nat) : Int) = (N : Int) - 1 := by
        have hl := hl
        rw [wrap_ok (by omega) (by omega)] at hl
        simpa using hl
      exact (c2 ⟨hneg, by omega⟩).mono fun v g ⟨hv, hg⟩ => ⟨hv, fork g hg⟩
    · have hl : ((i : Nat) : Int) ≠ (N : Int) - 1 := by
        have hl := hl
        rw [wrap_ok (by omega) (by omega)] at hl
        simpa using hl
      exact fork _ (c3 (fun hh => hl (by omega))).symm
    · exact fork _ (c3 (fun hh => by omega)).symm
  · have he : i = N := by omega
    subst he
    refine roundX_exit [4, 5] (by kernel_rfl) rfl rfl ?_
    refine end_tree Tryz.Yok (fun K => f74_2 none (row encI (ints (repS A x lo hi i).2.first)) (ints (repS A x lo hi i).2.first).length none (row encI (ints (repS A x lo hi i).2.last)) (ints (repS A x lo hi i).2.last).length false (repS A x lo hi i).2.empty (H i) K) rfl ?_
    exact finC (.inr rfl) rfl (.now ⟨rfl, rfl⟩)
end Go.Y

/- nfa.part, by its contract. -/
namespace Go.Y
open Go.Proofs Go.Sort
set_option maxRecDepth 100000
set_option maxHeartbeats 2000000

theorem part_rep (hs : SortSays Tryz.Y.P 75) (hcm : CompactSays Tryz.Y.P 76) {B : Nat} {s : S4} {x : Re} {lo hi n : Int} (h1 : 0 ≤ lo) (h2 : lo ≤ 8) (h3 : hi ≤ 8) (hwf : wfRe B x) (ih : PartX x) : PartX (.mk 6 s [x] lo hi n) := by
  intro h id A hA hM hn
  rw [cntRe, if_neg (by decide), if_pos rfl, cntRe.cnts, cntRe.cnts, Nat.add_zero] at hn
  have hpf : partF boS (.mk 6 s [x] lo hi n) A = repS A x lo hi (timesF lo hi) := by rw [partF]; rfl
  rw [hpf]
  obtain ⟨g, hc, hm⟩ := repeat_ex hs hcm (k := 6) (s := s) (n := n) h1 h2 h3 hwf ih hA hM hn
  refine ⟨g, ?_, hm⟩
  refine conz_of Tryz.Yok (fn := Tryz.f32) (by kernel_rfl) (by kernel_rfl) ?_
  rw [encRe_mk] at hc ⊢
  refine pre_tree Tryz.Yok 105 (fun K => f32_0 id 6 s.1 s.2.1 s.2.2.1 s.2.2.2 (row encRe [x]) 1 lo hi n h K) rfl (by kernel_rfl) ?_
  refine ⟨rfl, block2 (n := 105) [4, 5] (by kernel_rfl) ?_⟩
  refine pre_tree Tryz.Yok 105 (fun K => f32_1 id 6 s.1 s.2.1 s.2.2.1 s.2.2.2 (row encRe [x]) 1 lo hi n h K) rfl (by kernel_rfl) ?_
  refine ⟨rfl, cond_rule (b := false) (by kernel_rfl) (by kernel_rfl) ?_⟩
  refine pre_tree Tryz.Yok 105 (fun K => f32_3 id 6 s.1 s.2.1 s.2.2.1 s.2.2.2 (row encRe [x]) 1 lo hi n h K) rfl (by kernel_rfl) ?_
  refine ⟨rfl, cond_rule (b := false) (by kernel_rfl) (by kernel_rfl) ?_⟩
  refine pre_tree Tryz.Yok 105 (fun K => f32_6 id 6 s.1 s.2.1 s.2.2.1 s.2.2.2 (row encRe [x]) 1 lo hi n h K) rfl (by kernel_rfl) ?_
  refine ifF rfl ⟨rfl, cond_rule (b := false) (by kernel_rfl) (by kernel_rfl) ?_⟩
  refine all_tree Tryz.Yok (fun K => f32_9 id 6 s.1 s.2.1 s.2.2.1 s.2.2.2 (row encRe [x]) 1 lo hi n h K) rfl ?_
  refine ifT rfl (hc.mono fun v g ⟨hv, hg⟩ => ?_)
  subst hv hg
  exact ⟨_, _, _, _, _, _, _, rfl, fin_at (.inr rfl) rfl (AfterZ.now ⟨rfl, rfl⟩)⟩

theorem part_other {k : Int} {s : S4} {lo hi n : Int} (k1 : k ≠ 1) (k4 : k ≠ 4) (k5 : k ≠ 5) (k6 : k ≠ 6) (k7 : k ≠ 7) : PartX (.mk k s [] lo hi n) := by
  intro h id A hA hM hn
  have hpf : partF boS (.mk k s [] lo hi n) A = (A, ⟨[], [], true⟩) := by
    rw [partF]; dsimp only; rw [if_neg k1, if_neg k5, if_neg (fun e => e.elim k4 k7), if_neg k6]
  rw [hpf]
  refine ⟨h, ?_, hM⟩
  have e1 : (k == 1) = false := by simpa using k1
  have e4 : (k == 4) = false := by simpa using k4
  have e5 : (k == 5) = false := by simpa using k5
  have e6 : (k == 6) = false := by simpa using k6
  have e7 : (k == 7) = false := by simpa using k7
  refine conz_of Tryz.Yok (fn := Tryz.f32) (by kernel_rfl) (by kernel_rfl) ?_
  rw [encRe_mk]
  refine pre_tree Tryz.Yok 105 (fun K => f32_0 id k s.1 s.2.1 s.2.2.1 s.2.2.2 (row encRe []) 0 lo hi n h K) rfl (by kernel_rfl) ?_
  refine ⟨rfl, block2 (n := 105) [4, 5] (by kernel_rfl) ?_⟩
  refine pre_tree Tryz.Yok 105 (fun K => f32_1 id k s.1 s.2.1 s.2.2.1 s.2.2.2 (row encRe []) 0 lo hi n h K) rfl (by kernel_rfl) ?_
  rw [e1]
  refine ⟨rfl, cond_rule (b := false) (by kernel_rfl) (by kernel_rfl) ?_⟩
  refine pre_tree Tryz.Yok 105 (fun K => f32_3 id k s.1 s.2.1 s.2.2.1 s.2.2.2 (row encRe []) 0 lo hi n h K) rfl (by kernel_rfl) ?_
  rw [e5]
  refine ⟨rfl, cond_rule (b := false) (by kernel_rfl) (by kernel_rfl) ?_⟩
  refine pre_tree Tryz.Yok 105 (fun K => f32_6 id k s.1 s.2.1 s.2.2.1 s.2.2.2 (row encRe []) 0 lo hi n h K) rfl (by kernel_rfl) ?_
  refine ifF e4 ?_
  rw [e7]
  refine ⟨rfl, cond_rule (b := false) (by kernel_rfl) (by kernel_rfl) ?_⟩
  refine all_tree Tryz.Yok (fun K => f32_9 id k s.1 s.2.1 s.2.2.1 s.2.2.2 (row encRe []) 0 lo hi n h K) rfl ?_
  refine ifF e6 ⟨rfl, [4, 5], rfl, view_wk [4, 5] (vs := [noPart, onePart]) [noPart, .lb (partC ⟨[], [], true⟩)] (by kernel_rfl) mk_len rfl (.cons _ _ _ _ (.refl _) (.cons _ _ _ _ (wk_part true) .nil)) ?_⟩
  refine end_tree Tryz.Yok (fun K => f32_10 false (row encI (ints [])) (ints []).length (row encI (ints [])) (ints []).length true h K) rfl ?_
  exact finC (.inr rfl) rfl (.now ⟨rfl, rfl⟩)

structure PX (r : Re) : Prop where
  p : PartX r
mutual
theorem partPX (hs : SortSays Tryz.Y.P 75) (hcm : CompactSays Tryz.Y.P 76) {B : Nat} (hB : B < 2 ^ 20) : ∀ r : Re, wfRe B r → PX r
  | .mk k s kids lo hi n, h => by
    rw [wfRe] at h
    obtain ⟨h1, h2, h3, h4⟩ := h
    have ih := partsPX hs hcm hB kids h4
    have ih : ∀ x ∈ kids, PartX x := fun x hx => (ih x hx).p
    refine ⟨?_⟩
    by_cases k4 : k = 4
    · subst k4; exact part_cat4 hs hcm hB h4 h3 ih
    by_cases k5 : k = 5
    · subst k5; exact part_alt hs hcm hB h4 h3 ih
    by_cases k7 : k = 7
    · subst k7; exact part_cat7 hs hcm hB h4 h3 ih
    by_cases k6 : k = 6
    · subst k6
      obtain ⟨g1, g2, g3, g4⟩ := h1 rfl
      obtain ⟨x, rfl⟩ := List.length_eq_one_iff.1 g4
      exact part_rep hs hcm g1 g2 (by omega) (wfs_mem h4 x (by simp)) (ih x (by simp))
    have hk := h2 k4 k5 k6 k7
    subst hk
    by_cases k1 : k = 1
    · subst k1; exact part_set
    · exact part_other k1 k4 k5 k6 k7
theorem partsPX (hs : SortSays Tryz.Y.P 75) (hcm : CompactSays Tryz.Y.P 76) {B : Nat} (hB : B < 2 ^ 20) : ∀ l : List Re, wfRe.wfRes B l → ∀ x ∈ l, PX x
  | [], _, x, hx => by cases hx
  | r :: l, h, x, hx => by
    rw [wfRe.wfRes] at h
    have h1 := partPX hs hcm hB r h.1
    have h2 := partsPX hs hcm hB l h.2
    rcases List.mem_cons.1 hx with e | hx
    · rw [e]; exact h1
    · exact h2 x hx
end
theorem partX (hs : SortSays Tryz.Y.P 75) (hcm : CompactSays Tryz.Y.P 76) {B : Nat} (hB : B < 2 ^ 20) {r : Re} (h : wfRe B r) : PartX r := (partPX hs hcm hB r h).p
end Go.Y

/- What the pieces of functions come to: printed by program. -/
namespace Go.Y
open Go.Proofs
set_option maxRecDepth 100000
set_option maxHeartbeats 0
theorem f10_0 (k : Int) (s0 : Int) (s1 : Int) (s2 : Int) (s3 : Int) (kc : List V) (kn : Nat) (lo : Int) (hi : Int) (gn : Int) (h : Heap) (K : KT) : (codeP Tryz.Y (Tryz.Y.loc 10) 100 ((flat (bodyOf Tryz.f10))) ⟨(V.agg [V.i .i64 k, V.i .u64 s0, V.i .u64 s1, V.i .u64 s2, V.i .u64 s3, V.ts kc kn none, V.i .i64 lo, V.i .i64 hi, V.i .i64 gn] :: List.replicate 46 .undef), [], h⟩ (VQ [2, 3] K)) =
  (∃ (b : Bool),
  (PCon Tryz.Y (29 : Nat)
 [V.agg
 [V.i IntKind.i64 k, V.i IntKind.u64 s0, V.i IntKind.u64 s1, V.i IntKind.u64 s2, V.i IntKind.u64 s3,
 V.ts kc kn none, V.i IntKind.i64 lo, V.i IntKind.i64 hi, V.i IntKind.i64 gn]]
 fun (v : V) => v = V.b b) ∧
 If (!b)
 (K Out.ret 47
 [V.lb
 [V.sl none 0 (some 0) 0, V.sl none 0 (some 0) 0,
 V.sl none 0 (some 0) 0,
 V.sl none 0 (some 0) 0, V.b false],
 V.i IntKind.i64 (5 : Int)]
 h)
 (∃ (b : Bool),
 (PCon Tryz.Y (30 : Nat)
 [V.agg
 [V.i IntKind.i64 k, V.i IntKind.u64 s0, V.i IntKind.u64 s1, V.i IntKind.u64 s2, V.i IntKind.u64 s3,
 V.ts kc kn none, V.i IntKind.i64 lo, V.i IntKind.i64 hi, V.i IntKind.i64 gn]]
 fun (v : V) => v = V.b b) ∧
 If b
 (K Out.ret 47
 [V.lb
 [V.sl none 0 (some 0) 0,
 V.sl none 0 (some 0) 0,
 V.sl none 0 (some 0) 0,
 V.sl none 0 (some 0) 0, V.b false],
 V.i IntKind.i64 (5 : Int)]
 h)
 (∃ (n : Int),
 (PCon Tryz.Y (31 : Nat)
 [V.agg
 [V.i IntKind.i64 k, V.i IntKind.u64 s0, V.i IntKind.u64 s1, V.i IntKind.u64 s2,
 V.i IntKind.u64 s3, V.ts kc kn none, V.i IntKind.i64 lo, V.i IntKind.i64 hi,
 V.i IntKind.i64 gn]]
 fun (v : V) => v = V.i IntKind.i64 n) ∧
 If (ltI (300 : Int) n)
 (K Out.ret 47
 [V.lb
 [V.sl none 0 (some 0) 0,
 V.sl none 0 (some 0) 0,
 V.sl none 0 (some 0) 0,
 V.sl none 0 (some 0) 0, V.b false],
 V.i IntKind.i64 (2 : Int)]
 h)
 (Con Tryz.Y (32 : Nat)
 [V.p (some (h.nx, 0)),
 V.agg
 [V.i IntKind.i64 k, V.i IntKind.u64 s0, V.i IntKind.u64 s1, V.i IntKind.u64 s2,
 V.i IntKind.u64 s3, V.ts kc kn none, V.i IntKind.i64 lo, V.i IntKind.i64 hi,
 V.i IntKind.i64 gn]]
 (h.push
 (YObj.arr
 [V.sl none 0 (some 0) 0,
 V.sl none 0 (some 0) 0,
 V.sl none 0 (some 0) 0,
 V.sl none 0 (some 0) 0, V.b false]
 true))
 fun (v : V) (h' : Heap) =>
 ∃ (cs : List V),
 ∃ (l : Nat),
 ∃ (c : Option Nat),
 ∃ (cs_1 : List V),
 ∃ (l_1 : Nat),
 ∃ (c_1 : Option Nat),
 ∃ (b : Bool),
 v = V.agg [V.ts cs l c, V.ts cs_1 l_1 c_1, V.b b] ∧
 ∃ (cs_2 : List V),
 ∃ (l_2 : Nat),
 ∃ (c_2 : Option Nat),
 (PCon Tryz.Y (33 : Nat) [V.ts cs l c] fun (v : V) => v = V.ts cs_2 l_2 c_2) ∧
 ∃ (cs : List V),
 ∃ (l : Nat),
 ∃ (c : Option Nat),
 (PCon Tryz.Y (33 : Nat) [V.ts cs_1 l_1 c_1] fun (v : V) =>
 v = V.ts cs l c) ∧
 ∃ (h_1 : Heap),
 hstore h' h.nx 1 [V.ts cs_2 l_2 c_2] = some h_1 ∧
 ∃ (h_2 : Heap),
 hstore h_1 h.nx 2 [V.ts cs l c] = some h_2 ∧
 ∃ (h_3 : Heap),
 hstore h_2 h.nx 4 [V.b b] = some h_3 ∧
 ∃ (cs : List V),
 ∃ (l : Nat),
 ∃ (c : Option Nat),
 ∃ (cs_3 : List V),
 ∃ (l_3 : Nat),
 ∃ (c_3 : Option Nat),
 ∃ (cs_4 : List V),
 ∃ (l_4 : Nat),
 ∃ (c_4 : Option Nat),
 ∃ (cs_5 : List V),
 ∃ (l_5 : Nat),
 ∃ (c_5 : Option Nat),
 ∃ (b : Bool),
 hcells h_3 h.nx 0
 5 =
 some
 [V.ts cs l c,
 V.ts cs_3 l_3 c_3,
 V.ts cs_4 l_4 c_4,
 V.ts cs_5 l_5 c_5,
 V.b b] ∧
 K Out.ret 47
 [V.lb
 [V.ts cs l c,
 V.ts cs_3 l_3 c_3,
 V.ts cs_4 l_4 c_4,
 V.ts cs_5 l_5 c_5,
 V.b b],
 V.i IntKind.i64
 (0 : Int)]
 h_3)))) := by kernel_rfl
end Go.Y
