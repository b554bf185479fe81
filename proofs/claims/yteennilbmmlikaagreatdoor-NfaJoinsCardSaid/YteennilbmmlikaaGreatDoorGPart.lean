/- nfa.part: one set, by its contract. -/
import Derived.Test.YteennilbmmlikaaGreatDoorGMk
import Derived.Test.YteennilbmmlikaaGreatDoorGJudge
import Derived.Test.YteennilbmmlikaaGreatDoorNTd
namespace Go.Y
open Go.Proofs Go.Sort
set_option maxRecDepth 100000
set_option maxHeartbeats 2000000

def PartX (r : Re) : Prop := ∀ {h : Heap} {id : Nat} {A : Au0}, AuB A → MkA h id A → A.sets.length + cntRe r ≤ 300 →
  ∃ h1, (Con Tryz.Y 32 [.p (some (id, 0)), .agg (encRe r)] h fun v h' => v = .agg (partC (partF boS r A).2) ∧ h' = h1) ∧ MkA h1 id (partF boS r A).1

abbrev noPart : V := .lb [.sl none 0 (some 0) 0, .sl none 0 (some 0) 0, .b false]
abbrev onePart : V := .lb [.sl none 0 (some 0) 0, .sl none 0 (some 0) 0, .b true]
abbrev reLb (k : Int) (s : S4) (kids : List Re) (lo hi n : Int) : V := .lb [.i .i64 k, .i .u64 s.1, .i .u64 s.2.1, .i .u64 s.2.2.1, .i .u64 s.2.2.2, lst encRe kids, .i .i64 lo, .i .i64 hi, .i .i64 n]

theorem mapV_row (fol : List (List Nat)) : row (fun v : V => [v]) (fol.map fun l => lst encI (ints l)) = row encLN fol := by
  induction fol with
  | nil => rfl
  | cons l fol ih =>
    have h1 : row encLN (l :: fol) = encLN l ++ row encLN fol := rfl
    have h2 : row (fun v : V => [v]) ((l :: fol).map fun l => lst encI (ints l)) = [lst encI (ints l)] ++ row (fun v : V => [v]) (fol.map fun l => lst encI (ints l)) := rfl
    rw [h1, h2, ih]
theorem LX.mapV {h : Heap} {a : Option (Nat × Nat)} {l : Nat} {c : Option Nat} {kk : Nat} {fol : List (List Nat)} (hl : LX encLN 1 h a l c kk fol) : LX (fun v : V => [v]) 1 h a l c kk (fol.map fun l => lst encI (ints l)) :=
  ⟨fun e => hl.nil (by simpa using e), fun e => by
    obtain ⟨j, h1, h2, h3, h4, h5⟩ := hl.cells (fun e' => e (by rw [e']; rfl))
    exact ⟨j, h1, h2, h3, by rw [mapV_row]; exact h4, h5⟩, by rw [hl.len]; simp⟩
theorem part_set {s : S4} {lo hi n : Int} : PartX (.mk 1 s [] lo hi n) := by
  intro h id A hA hM hn
  rw [cntRe, if_pos rfl] at hn
  have hpf : partF boS (.mk 1 s [] lo hi n) A = (⟨A.sets ++ [s], A.fol ++ [[]]⟩, ⟨[A.sets.length], [A.sets.length], false⟩) := by rw [partF]; rfl
  rw [hpf]
  obtain ⟨hl0, a1, l1, c1, k1, a2, l2, c2, k2, hg, hL1, hL2, hn1, hn2, hn3⟩ := hM
  have hlen1 := hL1.len
  have hlen2 := hL2.len
  have hwf := hA.wf
  obtain ⟨b1, m1, d1, e1, g1, q1, q2, q3, r1, q4, q5⟩ := LX.app (Y := Tryz.Y) (st := 31) (e := 25) (te := ⟨4, 32, .arr 4 23, [.i .u64 0, .i .u64 0, .i .u64 0, .i .u64 0]⟩) s rfl setC_len (by kernel_rfl) (by kernel_rfl) rfl (by decide) rfl (by decide) hL1 (by omega)
  subst q4
  have hg1 : g1.get id = some (.arr [.sl a1 l1 c1 k1, .sl none 0 (some 0) 0, .sl none 0 (some 0) 0, .sl a2 l2 c2 k2, .b false] true) := by rw [q3.2 id hl0 fun o ho => hn1 _ _ ho rfl]; exact hg
  obtain ⟨g2, hg2d⟩ : ∃ g2, g2 = g1.set id (some (.arr [.sl (some (r1, 0)) m1 d1 e1, .sl none 0 (some 0) 0, .sl none 0 (some 0) 0, .sl a2 l2 c2 k2, .b false] true)) := ⟨_, rfl⟩
  have hst1 : hstore g1 id 0 [.sl (some (r1, 0)) m1 d1 e1] = some g2 := by rw [hg2d]; simp [hstore, hg1, splice]
  have hg2 : g2.get id = some (.arr [.sl (some (r1, 0)) m1 d1 e1, .sl none 0 (some 0) 0, .sl none 0 (some 0) 0, .sl a2 l2 c2 k2, .b false] true) := by rw [hg2d, Heap.get_set, if_pos rfl]
  have hr1 : r1 ≠ id := by omega
  have hL1' : LX setC 4 g2 (some (r1, 0)) m1 d1 e1 (A.sets ++ [s]) := q2.fr (by rw [hg2d]; simp) fun j hj hlt => by
    cases hj; rw [hg2d, Heap.get_set, if_neg hr1]
  have hL2' : LX encLN 1 g2 a2 l2 c2 k2 A.fol := hL2.fr (by rw [hg2d]; simp; exact q3.1) fun j hj hlt => by
    rw [hg2d, Heap.get_set, if_neg (hn2 j 0 hj), q3.2 j hlt fun o ho => hn3 j o 0 ho hj]
  obtain ⟨b3, m3, d3, e3, g3, u1, u2, u3, r3, u4, u5⟩ := LX.app (f := fun v : V => [v]) (k := 1) (new := [.sl none 0 (some 0) 0]) (out := A.fol.map fun l => lst encI (ints l)) (Y := Tryz.Y) (st := 33) (e := 32) (te := ⟨1, 24, .slice 3, [.sl none 0 (some 0) 0]⟩) (.sl none 0 (some 0) 0 : V) rfl (fun _ => rfl) (by kernel_rfl) (by kernel_rfl) rfl (by decide) rfl (by decide) hL2'.mapV (by simp; omega)
  subst u4
  have hidg2 : id < g2.nx := by rw [hg2d]; simp; have := q3.1; omega
  have hg3 : g3.get id = some (.arr [.sl (some (r1, 0)) m1 d1 e1, .sl none 0 (some 0) 0, .sl none 0 (some 0) 0, .sl a2 l2 c2 k2, .b false] true) := by rw [u3.2 id hidg2 fun o ho => hn2 _ _ ho rfl]; exact hg2
  obtain ⟨g4, hg4d⟩ : ∃ g4, g4 = g3.set id (some (.arr [.sl (some (r1, 0)) m1 d1 e1, .sl none 0 (some 0) 0, .sl none 0 (some 0) 0, .sl (some (r3, 0)) m3 d3 e3, .b false] true)) := ⟨_, rfl⟩
  have hst2 : hstore g3 id 3 [.sl (some (r3, 0)) m3 d3 e3] = some g4 := by rw [hg4d]; simp [hstore, hg3, splice]
  have hg4 : g4.get id = some (.arr [.sl (some (r1, 0)) m1 d1 e1, .sl none 0 (some 0) 0, .sl none 0 (some 0) 0, .sl (some (r3, 0)) m3 d3 e3, .b false] true) := by rw [hg4d, Heap.get_set, if_pos rfl]
  have hr3 : r3 ≠ id := by omega
  obtain ⟨j3, v1, v2, v3, v4, v5⟩ := u2.cells (by simp)
  cases v1
  subst v2
  have hr13 : r1 < g2.nx := by
    obtain ⟨j, w1, w2, w3, w4, w5⟩ := hL1'.cells (by simp)
    cases w1; exact w3
  have hne13 : r1 ≠ r3 := by omega
  have ha2 : ∀ o, a2 ≠ some (r1, o) := fun o ho => by
    by_cases he : A.fol = []
    · rw [hL2.nil he] at ho; cases ho
    · obtain ⟨j, w1, w2, w3, w4, w5⟩ := hL2.cells he
      rw [w1] at ho; cases ho; omega
  have hg4r : g4.get r3 = some (.arr (row encLN A.fol ++ [.sl none 0 (some 0) 0]) true) := by
    rw [hg4d, Heap.get_set, if_neg hr3, v4, row_append, mapV_row]; rfl
  have hrow : row encLN (A.fol ++ [[]]) = row encLN A.fol ++ [.ts [] 0 none] := by rw [row_append]; rfl
  refine ⟨g4.set r3 (some (.arr (row encLN (A.fol ++ [[]])) true)), ?_, ?_⟩
  · refine Con.weakH (conz_of Tryz.Yok (fn := Tryz.f32) (by kernel_rfl) (by kernel_rfl) ?_)
    rw [encRe_mk]
    refine pre_tree Tryz.Yok 105 (fun K => f32_0 id 1 s.1 s.2.1 s.2.2.1 s.2.2.2 (row encRe []) 0 lo hi n h K) rfl (by kernel_rfl) ?_
    refine ⟨rfl, block2 (n := 105) [4, 5] (by kernel_rfl) ?_⟩
    refine pre_tree Tryz.Yok 105 (fun K => f32_1 id 1 s.1 s.2.1 s.2.2.1 s.2.2.2 (row encRe []) 0 lo hi n h K) rfl (by kernel_rfl) ?_
    refine ⟨rfl, cond_rule (b := true) (by kernel_rfl) (by kernel_rfl) ?_⟩
    refine all_tree Tryz.Yok (fun K => f32_2 id 1 s.1 s.2.1 s.2.2.1 s.2.2.2 (row encRe []) 0 lo hi n h K) rfl ?_
    refine ⟨_, _, _, _, (hcells_of hg 0 1).trans rfl, _, _, _, _, (hcells_of hg 0 1).trans rfl, _, _, _, _, _, q1, _, hst1, _, _, _, _, (hcells_of hg2 3 1).trans rfl, _, _, _, _, _, u1, _, hst2, ?_⟩
    refine fin_at (.inr rfl) rfl ?_
    refine ⟨[], .agg (partC ⟨[A.sets.length], [A.sets.length], false⟩), .inl (.agg _ _ (.cons _ _ _ _ (.frz _ _ ?_) (.cons _ _ _ _ (.frz _ _ ?_) (.cons _ _ _ _ (.same _) .nil)))), .inr ⟨r3, _, _, hg4r, ?_, rfl, rfl⟩⟩
    · rw [hlen1]; exact .ts _ _ _ none (fun x hx => by cases hx)
    · rw [hlen1]; exact .ts _ _ _ none (fun x hx => by cases hx)
    · rw [hrow]; exact (WkL.refl _).append (.cons _ _ _ _ (.inr (.inl ⟨_, _, _, rfl, rfl, fun x hx => by cases hx⟩)) .nil)
  · refine ⟨by simp [hg4d]; have := u3.1; omega, some (r1, 0), m1, d1, e1, some (r3, 0), m3, d3, 1, by rw [Heap.get_set, if_neg (Ne.symm hr3)]; exact hg4, ?_, ?_, fun j o hj => by cases hj; exact hr1, fun j o hj => by cases hj; exact hr3, fun j o o' hj hj' => by cases hj; cases hj'; exact hne13 rfl⟩
    · exact hL1'.fr (by simp [hg4d]; exact u3.1) fun j hj hlt => by
        cases hj
        rw [Heap.get_set, if_neg hne13, hg4d, Heap.get_set, if_neg hr1, u3.2 r1 hlt fun o ho => by
          exact ha2 o ho]
    · exact ⟨fun e => by simp at e, fun _ => ⟨r3, rfl, rfl, by simp [hg4d]; exact v3, by rw [Heap.get_set, if_pos rfl], v5⟩, by have := u2.len; simp at this ⊢; omega⟩
end Go.Y

/- nfa.part: alternatives, rows, groups, by contracts. -/
namespace Go.Y
open Go.Proofs Go.Sort
set_option maxRecDepth 100000
set_option maxHeartbeats 2000000

theorem re_row {kids : List Re} {i : Nat} (hi : i < kids.length) : takeX 9 (List.drop (((i : Nat) : Int).toNat * 9) (row encRe kids)) = some (encRe kids[i]) := by
  rw [Int.toNat_natCast]; exact row_get (f := encRe) (k := 9) encRe_len hi

theorem wk_part (b : Bool) : Wk (.lb [.sl none 0 (some 0) 0, .sl none 0 (some 0) 0, .b b]) (.lb (partC ⟨[], [], b⟩)) :=
  .inr ⟨_, _, rfl, rfl, .cons _ _ _ _ (.inr (.inl ⟨_, _, _, rfl, rfl, fun x hx => by cases hx⟩)) (.cons _ _ _ _ (.inr (.inl ⟨_, _, _, rfl, rfl, fun x hx => by cases hx⟩)) (.cons _ _ _ _ (.refl _) .nil))⟩

abbrev altS (A : Au0) (kids : List Re) (i : Nat) : Au0 × Part := partF.altF boS (kids.take i) A ⟨[], [], false⟩
abbrev catS (A : Au0) (kids : List Re) (i : Nat) : Au0 × Part := partF.catF boS (kids.take i) A ⟨[], [], true⟩

theorem part_alt (hs : SortSays Tryz.Y.P 75) (hcm : CompactSays Tryz.Y.P 76) {B : Nat} (hB : B < 2 ^ 20) {s : S4} {kids : List Re} {lo hi n : Int} (hwf : wfRe.wfRes B kids) (hkl : kids.length ≤ B) (ih : ∀ x ∈ kids, PartX x) : PartX (.mk 5 s kids lo hi n) := by
  intro h id A hA hM hn
  rw [cntRe, if_neg (by decide), if_neg (by decide)] at hn
  have hpf : partF boS (.mk 5 s kids lo hi n) A = altS A kids kids.length := by rw [partF, altS, List.take_length]; rfl
  rw [hpf]
  have bnd : ∀ i, AuB (altS A kids i).1 ∧ PaB (altS A kids i).1.sets.length (altS A kids i).2 ∧ (altS A kids i).1.sets.length ≤ 300 := fun i => by
    obtain ⟨b1, b2, b3⟩ := alt_B (kids.take i) (wfs_take hwf i) A hA ⟨[], [], false⟩ (PaB.nil _ _)
    have b3 : (altS A kids i).1.sets.length = A.sets.length + cntRe.cnts (kids.take i) := b3
    exact ⟨b1, b2, by have := cnts_take kids i; omega⟩
  have stp : ∀ {i} (hi : i < kids.length), altS A kids (i + 1) = ((partF boS kids[i] (altS A kids i).1).1, ⟨boS (altS A kids i).2.first (partF boS kids[i] (altS A kids i).1).2.first, boS (altS A kids i).2.last (partF boS kids[i] (altS A kids i).1).2.last, (altS A kids i).2.empty || (partF boS kids[i] (altS A kids i).1).2.empty⟩) := fun {i} hi => by
    show partF.altF boS (kids.take (i + 1)) A ⟨[], [], false⟩ = _
    rw [List.take_succ_eq_append_getElem hi, altF_snoc]
  have cnt : ∀ {i} (hi : i < kids.length), (altS A kids i).1.sets.length + cntRe kids[i] ≤ 300 := fun {i} hi => by
    have h1 : (altS A kids i).1.sets.length = A.sets.length + cntRe.cnts (kids.take i) := (alt_B (kids.take i) (wfs_take hwf i) A hA ⟨[], [], false⟩ (PaB.nil _ _)).2.2
    have h2 := cnts_take kids (i + 1)
    rw [List.take_succ_eq_append_getElem hi, cnts_snoc] at h2
    omega
  obtain ⟨H, h0, hP, hR⟩ := fin_choice (fun i g => MkA g id (altS A kids i).1) (fun i g g' => ∀ hi : i < kids.length, Con Tryz.Y 32 [.p (some (id, 0)), .agg (encRe kids[i])] g fun v h' => v = .agg (partC (partF boS kids[i] (altS A kids i).1).2) ∧ h' = g') h kids.length (by
    show MkA h id (altS A kids 0).1
    rw [altS, List.take_zero, partF.altF]; exact hM) (fun i hi g hg => by
    obtain ⟨g', c1, c2⟩ := ih kids[i] (List.getElem_mem hi) (bnd i).1 hg (cnt hi)
    exact ⟨g', fun _ => c1, by show MkA g' id (altS A kids (i + 1)).1; rw [stp hi]; exact c2⟩)
  refine ⟨H kids.length, ?_, hP _ (Nat.le_refl _)⟩
  refine conz_of Tryz.Yok (fn := Tryz.f32) (by kernel_rfl) (by kernel_rfl) ?_
  rw [encRe_mk]
  refine pre_tree Tryz.Yok 105 (fun K => f32_0 id 5 s.1 s.2.1 s.2.2.1 s.2.2.2 (row encRe kids) kids.length lo hi n h K) rfl (by kernel_rfl) ?_
  refine ⟨rfl, block2 (n := 105) [4, 5] (by kernel_rfl) ?_⟩
  refine pre_tree Tryz.Yok 105 (fun K => f32_1 id 5 s.1 s.2.1 s.2.2.1 s.2.2.2 (row encRe kids) kids.length lo hi n h K) rfl (by kernel_rfl) ?_
  refine ⟨rfl, cond_rule (b := false) (by kernel_rfl) (by kernel_rfl) ?_⟩
  refine pre_tree Tryz.Yok 105 (fun K => f32_3 id 5 s.1 s.2.1 s.2.2.1 s.2.2.2 (row encRe kids) kids.length lo hi n h K) rfl (by kernel_rfl) ?_
  refine ⟨rfl, cond_rule (b := true) (by kernel_rfl) (by kernel_rfl) ?_⟩
  refine pre_tree Tryz.Yok 105 (fun K => f32_4 id 5 s.1 s.2.1 s.2.2.1 s.2.2.2 (row encRe kids) kids.length lo hi n h K) rfl (by kernel_rfl) ?_
  refine ⟨rfl, loopE3 [0, 4, 5, 12, 55, 56, 57] [0, 4, 5, 12, 55, 56, 57] rfl (by kernel_rfl) (fun m vs g => ∃ i : Nat, vs = [.p (some (id, 0)), noPart, .lb (partC (altS A kids i).2), .agg [.sl none 0 (some 0) 0, .sl none 0 (some 0) 0, .b true], lst encRe kids, .i .i64 kids.length, .i .i64 (i : Nat)] ∧ i ≤ kids.length ∧ m = kids.length - i ∧ g = H i) kids.length mk_len ?_ ?_⟩
  · refine ⟨_, .cons _ _ _ _ (.refl _) (.cons _ _ _ _ (.refl _) (.cons _ _ _ _ (wk_part false) (WkE.refl _))), 0, ?_, by omega, by omega, h0.symm⟩
    rw [altS, List.take_zero, partF.altF]; rfl
  rintro m vs g ⟨i, rfl, hi, rfl, rfl⟩
  refine all_tree Tryz.Yok (fun K => f32_5 id (row encRe kids) kids.length (row encI (ints (altS A kids i).2.first)) (ints (altS A kids i).2.first).length (row encI (ints (altS A kids i).2.last)) (ints (altS A kids i).2.last).length (altS A kids i).2.empty (i : Nat) (H i) K) rfl ?_
  refine if_lt_nat (fun hlt => ?_) (fun hge => ?_)
  · have hc := hR i hlt hlt
    have hst := stp hlt
    have hb := bnd i
    have hb' := part_B kids[i] (wfs_mem hwf _ (List.getElem_mem hlt)) _ hb.1
    have hcn := cnt hlt
    have hrow := re_row hlt
    generalize kids[i] = x at hc hst hb' hcn hrow
    obtain ⟨xk, xs, xl, xlo, xhi, xn⟩ := x
    rw [encRe_mk] at hc hrow
    generalize altS A kids i = S at hb hc hst hb' hcn
    generalize partF boS (.mk xk xs xl xlo xhi xn) S.1 = T at hc hst hb'
    refine ⟨bnd_nat hlt, _, _, _, _, _, _, _, _, _, _, _, hrow, hc.mono fun v g ⟨hv, hg⟩ => ?_⟩
    subst hv hg
    have l1 := hb.2.1.fi.len; have l2 := hb.2.1.la.len; have l3 := hb'.2.1.fi.len; have l4 := hb'.2.1.la.len
    refine ⟨_, _, _, _, _, _, _, rfl, _, _, _, both_con hs hcm S.2.first T.2.first (by omega) (by omega), _, _, _, both_con hs hcm S.2.last T.2.last (by omega) (by omega), ?_⟩
    have next : ∀ b : Bool, b = (S.2.empty || T.2.empty) → RoundEX 105 [0, 4, 5, 12, 55, 56, 57] [0, 4, 5, 12, 55, 56, 57] (fun m vs g => ∃ i : Nat, vs = [.p (some (id, 0)), noPart, .lb (partC (altS A kids i).2), .agg [.sl none 0 (some 0) 0, .sl none 0 (some 0) 0, .b true], lst encRe kids, .i .i64 kids.length, .i .i64 (i : Nat)] ∧ i ≤ kids.length ∧ m = kids.length - i ∧ g = H i) (kids.length - i) (loopId (post (flat (condT (post (flat (condF (post (flat (blockB (post (flat (bodyOf Tryz.f32)))))))))))))
        (VQ [4, 5] (ContW Tryz.Y 105 [4, 5] (blockId (post (flat (bodyOf Tryz.f32)))) ((post (flat (bodyOf Tryz.f32))).drop 1) (FinS Tryz.Y Tryz.f32 (AfterZ fun v h' => v = .agg (partC (altS A kids kids.length).2) ∧ h' = H kids.length))))
        .normal 105 [.p (some (id, 0)), noPart, .lb [lst encI (ints (boS S.2.first T.2.first)), lst encI (ints (boS S.2.last T.2.last)), .b b], .agg [.sl none 0 (some 0) 0, .sl none 0 (some 0) 0, .b true], lst encRe kids, .i .i64 kids.length, .i .i64 (IntKind.i64.wrap (((i : Nat) : Int) + 1))] (H (i + 1)) := fun b hbe =>
      ⟨rfl, kids.length - (i + 1), by omega, _, WkE.refl _, i + 1, by rw [wrap_succ (by omega), hst, hbe]; rfl, by omega, rfl, rfl⟩
    exact if_mk (fun he => next _ (by rw [he]; rfl)) (fun he => next _ (by rw [he]; rfl))
  · have he : i = kids.length := by omega
    subst he
    refine roundEX_exit (by kernel_rfl) (at_pick rfl ⟨rfl, [4, 5], rfl, ?_⟩)
    refine end_tree Tryz.Yok (fun K => f32_10 false (row encI (ints (altS A kids kids.length).2.first)) (ints (altS A kids kids.length).2.first).length (row encI (ints (altS A kids kids.length).2.last)) (ints (altS A kids kids.length).2.last).length (altS A kids kids.length).2.empty (H kids.length) K) rfl ?_
    exact finC (.inr rfl) rfl (.now ⟨rfl, rfl⟩)
end Go.Y

/- nfa.part: rows and groups, by contracts. -/
namespace Go.Y
open Go.Proofs Go.Sort
set_option maxRecDepth 100000
set_option maxHeartbeats 2000000

theorem part_cat4 (hs : SortSays Tryz.Y.P 75) (hcm : CompactSays Tryz.Y.P 76) {B : Nat} (hB : B < 2 ^ 20) {s : S4} {kids : List Re} {lo hi n : Int} (hwf : wfRe.wfRes B kids) (hkl : kids.length ≤ B) (ih : ∀ x ∈ kids, PartX x) : PartX (.mk 4 s kids lo hi n) := by
  intro h id A hA hM hn
  rw [cntRe, if_neg (by decide), if_neg (by decide)] at hn
  have hpf : partF boS (.mk 4 s kids lo hi n) A = catS A kids kids.length := by rw [partF, catS, List.take_length]; rfl
  rw [hpf]
  have bnd : ∀ i, AuB (catS A kids i).1 ∧ PaB (catS A kids i).1.sets.length (catS A kids i).2 ∧ (catS A kids i).1.sets.length = A.sets.length + cntRe.cnts (kids.take i) := fun i =>
    catL_B (kids.take i) (wfs_take hwf i) A hA ⟨[], [], true⟩ (PaB.nil _ _)
  have stp : ∀ {i} (hi : i < kids.length), catS A kids (i + 1) = catP boS (partF boS kids[i] (catS A kids i).1).1 (catS A kids i).2 (partF boS kids[i] (catS A kids i).1).2 := fun {i} hi => by
    show partF.catF boS (kids.take (i + 1)) A ⟨[], [], true⟩ = _
    rw [List.take_succ_eq_append_getElem hi, catF_snoc]
  have cnt : ∀ {i} (hi : i < kids.length), (catS A kids i).1.sets.length + cntRe kids[i] ≤ 300 := fun {i} hi => by
    have h1 := (bnd i).2.2
    have h2 := cnts_take kids (i + 1)
    rw [List.take_succ_eq_append_getElem hi, cnts_snoc] at h2
    omega
  obtain ⟨H, h0, hP, hR⟩ := fin_choice (fun i g => MkA g id (catS A kids i).1) (fun i g g' => ∀ hi : i < kids.length, ∃ g1, (Con Tryz.Y 32 [.p (some (id, 0)), .agg (encRe kids[i])] g fun v h' => v = .agg (partC (partF boS kids[i] (catS A kids i).1).2) ∧ h' = g1) ∧
      Con Tryz.Y 73 [.p (some (id, 0)), .agg (partC (catS A kids i).2), .agg (partC (partF boS kids[i] (catS A kids i).1).2)] g1 fun v h' => v = .agg (partC (catS A kids (i + 1)).2) ∧ h' = g') h kids.length (by
    show MkA h id (catS A kids 0).1
    rw [catS, List.take_zero, partF.catF]; exact hM) (fun i hi g hg => by
    obtain ⟨g1, c1, c2⟩ := ih kids[i] (List.getElem_mem hi) (bnd i).1 hg (cnt hi)
    have hb := part_B kids[i] (wfs_mem hwf _ (List.getElem_mem hi)) _ (bnd i).1
    have hcn := cnt hi
    have ho := (bnd i).2.1.mono (show (catS A kids i).1.sets.length ≤ (partF boS kids[i] (catS A kids i).1).1.sets.length by omega)
    refine ⟨linkH g1 id (partF boS kids[i] (catS A kids i).1).1.fol (catS A kids i).2.last (partF boS kids[i] (catS A kids i).1).2.first (catS A kids i).2.last.length, fun _ => ⟨g1, c1, ?_⟩, ?_⟩
    · rw [stp hi]
      exact cat_ex hs hcm hb.1 c2 (by omega) ho hb.2.1
    · show MkA _ id (catS A kids (i + 1)).1
      rw [stp hi]
      exact cat_ok hb.1 c2 ho hb.2.1)
  refine ⟨H kids.length, ?_, hP _ (Nat.le_refl _)⟩
  refine conz_of Tryz.Yok (fn := Tryz.f32) (by kernel_rfl) (by kernel_rfl) ?_
  rw [encRe_mk]
  refine pre_tree Tryz.Yok 105 (fun K => f32_0 id 4 s.1 s.2.1 s.2.2.1 s.2.2.2 (row encRe kids) kids.length lo hi n h K) rfl (by kernel_rfl) ?_
  refine ⟨rfl, block2 (n := 105) [4, 5] (by kernel_rfl) ?_⟩
  refine pre_tree Tryz.Yok 105 (fun K => f32_1 id 4 s.1 s.2.1 s.2.2.1 s.2.2.2 (row encRe kids) kids.length lo hi n h K) rfl (by kernel_rfl) ?_
  refine ⟨rfl, cond_rule (b := false) (by kernel_rfl) (by kernel_rfl) ?_⟩
  refine pre_tree Tryz.Yok 105 (fun K => f32_3 id 4 s.1 s.2.1 s.2.2.1 s.2.2.2 (row encRe kids) kids.length lo hi n h K) rfl (by kernel_rfl) ?_
  refine ⟨rfl, cond_rule (b := false) (by kernel_rfl) (by kernel_rfl) ?_⟩
  refine pre_tree Tryz.Yok 105 (fun K => f32_6 id 4 s.1 s.2.1 s.2.2.1 s.2.2.2 (row encRe kids) kids.length lo hi n h K) rfl (by kernel_rfl) ?_
  refine ifT rfl ⟨rfl, cond_rule (b := true) (by kernel_rfl) (by kernel_rfl) ?_⟩
  refine pre_tree Tryz.Yok 105 (fun K => f32_7 id 4 s.1 s.2.1 s.2.2.1 s.2.2.2 (row encRe kids) kids.length lo hi n h K) rfl (by kernel_rfl) ?_
  refine ⟨rfl, loopE3 [0, 4, 5, 86, 87, 88] [0, 4, 5, 86, 87, 88] rfl (by kernel_rfl) (fun m vs g => ∃ i : Nat, vs = [.p (some (id, 0)), noPart, .lb (partC (catS A kids i).2), lst encRe kids, .i .i64 kids.length, .i .i64 (i : Nat)] ∧ i ≤ kids.length ∧ m = kids.length - i ∧ g = H i) kids.length mk_len ?_ ?_⟩
  · refine ⟨_, .cons _ _ _ _ (.refl _) (.cons _ _ _ _ (.refl _) (.cons _ _ _ _ (wk_part true) (WkE.refl _))), 0, ?_, by omega, by omega, h0.symm⟩
    rw [catS, List.take_zero, partF.catF]; rfl
  rintro m vs g ⟨i, rfl, hi, rfl, rfl⟩
  refine all_tree Tryz.Yok (fun K => f32_8 id (row encRe kids) kids.length (row encI (ints (catS A kids i).2.first)) (ints (catS A kids i).2.first).length (row encI (ints (catS A kids i).2.last)) (ints (catS A kids i).2.last).length (catS A kids i).2.empty (i : Nat) (H i) K) rfl ?_
  refine if_lt_nat (fun hlt => ?_) (fun hge => ?_)
  · obtain ⟨g1, hc, hc2⟩ := hR i hlt hlt
    have hrow := re_row hlt
    generalize kids[i] = x at hc hc2 hrow
    obtain ⟨xk, xs, xl, xlo, xhi, xn⟩ := x
    rw [encRe_mk] at hc hrow
    exact ⟨bnd_nat hlt, _, _, _, _, _, _, _, _, _, _, _, hrow, _, _, _, _, _, _, _, g1, hc, _, _, _, _, _, _, _, _, hc2, rfl, kids.length - (i + 1), by omega, _, WkE.refl _, i + 1, by rw [wrap_succ (by omega)]; rfl, by omega, rfl, rfl⟩
  · have he : i = kids.length := by omega
    subst he
    refine roundEX_exit (by kernel_rfl) (at_pick rfl ⟨rfl, [4, 5], rfl, ?_⟩)
    refine end_tree Tryz.Yok (fun K => f32_10 false (row encI (ints (catS A kids kids.length).2.first)) (ints (catS A kids kids.length).2.first).length (row encI (ints (catS A kids kids.length).2.last)) (ints (catS A kids kids.length).2.last).length (catS A kids kids.length).2.empty (H kids.length) K) rfl ?_
    exact finC (.inr rfl) rfl (.now ⟨rfl, rfl⟩)

theorem part_cat7 (hs : SortSays Tryz.Y.P 75) (hcm : CompactSays Tryz.Y.P 76) {B : Nat} (hB : B < 2 ^ 20) {s : S4} {kids : List Re} {lo hi n : Int} (hwf : wfRe.wfRes B kids) (hkl : kids.length ≤ B) (ih : ∀ x ∈ kids, PartX x) : PartX (.mk 7 s kids lo hi n) := by
  intro h id A hA hM hn
  rw [cntRe, if_neg (by decide), if_neg (by decide)] at hn
  have hpf : partF boS (.mk 7 s kids lo hi n) A = catS A kids kids.length := by rw [partF, catS, List.take_length]; rfl
  rw [hpf]
  have bnd : ∀ i, AuB (catS A kids i).1 ∧ PaB (catS A kids i).1.sets.length (catS A kids i).2 ∧ (catS A kids i).1.sets.length = A.sets.length + cntRe.cnts (kids.take i) := fun i =>
    catL_B (kids.take i) (wfs_take hwf i) A hA ⟨[], [], true⟩ (PaB.nil _ _)
  have stp : ∀ {i} (hi : i < kids.length), catS A kids (i + 1) = catP boS (partF boS kids[i] (catS A kids i).1).1 (catS A kids i).2 (partF boS kids[i] (catS A kids i).1).2 := fun {i} hi => by
    show partF.catF boS (kids.take (i + 1)) A ⟨[], [], true⟩ = _
    rw [List.take_succ_eq_append_getElem hi, catF_snoc]
  have cnt : ∀ {i} (hi : i < kids.length), (catS A kids i).1.sets.length + cntRe kids[i] ≤ 300 := fun {i} hi => by
    have h1 := (bnd i).2.2
    have h2 := cnts_take kids (i + 1)
    rw [List.take_succ_eq_append_getElem hi, cnts_snoc] at h2
    omega
  obtain ⟨H, h0, hP, hR⟩ := fin_choice (fun i g => MkA g id (catS A kids i).1) (fun i g g' => ∀ hi : i < kids.length, ∃ g1, (Con Tryz.Y 32 [.p (some (id, 0)), .agg (encRe kids[i])] g fun v h' => v = .agg (partC (partF boS kids[i] (catS A kids i).1).2) ∧ h' = g1) ∧
      Con Tryz.Y 73 [.p (some (id, 0)), .agg (partC (catS A kids i).2), .agg (partC (partF boS kids[i] (catS A kids i).1).2)] g1 fun v h' => v = .agg (partC (catS A kids (i + 1)).2) ∧ h' = g') h kids.length (by
    show MkA h id (catS A kids 0).1
    rw [catS, List.take_zero, partF.catF]; exact hM) (fun i hi g hg => by
    obtain ⟨g1, c1, c2⟩ := ih kids[i] (List.getElem_mem hi) (bnd i).1 hg (cnt hi)
    have hb := part_B kids[i] (wfs_mem hwf _ (List.getElem_mem hi)) _ (bnd i).1
    have hcn := cnt hi
    have ho := (bnd i).2.1.mono (show (catS A kids i).1.sets.length ≤ (partF boS kids[i] (catS A kids i).1).1.sets.length by omega)
    refine ⟨linkH g1 id (partF boS kids[i] (catS A kids i).1).1.fol (catS A kids i).2.last (partF boS kids[i] (catS A kids i).1).2.first (catS A kids i).2.last.length, fun _ => ⟨g1, c1, ?_⟩, ?_⟩
    · rw [stp hi]
      exact cat_ex hs hcm hb.1 c2 (by omega) ho hb.2.1
    · show MkA _ id (catS A kids (i + 1)).1
      rw [stp hi]
      exact cat_ok hb.1 c2 ho hb.2.1)
  refine ⟨H kids.length, ?_, hP _ (Nat.le_refl _)⟩
  refine conz_of Tryz.Yok (fn := Tryz.f32) (by kernel_rfl) (by kernel_rfl) ?_
  rw [encRe_mk]
  refine pre_tree Tryz.Yok 105 (fun K => f32_0 id 7 s.1 s.2.1 s.2.2.1 s.2.2.2 (row encRe kids) kids.length lo hi n h K) rfl (by kernel_rfl) ?_
  refine ⟨rfl, block2 (n := 105) [4, 5] (by kernel_rfl) ?_⟩
  refine pre_tree Tryz.Yok 105 (fun K => f32_1 id 7 s.1 s.2.1 s.2.2.1 s.2.2.2 (row encRe kids) kids.length lo hi n h K) rfl (by kernel_rfl) ?_
  refine ⟨rfl, cond_rule (b := false) (by kernel_rfl) (by kernel_rfl) ?_⟩
  refine pre_tree Tryz.Yok 105 (fun K => f32_3 id 7 s.1 s.2.1 s.2.2.1 s.2.2.2 (row encRe kids) kids.length lo hi n h K) rfl (by kernel_rfl) ?_
  refine ⟨rfl, cond_rule (b := false) (by kernel_rfl) (by kernel_rfl) ?_⟩
  refine pre_tree Tryz.Yok 105 (fun K => f32_6 id 7 s.1 s.2.1 s.2.2.1 s.2.2.2 (row encRe kids) kids.length lo hi n h K) rfl (by kernel_rfl) ?_
  refine ifF rfl ⟨rfl, cond_rule (b := true) (by kernel_rfl) (by kernel_rfl) ?_⟩
  refine pre_tree Tryz.Yok 105 (fun K => f32_7 id 7 s.1 s.2.1 s.2.2.1 s.2.2.2 (row encRe kids) kids.length lo hi n h K) rfl (by kernel_rfl) ?_
  refine ⟨rfl, loopE3 [0, 4, 5, 86, 87, 88] [0, 4, 5, 86, 87, 88] rfl (by kernel_rfl) (fun m vs g => ∃ i : Nat, vs = [.p (some (id, 0)), noPart, .lb (partC (catS A kids i).2), lst encRe kids, .i .i64 kids.length, .i .i64 (i : Nat)] ∧ i ≤ kids.length ∧ m = kids.length - i ∧ g = H i) kids.length mk_len ?_ ?_⟩
  · refine ⟨_, .cons _ _ _ _ (.refl _) (.cons _ _ _ _ (.refl _) (.cons _ _ _ _ (wk_part true) (WkE.refl _))), 0, ?_, by omega, by omega, h0.symm⟩
    rw [catS, List.take_zero, partF.catF]; rfl
  rintro m vs g ⟨i, rfl, hi, rfl, rfl⟩
  refine all_tree Tryz.Yok (fun K => f32_8 id (row encRe kids) kids.length (row encI (ints (catS A kids i).2.first)) (ints (catS A kids i).2.first).length (row encI (ints (catS A kids i).2.last)) (ints (catS A kids i).2.last).length (catS A kids i).2.empty (i : Nat) (H i) K) rfl ?_
  refine if_lt_nat (fun hlt => ?_) (fun hge => ?_)
  · obtain ⟨g1, hc, hc2⟩ := hR i hlt hlt
    have hrow := re_row hlt
    generalize kids[i] = x at hc hc2 hrow
    obtain ⟨xk, xs, xl, xlo, xhi, xn⟩ := x
    rw [encRe_mk] at hc hrow
    exact ⟨bnd_nat hlt, _, _, _, _, _, _, _, _, _, _, _, hrow, _, _, _, _, _, _, _, g1, hc, _, _, _, _, _, _, _, _, hc2, rfl, kids.length - (i + 1), by omega, _, WkE.refl _, i + 1, by rw [wrap_succ (by omega)]; rfl, by omega, rfl, rfl⟩
  · have he : i = kids.length := by omega
    subst he
    refine roundEX_exit (by kernel_rfl) (at_pick rfl ⟨rfl, [4, 5], rfl, ?_⟩)
    refine end_tree Tryz.Yok (fun K => f32_10 false (row encI (ints (catS A kids kids.length).2.first)) (ints (catS A kids kids.length).2.first).length (row encI (ints (catS A kids kids.length).2.last)) (ints (catS A kids kids.length).2.last).length (catS A kids kids.length).2.empty (H kids.length) K) rfl ?_
    exact finC (.inr rfl) rfl (.now ⟨rfl, rfl⟩)
end Go.Y
