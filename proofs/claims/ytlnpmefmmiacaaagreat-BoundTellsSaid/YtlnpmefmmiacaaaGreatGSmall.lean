/- Which sides and peers the statements are about, by contracts. -/
import Derived.Test.YtlnpmefmmiacaaaGreatGParse
import Derived.Test.YtlnpmefmmiacaaaGreatGD1
namespace Go.Y
open Go.Proofs
set_option maxRecDepth 100000

/-! ### peers -/
def smallE (e : Edge) : Bool := decide (e.text.length ≤ 60)
def smallPl (x : Plc) : Bool := decide (x.edges.length ≤ 12) && decide (x.name.length ≤ 60) && x.edges.all smallE
def smallP (l : List Plc) : Bool := decide (l.length ≤ 20) && l.all smallPl

def SpO (l : List Plc) (m : Nat) (vs : List V) (_ : Heap) : Prop :=
  ∃ i : Nat, vs = [lst encPl l, .i .i64 l.length, .i .i64 (i : Nat)] ∧ i ≤ l.length ∧ m = l.length - i ∧ (l.take i).all smallPl = true
def SpN (l : List Plc) (i : Nat) (x : Plc) (m : Nat) (vs : List V) (_ : Heap) : Prop :=
  ∃ j : Nat, vs = [lst encPl l, .i .i64 l.length, .i .i64 (i : Nat), lst encE x.edges, .i .i64 x.edges.length, .i .i64 (j : Nat)] ∧ j ≤ x.edges.length ∧ m = x.edges.length - j ∧ (x.edges.take j).all smallE = true

theorem all_no {α : Type} {p : α → Bool} {l : List α} {i : Nat} (hi : i < l.length) (h : p l[i] = false) : l.all p = false := by
  rw [List.all_eq_false]
  exact ⟨l[i], List.getElem_mem hi, by simp [h]⟩
theorem all_snoc {α : Type} {p : α → Bool} {l : List α} {i : Nat} (hi : i < l.length) (h : (l.take i).all p = true) (h1 : p l[i] = true) : (l.take (i + 1)).all p = true := by
  rw [List.take_succ_eq_append_getElem hi, List.all_append, h]; simp [h1]

theorem smallP_con (cap : Int) (l : List Plc) : PCon Tryz.Y 16 [.agg [.i .i64 cap, lst encPl l]] (· = .b (smallP l)) := by
  refine pcon_of Tryz.Yok (fn := Tryz.f16) (by kernel_rfl) (by kernel_rfl) rfl ?_
  refine pre_rule Tryz.Yok (n := 41) (loc := Tryz.Y.loc 16) 100 [2, 12, 13, 14] (by kernel_rfl) ?_
  refine Eq.mpr (f16_0 cap (row encPl l) l.length .empty _) ?_
  have no : ∀ (vs : List V) (h : Heap) (so : List Nat), smallP l = false → resV Tryz.Y Tryz.f16 (so.zip vs) = some (.b false) → AtV so (FinS Tryz.Y Tryz.f16 fun v h => ∃ r, Frz h v r ∧ r = .b (smallP l)) .ret 41 vs h := fun vs h so hne hv =>
    fin_at (.inr rfl) hv ⟨_, .b _, by rw [hne]⟩
  refine if_lt (fun h20 => no _ _ _ (by simp [smallP, show ¬ l.length ≤ 20 by omega]) rfl) (fun h20 => ?_)
  have h20 : l.length ≤ 20 := by omega
  have notall : l.all smallPl = false → smallP l = false := fun h => by simp [smallP, h]
  refine ⟨rfl, loop2 [12, 13, 14] [2, 12, 13, 14] rfl (by kernel_rfl) (SpO l) l.length mk_len ⟨0, rfl, by omega, by omega, by simp⟩ ?_⟩
  rintro m vs h ⟨i, rfl, hi, rfl, hp⟩
  refine pre_rule Tryz.Yok (n := 41) (loc := Tryz.Y.loc 16) 100 [12, 13, 14] (by kernel_rfl) ?_
  refine Eq.mpr (f16_1 (row encPl l) l.length (i : Nat) _ _) ?_
  refine if_lt_nat (fun hlt => ?_) (fun hge => ?_)
  · refine ⟨rfl, block2 (n := 41) [2, 12, 13, 14, 29, 30, 31] (by kernel_rfl) ?_⟩
    refine pre_rule Tryz.Yok (n := 41) (loc := Tryz.Y.loc 16) 100 [2, 12, 13, 14, 29, 30, 31] (by kernel_rfl) ?_
    refine Eq.mpr (f16_2 (row encPl l) l.length (i : Nat) _ _) ?_
    have out : ∀ (v1 v2 v3 : V) (h : Heap), smallPl l[i] = false → AtV [2, 12, 13, 14, 29, 30, 31] (VQ [2, 12, 13, 14] (RoundW Tryz.Y 41 [2, 12, 13, 14] [12, 13, 14] (SpO l) (l.length - i) (loopId (post (flat (bodyOf Tryz.f16)))) ((post (flat (bodyOf Tryz.f16))).drop 1)
        (FinS Tryz.Y Tryz.f16 fun v h => ∃ r, Frz h v r ∧ r = .b (smallP l)))) .ret 41 [.b false, lst encPl l, .i .i64 l.length, .i .i64 (i : Nat), v1, v2, v3] h := by
      intro v1 v2 v3 h hne
      refine at_pick rfl ?_
      exact no _ _ _ (notall (all_no hlt hne)) rfl
    refine ⟨bnd_nat hlt, l[i].name, l[i].echo, row encE l[i].edges, l[i].edges.length, none, by rw [Int.toNat_natCast]; exact row_get (f := encPl) (k := 3) encPl_len hlt, ?_⟩
    refine if_lt (fun h12 => at_pick rfl (out _ _ _ _ (by simp [smallPl, show ¬ l[i].edges.length ≤ 12 by omega]))) (fun h12 => ?_)
    refine if_lt (fun h60 => at_pick rfl (out _ _ _ _ (by simp [smallPl, show ¬ l[i].name.length ≤ 60 by omega]))) (fun h60 => ?_)
    have h12 : l[i].edges.length ≤ 12 := by omega
    have h60 : l[i].name.length ≤ 60 := by omega
    refine ⟨rfl, loopE [12, 13, 14, 29, 30, 31] [2, 12, 13, 14, 29, 30, 31] rfl (by kernel_rfl) (SpN l i l[i]) l[i].edges.length mk_len ⟨0, rfl, by omega, by omega, by simp⟩ ?_⟩
    rintro m vs h2 ⟨j, rfl, hj, rfl, hq⟩
    refine all_rule Tryz.Yok (loc := Tryz.Y.loc 16) 100 [2, 12, 13, 14, 29, 30, 31] ?_
    refine Eq.mpr (f16_3 (row encPl l) l.length (i : Nat) none (row encE l[i].edges) l[i].edges.length (l[i].edges.length : Nat) (j : Nat) _ _) ?_
    refine if_lt_nat (fun hjl => ?_) (fun hjg => ?_)
    · refine ⟨bnd_nat hjl, _, _, _, _, _, by rw [Int.toNat_natCast]; exact row_get (f := encE) (k := 5) encE_len hjl, if_lt (fun ht => ?_) (fun ht => ?_)⟩
      · refine at_pick rfl (out _ _ _ _ ?_)
        have : smallE l[i].edges[j] = false := by unfold smallE; simp; omega
        have := all_no (p := smallE) hjl this
        simp [smallPl, this]
      · refine ⟨rfl, l[i].edges.length - (j + 1), by omega, j + 1, by rw [wrap_succ (by omega)]; rfl, by omega, rfl, all_snoc hjl hq ?_⟩
        unfold smallE; simp; omega
    · simp only [RoundE]
      rw [if_pos (by kernel_rfl)]
      refine at_pick rfl ?_
      refine ⟨rfl, [12, 13, 14], rfl, ?_⟩
      rw [List.take_of_length_le hjg] at hq
      have hs : smallPl l[i] = true := by simp [smallPl, h12, h60, hq]
      refine all_two Tryz.Yok (loc := Tryz.Y.loc 16) 100 [12, 13, 14] ?_
      refine Eq.mpr (f16_4 (row encPl l) l.length (i : Nat) _ _) ?_
      rw [wrap_succ (by omega)]
      exact fun vs2 ht => roundW_normal ht rfl rfl rfl (l.length - (i + 1)) (by omega) ⟨i + 1, rfl, by omega, rfl, all_snoc hlt hp hs⟩
  · refine at_two fun vs2 ht => roundW_exit2 [] ht (by kernel_rfl) rfl rfl rfl ?_
    refine end_rule Tryz.Yok (loc := Tryz.Y.loc 16) 100 [2] ?_
    refine Eq.mpr (f16_5 _ _) ?_
    rw [List.take_of_length_le hge] at hp
    exact finV1 (.inr rfl) rfl (.b _) (by simp [smallP, h20, hp])

/-! ### sides -/
def smallLn (s : List UInt8) : Bool := decide (s.length ≤ 60)
def smallAge (a : Int) : Bool := decide (a ≤ 1152921504606846976)
def smallSd (s : Side) : Bool := decide (s.typed.length ≤ 100) && decide (s.fly.length ≤ 40) && decide (s.ready.length ≤ 100) && decide (s.buffer.length ≤ 100) && decide (s.lines.length ≤ 6) && decide (s.ages.length ≤ 40) && decide (s.clock ≤ 1152921504606846976) &&
  s.lines.all smallLn && s.ages.all smallAge

theorem smallSd_con (s : Side) : PCon Tryz.Y 17 [.agg (sideC s)] (· = .b (smallSd s)) := by
  refine pcon_of Tryz.Yok (fn := Tryz.f17) (by kernel_rfl) (by kernel_rfl) rfl ?_
  refine pre_rule Tryz.Yok (n := 67) (loc := Tryz.Y.loc 17) 100 [1, 2, 47, 48, 49] (by kernel_rfl) ?_
  refine Eq.mpr (f17_0 s.on s.shut s.eof s.place s.clock s.typed (row encT s.lines) s.lines.length s.fly (row encI s.ages) s.ages.length s.ready s.buffer .empty _) ?_
  have no : ∀ h, smallSd s = false → ∃ r, Frz h (.b false) r ∧ r = .b (smallSd s) := fun h e => ⟨_, .b _, by rw [e]⟩
  refine if_lt (fun g => fin_at (.inr rfl) rfl (no _ (by simp [smallSd, show ¬ s.typed.length ≤ 100 by omega]))) (fun g1 => ?_)
  refine if_lt (fun g => fin_at (.inr rfl) rfl (no _ (by simp [smallSd, show ¬ s.fly.length ≤ 40 by omega]))) (fun g2 => ?_)
  refine if_lt (fun g => fin_at (.inr rfl) rfl (no _ (by simp [smallSd, show ¬ s.ready.length ≤ 100 by omega]))) (fun g3 => ?_)
  refine if_lt (fun g => fin_at (.inr rfl) rfl (no _ (by simp [smallSd, show ¬ s.buffer.length ≤ 100 by omega]))) (fun g4 => ?_)
  refine if_lt (fun g => fin_at (.inr rfl) rfl (no _ (by simp [smallSd, show ¬ s.lines.length ≤ 6 by omega]))) (fun g5 => ?_)
  refine if_lt (fun g => fin_at (.inr rfl) rfl (no _ (by simp [smallSd, show ¬ s.ages.length ≤ 40 by omega]))) (fun g6 => ?_)
  refine if_lt (fun g => fin_at (.inr rfl) rfl (no _ (by simp [smallSd, show ¬ s.clock ≤ 1152921504606846976 by omega]))) (fun g7 => ?_)
  refine ⟨rfl, loop2 [1, 47, 48, 49] [1, 2, 47, 48, 49] rfl (by kernel_rfl) (fun m vs _ => ∃ i : Nat, vs = [.lb (sideC s), lst encT s.lines, .i .i64 s.lines.length, .i .i64 (i : Nat)] ∧ i ≤ s.lines.length ∧ m = s.lines.length - i ∧ (s.lines.take i).all smallLn = true) s.lines.length mk_len ⟨0, rfl, by omega, by omega, by simp⟩ ?_⟩
  rintro m vs h ⟨i, rfl, hi, rfl, hp⟩
  refine all_rule Tryz.Yok (loc := Tryz.Y.loc 17) 100 [1, 2, 47, 48, 49] ?_
  refine Eq.mpr (f17_1 s.on s.shut s.eof s.place s.clock s.typed (row encT s.lines) s.lines.length s.fly (row encI s.ages) s.ages.length s.ready s.buffer (i : Nat) h _) ?_
  refine if_lt_nat (fun hlt => ?_) (fun hge => ?_)
  · refine ⟨bnd_nat hlt, s.lines[i], by rw [Int.toNat_natCast]; exact row_get (f := encT) (k := 1) encT_len hlt, if_lt (fun hc => ?_) (fun hc => ?_)⟩
    · have : smallLn s.lines[i] = false := by unfold smallLn; simp; omega
      have := all_no (p := smallLn) hlt this
      exact fin_at (.inr rfl) rfl (no _ (by simp [smallSd, this]))
    · exact ⟨rfl, s.lines.length - (i + 1), by omega, i + 1, by rw [wrap_succ (by omega)]; rfl, by omega, rfl, all_snoc hlt hp (by unfold smallLn; simp; omega)⟩
  rw [List.take_of_length_le hge] at hp
  refine roundW_exit [1] (by kernel_rfl) rfl rfl ?_
  refine pre_rule Tryz.Yok (n := 67) (loc := Tryz.Y.loc 17) 100 [58, 59, 60] (by kernel_rfl) ?_
  refine Eq.mpr (f17_2 s.on s.shut s.eof s.place s.clock (row encT s.lines) s.lines.length (row encI s.ages) s.ages.length s.typed s.fly s.ready s.buffer h _) ?_
  refine ⟨rfl, loop2 [58, 59, 60] [2, 58, 59, 60] rfl (by kernel_rfl) (fun m vs _ => ∃ i : Nat, vs = [lst encI s.ages, .i .i64 s.ages.length, .i .i64 (i : Nat)] ∧ i ≤ s.ages.length ∧ m = s.ages.length - i ∧ (s.ages.take i).all smallAge = true) s.ages.length mk_len ⟨0, rfl, by omega, by omega, by simp⟩ ?_⟩
  rintro m vs h ⟨i, rfl, hi, rfl, hq⟩
  refine all_rule Tryz.Yok (loc := Tryz.Y.loc 17) 100 [2, 58, 59, 60] ?_
  refine Eq.mpr (f17_3 (row encI s.ages) s.ages.length (i : Nat) h _) ?_
  refine if_lt_nat (fun hlt => ?_) (fun hge => ?_)
  · refine ⟨bnd_nat hlt, s.ages[i], by rw [Int.toNat_natCast]; exact row_get (f := encI) (k := 1) encI_len hlt, if_lt (fun hc => ?_) (fun hc => ?_)⟩
    · have : smallAge s.ages[i] = false := by unfold smallAge; simp; omega
      have := all_no (p := smallAge) hlt this
      exact fin_at (.inr rfl) rfl (no _ (by simp [smallSd, this]))
    · exact ⟨rfl, s.ages.length - (i + 1), by omega, i + 1, by rw [wrap_succ (by omega)]; rfl, by omega, rfl, all_snoc hlt hq (by unfold smallAge; simp; omega)⟩
  rw [List.take_of_length_le hge] at hq
  refine roundW_exit [] (by kernel_rfl) rfl rfl ?_
  refine end_rule Tryz.Yok (loc := Tryz.Y.loc 17) 100 [2] ?_
  refine Eq.mpr (f17_4 h _) ?_
  refine finV1 (.inr rfl) rfl (.b _) ?_
  have k1 : s.typed.length ≤ 100 := by omega
  have k2 : s.fly.length ≤ 40 := by omega
  have k3 : s.ready.length ≤ 100 := by omega
  have k4 : s.buffer.length ≤ 100 := by omega
  have k5 : s.lines.length ≤ 6 := by omega
  have k6 : s.ages.length ≤ 40 := by omega
  have k7 : s.clock ≤ 1152921504606846976 := by omega
  simp only [smallSd, k1, k2, k3, k4, k5, k6, k7, hp, hq, decide_true, Bool.true_and, Bool.and_true]
end Go.Y
