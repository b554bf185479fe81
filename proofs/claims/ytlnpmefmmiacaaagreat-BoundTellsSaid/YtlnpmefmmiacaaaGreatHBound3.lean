/- Bounds of a model, by contracts: which inputs are small. -/
import Derived.Test.YtlnpmefmmiacaaaGreatHBound2
namespace Go.Y
open Go.Proofs
set_option maxRecDepth 100000
set_option maxHeartbeats 2000000

/-! ### law20.Small, without sides -/
def smallWa (w : Wat) : Bool := decide (w.text.length ≤ 40)
def smallCo (ws : List Wat) : Bool := decide (ws.length ≤ 12) && ws.all smallWa

theorem small14 (ins : List Ins) (ws : List Wat) : PCon Tryz.Y 14 [.agg (codeC ins ws), .ts [] 0 none] (· = .b (smallCo ws)) := by
  refine pcon_of Tryz.Yok (fn := Tryz.f14) (by kernel_rfl) (by kernel_rfl) rfl ?_
  refine pre_rule Tryz.Yok (n := 42) (loc := Tryz.Y.loc 14) 100 [1, 4, 19, 20, 21] (by kernel_rfl) ?_
  refine Eq.mpr (f14_0 (row encIn ins) ins.length (row encWa ws) ws.length [] 0 .empty _) ?_
  have no : ∀ (vs : List V) (h : Heap) (so : List Nat), smallCo ws = false → resV Tryz.Y Tryz.f14 (so.zip vs) = some (.b false) → AtV so (FinS Tryz.Y Tryz.f14 fun v h => ∃ r, Frz h v r ∧ r = .b (smallCo ws)) .ret 42 vs h := fun vs h so hne hv =>
    fin_at (.inr rfl) hv ⟨_, .b _, by rw [hne]⟩
  refine if_lt (fun h12 => no _ _ _ (by simp [smallCo, show ¬ ws.length ≤ 12 by omega]) rfl) (fun h12 => if_lt (fun h9 => absurd h9 (by decide)) (fun _ => ?_))
  have h12 : ws.length ≤ 12 := by omega
  refine ⟨rfl, loop2 [1, 19, 20, 21] [1, 4, 19, 20, 21] rfl (by kernel_rfl) (fun m vs _ => ∃ i : Nat, vs = [.ts [] 0 none, lst encWa ws, .i .i64 ws.length, .i .i64 (i : Nat)] ∧ i ≤ ws.length ∧ m = ws.length - i ∧ (ws.take i).all smallWa = true) ws.length mk_len ⟨0, rfl, by omega, by omega, by simp⟩ ?_⟩
  rintro m vs h ⟨i, rfl, hi, rfl, hp⟩
  refine all_rule Tryz.Yok (loc := Tryz.Y.loc 14) 100 [1, 4, 19, 20, 21] ?_
  refine Eq.mpr (f14_1 (row encWa ws) ws.length [] 0 (i : Nat) h _) ?_
  refine if_lt_nat (fun hlt => ?_) (fun hge => ?_)
  · refine ⟨bnd_nat hlt, _, _, _, _, _, _, _, by rw [Int.toNat_natCast]; exact row_get (f := encWa) (k := 7) encWa_len hlt, if_lt (fun h40 => no _ _ _ ?_ rfl) (fun h40 => ?_)⟩
    · have : ws.all smallWa = false := all_no (p := smallWa) hlt (by unfold smallWa; simp; omega)
      simp [smallCo, this]
    · exact ⟨rfl, ws.length - (i + 1), by omega, i + 1, by rw [wrap_succ (by omega)]; rfl, by omega, rfl, all_snoc (p := smallWa) hlt hp (by unfold smallWa; simp; omega)⟩
  · refine roundW_exit [1] (by kernel_rfl) rfl rfl ?_
    rw [List.take_of_length_le hge] at hp
    refine pre_rule Tryz.Yok (n := 42) (loc := Tryz.Y.loc 14) 100 [31, 32, 33] (by kernel_rfl) ?_
    refine Eq.mpr (f14_2 [] 0 _ _) ?_
    refine ⟨rfl, loop2 [31, 32, 33] [4, 31, 32, 33] rfl (by kernel_rfl) (fun m vs _ => vs = [.ts [] 0 none, .i .i64 ((0 : Nat) : Int), .i .i64 0]) 0 mk_len rfl ?_⟩
    rintro m vs h rfl
    refine all_rule Tryz.Yok (loc := Tryz.Y.loc 14) 100 [4, 31, 32, 33] ?_
    refine Eq.mpr (f14_3 [] 0 0 h _) ?_
    refine if_lt (fun hlt => absurd hlt (by decide)) (fun _ => ?_)
    refine roundW_exit [] (by kernel_rfl) rfl rfl ?_
    refine end_rule Tryz.Yok (loc := Tryz.Y.loc 14) 100 [4] ?_
    refine Eq.mpr (f14_4 _ _) ?_
    exact finV1 (.inr rfl) rfl (.b _) (by simp [smallCo, h12, hp])

/-! ### law14.Small of nothing -/
theorem small15 : PCon Tryz.Y 15 [.ts [] 0 none] (· = .b true) := by
  refine pcon_of Tryz.Yok (fn := Tryz.f15) (by kernel_rfl) (by kernel_rfl) rfl ?_
  refine pre_rule Tryz.Yok (n := 25) (loc := Tryz.Y.loc 15) 100 [2, 8, 9, 10] (by kernel_rfl) ?_
  refine Eq.mpr (f15_0 [] 0 .empty _) ?_
  refine if_lt (fun h => absurd h (by decide)) (fun _ => ?_)
  refine ⟨rfl, loop2 [8, 9, 10] [2, 8, 9, 10] rfl (by kernel_rfl) (fun m vs _ => vs = [.ts [] 0 none, .i .i64 ((0 : Nat) : Int), .i .i64 0]) 0 mk_len rfl ?_⟩
  rintro m vs h rfl
  refine all_rule Tryz.Yok (loc := Tryz.Y.loc 15) 100 [2, 8, 9, 10] ?_
  refine Eq.mpr (f15_1 [] 0 0 h _) ?_
  refine if_lt (fun hlt => absurd hlt (by decide)) (fun _ => ?_)
  refine roundW_exit [] (by kernel_rfl) rfl rfl ?_
  refine end_rule Tryz.Yok (loc := Tryz.Y.loc 15) 100 [2] ?_
  refine Eq.mpr (f15_2 _ _) ?_
  exact finV1 (.inr rfl) rfl (.b _) rfl

/-! ### law21.Small of a model -/
def smallK (k : Kid) : Bool := decide (k.len ≤ 0)
def smallPt (p : List UInt8 × List UInt8) : Bool := decide (p.1.length ≤ 60) && decide (p.2.length ≤ 60)
def smallI (x : Ins) : Bool := decide (x.parts.length ≤ 6) && decide (x.list.length ≤ 12) && decide (x.name.length ≤ 60) && decide (x.kids.length ≤ 2) && x.kids.all smallK && x.parts.all smallPt
def smallRo (p : Int × List Plc) : Bool := smallP p.2
def smallM (ins : List Ins) (ws : List Wat) (ps : List (Int × List Plc)) : Bool := decide (ins.length ≤ 40) && decide (ps.length ≤ 9) && smallCo ws && ins.all smallI && ps.all smallRo

abbrev confT : List V := [.i .i64 0, .ts [] 0 none, .s [], .s [], .s [], .s [], .s [], .s [], .s [], .s [], .s [], .s [], .ts [] 0 none, .i .i64 0, .i .i64 0, .i .i64 0, .i .i64 0, .i .i64 0, .ts [] 0 none, .ts [] 0 none, .ts [] 0 none]
abbrev confN : List V := [.i .i64 0, .sl none 0 (some 0) 0, .s [], .s [], .s [], .s [], .s [], .s [], .s [], .s [], .s [], .s [], .sl none 0 (some 0) 0, .i .i64 0, .i .i64 0, .i .i64 0, .i .i64 0, .i .i64 0, .sl none 0 (some 0) 0, .sl none 0 (some 0) 0, .sl none 0 (some 0) 0]
theorem nil_wk : Wk0 (.sl none 0 (some 0) 0) (.ts [] 0 none) := .inr (.inl ⟨_, _, _, rfl, rfl, fun x hx => by cases hx⟩)
theorem conf_wk : WkL confN confT := by
  refine .cons _ _ _ _ (.refl _) (.cons _ _ _ _ nil_wk (.cons _ _ _ _ (.refl _) (.cons _ _ _ _ (.refl _) (.cons _ _ _ _ (.refl _) (.cons _ _ _ _ (.refl _) (.cons _ _ _ _ (.refl _) (.cons _ _ _ _ (.refl _) (.cons _ _ _ _ (.refl _) (.cons _ _ _ _ (.refl _) (.cons _ _ _ _ (.refl _) (.cons _ _ _ _ (.refl _)
    (.cons _ _ _ _ nil_wk (.cons _ _ _ _ (.refl _) (.cons _ _ _ _ (.refl _) (.cons _ _ _ _ (.refl _) (.cons _ _ _ _ (.refl _) (.cons _ _ _ _ (.refl _) (.cons _ _ _ _ nil_wk (.cons _ _ _ _ nil_wk (.cons _ _ _ _ nil_wk .nil))))))))))))))))))))

abbrev hd5 (ins : List Ins) (ws : List Wat) (ps : List (Int × List Plc)) (lat mat : Int) (b : V) (v10 : V) (i : Nat) : List V := [.lb (modC ins ws ps lat mat), .lb confT, b, v10, .rf, lst encIn ins, .i .i64 ins.length, .i .i64 (i : Nat)]
abbrev Q5 (ins : List Ins) (ws : List Wat) (ps : List (Int × List Plc)) : Out → St → Prop := FinS Tryz.Y Tryz.f5 fun v h => ∃ r, Frz h v r ∧ r = .b (smallM ins ws ps)
def I5 (ins : List Ins) (ws : List Wat) (ps : List (Int × List Plc)) (lat mat : Int) (m : Nat) (vs : List V) (_ : Heap) : Prop :=
  ∃ (i : Nat) (b : Bool) (v10 : V), vs = hd5 ins ws ps lat mat (.b b) v10 i ∧ i ≤ ins.length ∧ m = ins.length - i ∧ (ins.take i).all smallI = true
theorem no5 {ins : List Ins} {ws : List Wat} {ps : List (Int × List Plc)} (hne : smallM ins ws ps = false) {so : List Nat} {vs : List V} (hv : resV Tryz.Y Tryz.f5 (so.zip vs) = some (.b false)) (h : Heap) : AtV so (Q5 ins ws ps) .ret 156 vs h :=
  fin_at (.inr rfl) hv ⟨_, .b _, by rw [hne]⟩

theorem small5 (ins : List Ins) (ws : List Wat) (ps : List (Int × List Plc)) (lat mat : Int) : PCon Tryz.Y 5 [.agg (modC ins ws ps lat mat), .agg confT] (· = .b (smallM ins ws ps)) := by
  refine pcon_of Tryz.Yok (fn := Tryz.f5) (by kernel_rfl) (by kernel_rfl) rfl ?_
  refine pre_rule Tryz.Yok (n := 156) (loc := Tryz.Y.loc 5) 100 [2, 3, 4, 10, 16, 67, 68, 69] (by kernel_rfl) ?_
  refine Eq.mpr (f5_0 (row encIn ins) ins.length (row encWa ws) ws.length (row encPr ps) ps.length lat mat .empty _) ?_
  refine if_lt (fun h40 => no5 (by simp [smallM, show ¬ ins.length ≤ 40 by omega]) rfl _) (fun h40 => ?_)
  refine if_lt (fun h9 => no5 (by simp [smallM, show ¬ ps.length ≤ 9 by omega]) rfl _) (fun h9 => ?_)
  have h40 : ins.length ≤ 40 := by omega
  have h9 : ps.length ≤ 9 := by omega
  have nosc : smallCo ws = false → smallM ins ws ps = false := fun h => by simp [smallM, h]
  refine ⟨_, (small14 ins ws).wk (.agg _ _ _ _ (WkL.refl _) (.one _ _ _ _ nil_wk .nil)), if_mk (fun h => no5 (nosc (by simpa using h)) rfl _) (fun h => ⟨_, small15, if_mk (fun h => by cases h) (fun _ => ?_)⟩)⟩
  have hc : smallCo ws = true := by simpa using h
  refine ⟨rfl, loop2 [2, 3, 4, 10, 16, 67, 68, 69] [2, 3, 4, 10, 16, 67, 68, 69] rfl (by kernel_rfl) (I5 ins ws ps lat mat) ins.length mk_len ⟨0, _, _, rfl, by omega, by omega, by simp⟩ ?_⟩
  rintro m vs h1 ⟨i, b, v10, rfl, hi, rfl, hp⟩
  refine pre_rule Tryz.Yok (n := 156) (loc := Tryz.Y.loc 5) 100 [2, 3, 4, 10, 16, 67, 68, 69] (by kernel_rfl) ?_
  refine Eq.mpr (f5_1 (row encIn ins) ins.length (row encWa ws) ws.length (row encPr ps) ps.length lat mat b [] [] [] [] [] [] [] [] [] [] v10 (i : Nat) _ _) ?_
  refine if_lt_nat (fun hlt => ?_) (fun hge => ?_)
  · have out : smallI ins[i] = false → smallM ins ws ps = false := fun e => by
      have := all_no (p := smallI) hlt e
      simp [smallM, this]
    refine ⟨rfl, block2 (n := 156) [2, 3, 4, 10, 16, 67, 68, 69] (by kernel_rfl) ?_⟩
    refine pre_rule Tryz.Yok (n := 156) (loc := Tryz.Y.loc 5) 100 [2, 3, 4, 6, 10, 16, 67, 68, 69, 98, 99, 100] (by kernel_rfl) ?_
    refine Eq.mpr (f5_2 (row encIn ins) ins.length (row encWa ws) ws.length (row encPr ps) ps.length lat mat b [] [] [] [] [] [] [] [] [] [] v10 (i : Nat) _ _) ?_
    refine ⟨bnd_nat hlt, _, _, _, _, _, _, _, _, _, _, _, _, _, _, _, _, _, by rw [Int.toNat_natCast]; exact row_get (f := encIn) (k := 11) encIn_len hlt, ?_⟩
    generalize hx : ins[i] = x at *
    refine if_lt (fun g => at_pick rfl (at_pick rfl (no5 (out (by simp [smallI, show ¬ x.parts.length ≤ 6 by omega])) rfl _))) (fun g6 => ?_)
    refine if_lt (fun g => at_pick rfl (at_pick rfl (no5 (out (by simp [smallI, show ¬ x.list.length ≤ 12 by omega])) rfl _))) (fun g12 => ?_)
    refine if_lt (fun g => at_pick rfl (at_pick rfl (no5 (out (by simp [smallI, show ¬ x.name.length ≤ 60 by omega])) rfl _))) (fun g60 => ?_)
    refine if_lt (fun g => at_pick rfl (at_pick rfl (no5 (out (by simp [smallI, show ¬ x.kids.length ≤ 2 by omega])) rfl _))) (fun g2 => ?_)
    refine ⟨rfl, loop2 [2, 3, 4, 6, 10, 16, 67, 68, 69, 98, 99, 100] [2, 3, 4, 6, 10, 16, 67, 68, 69, 98, 99, 100] rfl (by kernel_rfl) (fun m vs _ => ∃ (j : Nat) (b : Bool) (v10 : V), vs = [.lb (modC ins ws ps lat mat), .lb confT, .b b, .lb (encIn x), v10, .rf, lst encIn ins, .i .i64 ins.length, .i .i64 (i : Nat), lst encK x.kids, .i .i64 x.kids.length, .i .i64 (j : Nat)] ∧ j ≤ x.kids.length ∧ m = x.kids.length - j ∧ (x.kids.take j).all smallK = true) x.kids.length mk_len ⟨0, _, _, rfl, by omega, by omega, by simp⟩ ?_⟩
    rintro m vs h2 ⟨j, b, v10, rfl, hj, rfl, hk⟩
    refine all_rule Tryz.Yok (loc := Tryz.Y.loc 5) 100 [2, 3, 4, 6, 10, 16, 67, 68, 69, 98, 99, 100] ?_
    refine Eq.mpr (f5_3 (row encIn ins) ins.length (row encWa ws) ws.length (row encPr ps) ps.length lat mat b v10 (i : Nat) [] [] [] [] [] [] [] [] [] [] x.op x.a x.name x.n none (row encPt x.parts) x.parts.length x.ck x.cn x.cname x.cop none (row encK x.kids) x.kids.length none (row encI x.list) x.list.length none (row encK x.kids) x.kids.length x.kids.length (j : Nat) _ _) ?_
    refine if_lt_nat (fun hjl => ?_) (fun hjg => ?_)
    · refine ⟨bnd_nat hjl, _, _, _, _, _, _, _, by rw [Int.toNat_natCast]; exact row_get (f := encK) (k := 5) encK_len hjl, if_lt (fun g => ?_) (fun g => ?_)⟩
      · refine at_pick rfl (at_pick rfl (no5 (out ?_) rfl _))
        have : x.kids.all smallK = false := all_no (p := smallK) hjl (by unfold smallK; simp; omega)
        simp [smallI, this]
      · exact ⟨rfl, x.kids.length - (j + 1), by omega, j + 1, _, _, by rw [wrap_succ (by omega)]; rfl, by omega, rfl, all_snoc (p := smallK) hjl hk (by unfold smallK; simp; omega)⟩
    · rw [List.take_of_length_le hjg] at hk
      refine roundW_exit [2, 3, 4, 6, 10, 16, 67, 68, 69] (by kernel_rfl) rfl rfl ?_
      refine pre_rule Tryz.Yok (n := 156) (loc := Tryz.Y.loc 5) 100 [2, 3, 4, 10, 16, 67, 68, 69, 110, 111, 112] (by kernel_rfl) ?_
      refine Eq.mpr (f5_4 (row encIn ins) ins.length (row encWa ws) ws.length (row encPr ps) ps.length lat mat b v10 (i : Nat) x.op x.a x.n none (row encPt x.parts) x.parts.length x.ck x.cn none (row encK x.kids) x.kids.length none (row encI x.list) x.list.length [] [] [] [] [] [] [] [] [] [] x.name x.cname x.cop _ _) ?_
      refine ⟨rfl, loopE [2, 3, 4, 10, 16, 67, 68, 69, 110, 111, 112] [2, 3, 4, 10, 16, 67, 68, 69, 110, 111, 112] rfl (by kernel_rfl) (fun m vs _ => ∃ (j : Nat) (b : Bool) (v10 : V), vs = [.lb (modC ins ws ps lat mat), .lb confT, .b b, v10, .rf, lst encIn ins, .i .i64 ins.length, .i .i64 (i : Nat), lst encPt x.parts, .i .i64 x.parts.length, .i .i64 (j : Nat)] ∧ j ≤ x.parts.length ∧ m = x.parts.length - j ∧ (x.parts.take j).all smallPt = true) x.parts.length mk_len ⟨0, _, _, rfl, by omega, by omega, by simp⟩ ?_⟩
      rintro m vs h3 ⟨j2, b, v10, rfl, hj2, rfl, hq⟩
      refine all_rule Tryz.Yok (loc := Tryz.Y.loc 5) 100 [2, 3, 4, 10, 16, 67, 68, 69, 110, 111, 112] ?_
      refine Eq.mpr (f5_5 (row encIn ins) ins.length (row encWa ws) ws.length (row encPr ps) ps.length lat mat b v10 (i : Nat) none (row encPt x.parts) x.parts.length [] [] [] [] [] [] [] [] [] [] (j2 : Nat) _ _) ?_
      refine if_lt_nat (fun hjl => ?_) (fun hjg2 => ?_)
      · have bad : smallPt x.parts[j2] = false → smallM ins ws ps = false := fun e => out (by
          have := all_no (p := smallPt) hjl e
          simp [smallI, this])
        refine ⟨bnd_nat hjl, _, _, by rw [Int.toNat_natCast]; exact row_get (f := encPt) (k := 2) encPt_len hjl, if_lt (fun g => ?_) (fun g1 => if_lt (fun g => ?_) (fun g3 => ?_))⟩
        · exact at_pick rfl (at_pick rfl (no5 (bad (by unfold smallPt; simp; omega)) rfl _))
        · exact at_pick rfl (at_pick rfl (no5 (bad (by unfold smallPt; simp; omega)) rfl _))
        · exact ⟨rfl, x.parts.length - (j2 + 1), by omega, j2 + 1, _, _, by rw [wrap_succ (by omega)]; rfl, by omega, rfl, all_snoc (p := smallPt) hjl hq (by unfold smallPt; simp; omega)⟩
      · rw [List.take_of_length_le hjg2] at hq
        simp only [RoundE]
        rw [if_pos (by kernel_rfl)]
        refine at_pick rfl ?_
        refine ⟨rfl, [2, 3, 4, 10, 16, 67, 68, 69], rfl, ?_⟩
        refine all_rule Tryz.Yok (loc := Tryz.Y.loc 5) 100 [2, 3, 4, 10, 16, 67, 68, 69] ?_
        refine Eq.mpr (f5_6 (row encIn ins) ins.length (row encWa ws) ws.length (row encPr ps) ps.length lat mat b v10 (i : Nat) [] [] [] [] [] [] [] [] [] [] _ _) ?_
        refine ⟨rfl, ins.length - (i + 1), by omega, i + 1, _, _, by rw [wrap_succ (by omega)]; rfl, by omega, rfl, all_snoc (p := smallI) hlt hp ?_⟩
        rw [hx]
        simp [smallI, hk, hq, show x.parts.length ≤ 6 by omega, show x.list.length ≤ 12 by omega, show x.name.length ≤ 60 by omega, show x.kids.length ≤ 2 by omega]
  · rw [List.take_of_length_le hge] at hp
    refine at_pick rfl (roundW_exit [2, 3] (by kernel_rfl) rfl rfl ?_)
    refine pre_rule Tryz.Yok (n := 156) (loc := Tryz.Y.loc 5) 100 [3, 129, 130, 131] (by kernel_rfl) ?_
    refine Eq.mpr (f5_7 (row encIn ins) ins.length (row encWa ws) ws.length (row encPr ps) ps.length lat mat [] [] [] [] [] [] [] [] [] [] _ _) ?_
    refine ⟨rfl, loop2 [3, 129, 130, 131] [3, 4, 129, 130, 131] rfl (by kernel_rfl) (fun m vs _ => ∃ j : Nat, vs = [.lb confT, lst encPr ps, .i .i64 ps.length, .i .i64 (j : Nat)] ∧ j ≤ ps.length ∧ m = ps.length - j ∧ (ps.take j).all smallRo = true) ps.length mk_len ⟨0, rfl, by omega, by omega, by simp⟩ ?_⟩
    rintro m vs h2 ⟨j, rfl, hj, rfl, hr⟩
    refine all_rule Tryz.Yok (loc := Tryz.Y.loc 5) 100 [3, 4, 129, 130, 131] ?_
    refine Eq.mpr (f5_8 (row encPr ps) ps.length [] [] [] [] [] [] [] [] [] [] (j : Nat) _ _) ?_
    refine if_lt_nat (fun hjl => ?_) (fun hjg => ?_)
    · refine ⟨bnd_nat hjl, _, _, _, _, by rw [Int.toNat_natCast]; exact row_get (f := encPr) (k := 2) encPr_len hjl, _, smallP_con ps[j].1 ps[j].2, if_mk (fun g => ?_) (fun g => ?_)⟩
      · have g : smallRo ps[j] = false := by unfold smallRo; simpa using g
        have := all_no (p := smallRo) hjl g
        exact no5 (by simp [smallM, this]) rfl _
      · have g : smallRo ps[j] = true := by unfold smallRo; simpa using g
        exact ⟨rfl, ps.length - (j + 1), by omega, j + 1, by rw [wrap_succ (by omega)]; rfl, by omega, rfl, all_snoc (p := smallRo) hjl hr g⟩
    · rw [List.take_of_length_le hjg] at hr
      refine roundW_exit [3] (by kernel_rfl) rfl rfl ?_
      refine pre_rule Tryz.Yok (n := 156) (loc := Tryz.Y.loc 5) 100 [3, 140, 141, 142] (by kernel_rfl) ?_
      refine Eq.mpr (f5_9 [] [] [] [] [] [] [] [] [] [] _ _) ?_
      refine ⟨rfl, loop2 [3, 140, 141, 142] [3, 4, 140, 141, 142] rfl (by kernel_rfl) (fun m vs _ => vs = [.lb confT, .ts [] 0 none, .i .i64 ((0 : Nat) : Int), .i .i64 0]) 0 mk_len rfl ?_⟩
      rintro m vs h3 rfl
      refine all_rule Tryz.Yok (loc := Tryz.Y.loc 5) 100 [3, 4, 140, 141, 142] ?_
      refine Eq.mpr (f5_10 [] [] [] [] [] [] [] [] [] [] _ _) ?_
      refine roundW_exit [] (by kernel_rfl) rfl rfl ?_
      refine end_rule Tryz.Yok (loc := Tryz.Y.loc 5) 100 [4] ?_
      refine Eq.mpr (f5_11 _ _) ?_
      exact finV1 (.inr rfl) rfl (.b _) (by simp [smallM, h40, h9, hc, hp, hr])
theorem small5n (ins : List Ins) (ws : List Wat) (ps : List (Int × List Plc)) (lat mat : Int) : PCon Tryz.Y 5 [.agg (modC ins ws ps lat mat), .agg confN] (· = .b (smallM ins ws ps)) :=
  (small5 ins ws ps lat mat).wk (.agg _ _ _ _ (WkL.refl _) (.agg _ _ _ _ conf_wk .nil))
end Go.Y
