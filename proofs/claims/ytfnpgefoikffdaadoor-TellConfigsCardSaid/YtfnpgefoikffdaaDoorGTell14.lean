/- Which configurations the law is about, by contracts; the law of configurations. -/
import Derived.Test.YtfnpgefoikffdaaDoorGWkD
namespace Go.Y
open Go.Proofs Go.Lib
set_option maxRecDepth 100000
set_option linter.unusedVariables false
set_option linter.unusedSimpArgs false

def smallLn (s : List UInt8) : Bool := decide (s.length ≤ 60)
def smallAge (a : Int) : Bool := decide (a ≤ 1152921504606846976)
def smallSd (s : Side) : Bool := decide (s.typed.length ≤ 100) && decide (s.fly.length ≤ 40) && decide (s.ready.length ≤ 100) && decide (s.buffer.length ≤ 100) && decide (s.lines.length ≤ 6) && decide (s.ages.length ≤ 40) && decide (s.clock ≤ 1152921504606846976) &&
  s.lines.all smallLn && s.ages.all smallAge

theorem smallSd_con (s : Side) : PCon Tryd.Y 25 [.agg (sideC s)] (· = .b (smallSd s)) := by
  refine pcon_of Tryd.Yok (fn := Tryd.f25) (by kernel_rfl) (by kernel_rfl) rfl ?_
  refine pre_rule Tryd.Yok (n := 67) (loc := Tryd.Y.loc 25) 100 [1, 2, 47, 48, 49] (by kernel_rfl) ?_
  refine Eq.mpr (f25_0 s.on s.shut s.eof s.place s.clock s.typed (row encT s.lines) s.lines.length s.fly (row encI s.ages) s.ages.length s.ready s.buffer .empty _) ?_
  have no : ∀ h, smallSd s = false → ∃ r, Frz h (.b false) r ∧ r = .b (smallSd s) := fun h e => ⟨_, .b _, by rw [e]⟩
  refine if_lt (fun g => fin_at (.inr rfl) rfl (no _ (by simp [smallSd, show ¬ s.typed.length ≤ 100 by omega]))) (fun g1 => ?_)
  refine if_lt (fun g => fin_at (.inr rfl) rfl (no _ (by simp [smallSd, show ¬ s.fly.length ≤ 40 by omega]))) (fun g2 => ?_)
  refine if_lt (fun g => fin_at (.inr rfl) rfl (no _ (by simp [smallSd, show ¬ s.ready.length ≤ 100 by omega]))) (fun g3 => ?_)
  refine if_lt (fun g => fin_at (.inr rfl) rfl (no _ (by simp [smallSd, show ¬ s.buffer.length ≤ 100 by omega]))) (fun g4 => ?_)
  refine if_lt (fun g => fin_at (.inr rfl) rfl (no _ (by simp [smallSd, show ¬ s.lines.length ≤ 6 by omega]))) (fun g5 => ?_)
  refine if_lt (fun g => fin_at (.inr rfl) rfl (no _ (by simp [smallSd, show ¬ s.ages.length ≤ 40 by omega]))) (fun g6 => ?_)
  refine if_lt (fun g => fin_at (.inr rfl) rfl (no _ (by simp [smallSd, show ¬ s.clock ≤ 1152921504606846976 by omega]))) (fun g7 => ?_)
  refine ⟨rfl, loop2 [1, 47, 48, 49] [1, 2, 47, 48, 49] rfl (by kernel_rfl) (fun m vs _ => ∃ i : Nat, vs = [.lb (sideC s), lst encT s.lines, .i .i64 s.lines.length, .i .i64 (i : Nat)] ∧ i ≤ s.lines.length ∧ m = s.lines.length - i ∧ (s.lines.take i).all smallLn = true) s.lines.length mk_len ⟨0, rfl, by omega, by omega, by simp⟩ ?_⟩
  rintro m vs h ⟨i, rfl, hi, rfl, hp⟩
  refine all_rule Tryd.Yok (loc := Tryd.Y.loc 25) 100 [1, 2, 47, 48, 49] ?_
  refine Eq.mpr (f25_1 s.on s.shut s.eof s.place s.clock s.typed (row encT s.lines) s.lines.length s.fly (row encI s.ages) s.ages.length s.ready s.buffer (i : Nat) h _) ?_
  refine if_lt_nat (fun hlt => ?_) (fun hge => ?_)
  · refine ⟨bnd_nat hlt, s.lines[i], by rw [Int.toNat_natCast]; exact row_get (f := encT) (k := 1) encT_len hlt, if_lt (fun hc => ?_) (fun hc => ?_)⟩
    · have : smallLn s.lines[i] = false := by unfold smallLn; simp; omega
      have := all_no (p := smallLn) hlt this
      exact fin_at (.inr rfl) rfl (no _ (by simp [smallSd, this]))
    · exact ⟨rfl, s.lines.length - (i + 1), by omega, i + 1, by rw [wrap_succ (by omega)]; rfl, by omega, rfl, all_snoc hlt hp (by unfold smallLn; simp; omega)⟩
  rw [List.take_of_length_le hge] at hp
  refine roundW_exit [1] (by kernel_rfl) rfl rfl ?_
  refine pre_rule Tryd.Yok (n := 67) (loc := Tryd.Y.loc 25) 100 [58, 59, 60] (by kernel_rfl) ?_
  refine Eq.mpr (f25_2 s.on s.shut s.eof s.place s.clock (row encT s.lines) s.lines.length (row encI s.ages) s.ages.length s.typed s.fly s.ready s.buffer h _) ?_
  refine ⟨rfl, loop2 [58, 59, 60] [2, 58, 59, 60] rfl (by kernel_rfl) (fun m vs _ => ∃ i : Nat, vs = [lst encI s.ages, .i .i64 s.ages.length, .i .i64 (i : Nat)] ∧ i ≤ s.ages.length ∧ m = s.ages.length - i ∧ (s.ages.take i).all smallAge = true) s.ages.length mk_len ⟨0, rfl, by omega, by omega, by simp⟩ ?_⟩
  rintro m vs h ⟨i, rfl, hi, rfl, hq⟩
  refine all_rule Tryd.Yok (loc := Tryd.Y.loc 25) 100 [2, 58, 59, 60] ?_
  refine Eq.mpr (f25_3 (row encI s.ages) s.ages.length (i : Nat) h _) ?_
  refine if_lt_nat (fun hlt => ?_) (fun hge => ?_)
  · refine ⟨bnd_nat hlt, s.ages[i], by rw [Int.toNat_natCast]; exact row_get (f := encI) (k := 1) encI_len hlt, if_lt (fun hc => ?_) (fun hc => ?_)⟩
    · have : smallAge s.ages[i] = false := by unfold smallAge; simp; omega
      have := all_no (p := smallAge) hlt this
      exact fin_at (.inr rfl) rfl (no _ (by simp [smallSd, this]))
    · exact ⟨rfl, s.ages.length - (i + 1), by omega, i + 1, by rw [wrap_succ (by omega)]; rfl, by omega, rfl, all_snoc hlt hq (by unfold smallAge; simp; omega)⟩
  rw [List.take_of_length_le hge] at hq
  refine roundW_exit [] (by kernel_rfl) rfl rfl ?_
  refine end_rule Tryd.Yok (loc := Tryd.Y.loc 25) 100 [2] ?_
  refine Eq.mpr (f25_4 h _) ?_
  refine finV1 (.inr rfl) rfl (.b _) ?_
  have k1 : s.typed.length ≤ 100 := by omega
  have k2 : s.fly.length ≤ 40 := by omega
  have k3 : s.ready.length ≤ 100 := by omega
  have k4 : s.buffer.length ≤ 100 := by omega
  have k5 : s.lines.length ≤ 6 := by omega
  have k6 : s.ages.length ≤ 40 := by omega
  have k7 : s.clock ≤ 1152921504606846976 := by omega
  simp only [smallSd, k1, k2, k3, k4, k5, k6, k7, hp, hq, decide_true, Bool.true_and, Bool.and_true]

def smallVr (v : List UInt8 × List UInt8) : Bool := !ltI 60 (v.1.length : Nat) && !ltI 60 (v.2.length : Nat)
def smallVs (l : List (List UInt8 × List UInt8)) : Bool := !ltI 20 (l.length : Nat) && l.all smallVr
theorem smallVs_con (l : List (List UInt8 × List UInt8)) : PCon Tryd.Y 23 [lst encVr l] (· = .b (smallVs l)) := by
  refine pcon_of Tryd.Yok (fn := Tryd.f23) (by kernel_rfl) (by kernel_rfl) rfl ?_
  refine pre_tree Tryd.Yok 25 (fun K => f23_0 (row encVr l) l.length .empty K) rfl (by kernel_rfl) ?_
  have no : ∀ h, smallVs l = false → ∃ r, Frz h (.b false) r ∧ r = .b (smallVs l) := fun h e => ⟨_, .b _, by rw [e]⟩
  refine if_mk (fun g => fin_at (.inr rfl) rfl (no _ (by simp [smallVs, g]))) (fun g => ?_)
  refine ⟨rfl, loop2 [8, 9, 10] [2, 8, 9, 10] rfl (by kernel_rfl) (fun m vs _ => ∃ i : Nat, vs = [lst encVr l, .i .i64 l.length, .i .i64 (i : Nat)] ∧ i ≤ l.length ∧ m = l.length - i ∧ (l.take i).all smallVr = true) l.length mk_len ⟨0, rfl, by omega, by omega, by simp⟩ ?_⟩
  rintro m vs h ⟨i, rfl, hi, rfl, hp⟩
  have h20 : l.length ≤ 20 := by simp [ltI] at g; omega
  refine all_tree Tryd.Yok (fun K => f23_1 (row encVr l) l.length (i : Nat) h K) rfl ?_
  refine if_lt_nat (fun hlt => ?_) (fun hge => ?_)
  · have bad : smallVr l[i] = false → smallVs l = false := fun e => by
      have := all_no (p := smallVr) hlt e
      simp [smallVs, this]
    refine ⟨bnd_nat hlt, _, _, getVr l hlt, if_mk (fun e => fin_at (.inr rfl) rfl (no _ (bad (by simp [smallVr, e])))) (fun e => if_mk (fun e2 => fin_at (.inr rfl) rfl (no _ (bad (by simp [smallVr, e2])))) (fun e2 => ?_))⟩
    exact ⟨rfl, l.length - (i + 1), by omega, i + 1, by rw [wrap_succ (by omega)]; rfl, by omega, rfl, all_snoc hlt hp (by simp [smallVr, e, e2])⟩
  · refine roundW_exit [] (by kernel_rfl) rfl rfl ?_
    rw [List.take_of_length_le hge] at hp
    exact end_tree Tryd.Yok (fun K => f23_2 h K) rfl (finV1 (.inr rfl) rfl (.b _) (by simp [smallVs, g, hp]))

def smallS2 (s : Side) : Bool := smallSd s && !ltI 70 (s.buffer.length : Nat)
def smallC (c : Cfg) : Bool := smallVs c.vars && !ltI 9 (c.sides.length : Nat) && !ltI 9 (c.stack.length : Nat) && !ltI 20 (IntKind.i64.wrap ((c.before.length : Nat) + (c.after.length : Nat))) && !ltI 1152921504606846976 c.elapsed && c.sides.all smallS2

theorem nokn : KOK Tryd.Y (fun _ _ _ => none) := by
  refine ⟨fun f args h v h' hv => by simp at hv, fun f args h v x hm _ => ?_⟩
  have hall : (Tryd.modes.all fun p => p != 5) = true := by kernel_rfl
  have h2 : Tryd.modes.getD f 0 = 5 := hm
  rw [List.getD_eq_getElem?_getD] at h2
  cases h3 : Tryd.modes[f]? with
  | none => rw [h3] at h2; cases h2
  | some m =>
    rw [h3] at h2
    rw [List.all_eq_true] at hall
    have := hall m (List.mem_of_getElem? h3)
    have h2 : m = 5 := h2
    subst h2
    simp at this
theorem small22 : PCon Tryd.Y 22 [.agg [.ts [] 0 none, .ts [] 0 none], .sl none 0 (some 0) 0] (· = .b true) := callN_ok Tryd.Yok nokn (n := 50) (by kernel_rfl) rfl

theorem small8 (c : Cfg) : PCon Tryd.Y 8 [.agg [.ts [] 0 none, .ts [] 0 none, .ts [] 0 none, .i .i64 0, .i .i64 0], .agg (cfgC c)] (· = .b (smallC c)) := by
  refine pcon_of Tryd.Yok (fn := Tryd.f8) (by kernel_rfl) (by kernel_rfl) rfl ?_
  refine pre_tree Tryd.Yok 156 (fun K => f8_0 [] 0 [] 0 [] 0 0 0 c.pc (row encVr c.vars) c.vars.length c.c0 c.c1 c.c2 c.c3 c.c4 c.c5 c.c6 c.c7 c.c8 c.c9 (row encI c.stack) c.stack.length c.mode c.err c.use c.timeout c.elapsed (row encI c.before) c.before.length (row encI c.after) c.after.length (row sideC c.sides) c.sides.length .empty K) rfl (by kernel_rfl) ?_
  have no : ∀ h, smallC c = false → ∃ r, Frz h (.b false) r ∧ r = .b (smallC c) := fun h e => ⟨_, .b _, by rw [e]⟩
  have nof : ∀ (vs : List V) (h : Heap) (so : List Nat), smallC c = false → resV Tryd.Y Tryd.f8 (so.zip vs) = some (.b false) → AtV so (FinS Tryd.Y Tryd.f8 fun v h => ∃ r, Frz h v r ∧ r = .b (smallC c)) .ret 156 vs h := fun vs h so hne hv => fin_at (.inr rfl) hv (no h hne)
  refine if_mk (fun g => absurd g (by decide)) (fun _ => if_mk (fun g => absurd g (by decide)) (fun _ => ⟨_, small22, if_mk (fun g => by cases g) (fun _ => ⟨_, smallVs_con c.vars, ?_⟩)⟩))
  refine if_mk (fun g => nof _ _ _ (by have : smallVs c.vars = false := by simpa using g
                                       simp [smallC, this]) rfl) (fun g0 => ?_)
  refine if_mk (fun g => nof _ _ _ (by simp [smallC, g]) rfl) (fun g1 => ?_)
  refine if_mk (fun g => nof _ _ _ (by simp [smallC, g]) rfl) (fun g2 => ?_)
  refine if_mk (fun g => nof _ _ _ (by simp only [smallC, g]; simp) rfl) (fun g3 => ?_)
  refine if_mk (fun g => nof _ _ _ (by simp only [smallC, g]; simp) rfl) (fun g4 => ?_)
  have g0 : smallVs c.vars = true := by simpa using g0
  have hsl : c.sides.length ≤ 9 := by simp [ltI] at g1; omega
  have all' : c.sides.all smallS2 = false → smallC c = false := fun e => by simp only [smallC, e, Bool.and_false]
  refine ⟨rfl, loop2 [2, 3, 4, 10, 16, 67, 68, 69] [2, 3, 4, 10, 16, 67, 68, 69] rfl (by kernel_rfl) (fun m vs _ => m = 0 ∧ vs = [.lb [.ts [] 0 none, .ts [] 0 none, .ts [] 0 none, .i .i64 0, .i .i64 0], .lb (cfgC c), .b false, .undef, .rf, .ts [] 0 none, .i .i64 (0 : Nat), .i .i64 0]) 0 mk_len ⟨rfl, rfl⟩ ?_⟩
  rintro m vs h ⟨rfl, rfl⟩
  refine pre_tree Tryd.Yok 156 (fun K => f8_1 [] 0 [] 0 [] 0 0 0 c.pc (row encVr c.vars) c.vars.length c.c0 c.c1 c.c2 c.c3 c.c4 c.c5 c.c6 c.c7 c.c8 c.c9 (row encI c.stack) c.stack.length c.mode c.err c.use c.timeout c.elapsed (row encI c.before) c.before.length (row encI c.after) c.after.length (row sideC c.sides) c.sides.length false .undef 0 h K) rfl (by kernel_rfl) ?_
  refine if_mk (fun g => absurd g (by decide)) (fun _ => ?_)
  refine at_pick rfl (roundW_exit [2, 3] (by kernel_rfl) rfl rfl ?_)
  refine pre_tree Tryd.Yok 156 (fun K => f8_7 [] 0 [] 0 [] 0 0 0 c.pc (row encVr c.vars) c.vars.length (row encI c.stack) c.stack.length c.mode c.err c.use c.timeout c.elapsed (row encI c.before) c.before.length (row encI c.after) c.after.length (row sideC c.sides) c.sides.length c.c0 c.c1 c.c2 c.c3 c.c4 c.c5 c.c6 c.c7 c.c8 c.c9 h K) rfl (by kernel_rfl) ?_
  refine ⟨rfl, loop2 [3, 129, 130, 131] [3, 4, 129, 130, 131] rfl (by kernel_rfl) (fun m vs _ => m = 0 ∧ vs = [.lb (cfgC c), .ts [] 0 none, .i .i64 (0 : Nat), .i .i64 0]) 0 mk_len ⟨rfl, rfl⟩ ?_⟩
  rintro m vs h ⟨rfl, rfl⟩
  refine all_tree Tryd.Yok (fun K => f8_8 [] 0 c.pc (row encVr c.vars) c.vars.length (row encI c.stack) c.stack.length c.mode c.err c.use c.timeout c.elapsed (row encI c.before) c.before.length (row encI c.after) c.after.length (row sideC c.sides) c.sides.length c.c0 c.c1 c.c2 c.c3 c.c4 c.c5 c.c6 c.c7 c.c8 c.c9 0 h K) rfl ?_
  refine if_mk (fun g => absurd g (by decide)) (fun _ => ?_)
  refine roundW_exit [3] (by kernel_rfl) rfl rfl ?_
  refine pre_tree Tryd.Yok 156 (fun K => f8_9 c.pc (row encVr c.vars) c.vars.length (row encI c.stack) c.stack.length c.mode c.err c.use c.timeout c.elapsed (row encI c.before) c.before.length (row encI c.after) c.after.length (row sideC c.sides) c.sides.length c.c0 c.c1 c.c2 c.c3 c.c4 c.c5 c.c6 c.c7 c.c8 c.c9 h K) rfl (by kernel_rfl) ?_
  refine ⟨rfl, loop2 [3, 140, 141, 142] [3, 4, 140, 141, 142] rfl (by kernel_rfl) (fun m vs _ => ∃ i : Nat, vs = [.lb (cfgC c), lst sideC c.sides, .i .i64 c.sides.length, .i .i64 (i : Nat)] ∧ i ≤ c.sides.length ∧ m = c.sides.length - i ∧ (c.sides.take i).all smallS2 = true) c.sides.length mk_len ⟨0, rfl, by omega, by omega, by simp⟩ ?_⟩
  rintro m vs h ⟨i, rfl, hi, rfl, hp⟩
  refine all_tree Tryd.Yok (fun K => f8_10 c.pc (row encVr c.vars) c.vars.length (row encI c.stack) c.stack.length c.mode c.err c.use c.timeout c.elapsed (row encI c.before) c.before.length (row encI c.after) c.after.length (row sideC c.sides) c.sides.length c.c0 c.c1 c.c2 c.c3 c.c4 c.c5 c.c6 c.c7 c.c8 c.c9 (i : Nat) h K) rfl ?_
  refine if_lt_nat (fun hlt => ?_) (fun hge => ?_)
  · refine ⟨bnd_nat hlt, _, _, _, _, _, _, _, _, _, _, _, _, _, _, _, getSd c.sides hlt, _, smallSd_con c.sides[i], if_mk (fun e => nof _ _ _ (all' (all_no hlt ?_)) rfl) (fun e => if_mk (fun e2 => nof _ _ _ (all' (all_no hlt ?_)) rfl) (fun e2 => ?_))⟩
    · have : smallSd c.sides[i] = false := by simpa using e
      simp [smallS2, this]
    · simp only [smallS2, e2]; simp
    · have : smallSd c.sides[i] = true := by simpa using e
      exact ⟨rfl, c.sides.length - (i + 1), by omega, i + 1, by rw [wrap_succ (by omega)]; rfl, by omega, rfl, all_snoc hlt hp (by simp only [smallS2, this, e2]; simp)⟩
  · refine roundW_exit [] (by kernel_rfl) rfl rfl ?_
    rw [List.take_of_length_le hge] at hp
    exact end_tree Tryd.Yok (fun K => f8_11 h K) rfl (finV1 (.inr rfl) rfl (.b _) (by simp only [smallC, g0, g1, g2, g3, g4, hp]; rfl))

/-! ### the law -/
structure wfSd (s : Side) : Prop where
  place : okI s.place
  clock : okI s.clock
structure wfCfg (c : Cfg) : Prop where
  pc : okI c.pc
  err : okI c.err
  side : ∀ s ∈ c.sides, wfSd s

theorem okSd_of {s : Side} (h : wfSd s) (hs : smallS2 s = true) : okSd s := by
  simp only [smallS2, smallSd, Bool.and_eq_true, decide_eq_true_eq] at hs
  obtain ⟨⟨⟨⟨⟨⟨⟨⟨⟨h1, h2⟩, h3⟩, h4⟩, h5⟩, h6⟩, h7⟩, h8⟩, h9⟩, h10⟩ := hs
  refine ⟨h.place, h.clock, by omega, by omega, fun x hx => ?_, by omega, by omega, by omega⟩
  have := List.all_eq_true.1 h8 x hx
  simp [smallLn] at this; omega
theorem okCfg_of {c : Cfg} (h : wfCfg c) (hs : smallC c = true) : okCfg c := by
  simp only [smallC, smallVs, Bool.and_eq_true] at hs
  obtain ⟨⟨⟨⟨⟨⟨h1, h2⟩, h3⟩, h4⟩, h5⟩, h6⟩, h7⟩ := hs
  have e1 : c.vars.length ≤ 20 := by simp [ltI] at h1; omega
  have e3 : c.sides.length ≤ 9 := by simp [ltI] at h3; omega
  refine ⟨h.pc, h.err, by omega, fun v hv => ?_, by omega, fun s hs => okSd_of (h.side s hs) (List.all_eq_true.1 h7 s hs)⟩
  have := List.all_eq_true.1 h2 v hv
  simp [smallVr, ltI] at this; omega

theorem law4 {c : Cfg} (hc : wfCfg c) (s : List UInt8) : PCon Tryd.Y 4 [.agg (cfgC c), .s s] (· = .b true) := by
  refine tree_con Tryd.Yok (fn := Tryd.f4) (by kernel_rfl) (by kernel_rfl) rfl (fun K => f4_0 c.pc (row encVr c.vars) c.vars.length c.c0 c.c1 c.c2 c.c3 c.c4 c.c5 c.c6 c.c7 c.c8 c.c9 (row encI c.stack) c.stack.length c.mode c.err c.use c.timeout c.elapsed (row encI c.before) c.before.length (row encI c.after) c.after.length (row sideC c.sides) c.sides.length s .empty K) rfl ?_
  have sm : PCon Tryd.Y 8 [.agg [.sl none 0 (some 0) 0, .sl none 0 (some 0) 0, .sl none 0 (some 0) 0, .i .i64 0, .i .i64 0], .agg (cfgC c)] (· = .b (smallC c)) :=
    (small8 c).wkD (.cons _ _ _ _ (.agg _ _ (.cons _ _ _ _ (.nil _ _) (.cons _ _ _ _ (.nil _ _) (.cons _ _ _ _ (.nil _ _) (.cons _ _ _ _ (.same _) (.cons _ _ _ _ (.same _) .nil)))))) (.cons _ _ _ _ (.same _) .nil))
  refine ⟨_, awake5, if_mk (fun h => by cases h) (fun _ => ⟨_, sm, if_mk (fun _ => finV1 (.inr rfl) rfl (.b _) rfl) (fun e => if_lt (fun _ => finV1 (.inr rfl) rfl (.b _) rfl) (fun h60 => ?_))⟩)⟩
  have hok := okCfg_of hc (by simpa using e)
  refine ⟨_, config_con hok, _, rconfig_con hok, if_mk (fun _ => ⟨_, text_con (by omega), _, rtext_con (by omega), finV1 (.inr rfl) rfl (.b _) (by simp)⟩) (fun g => by simp at g)⟩
end Go.Y
