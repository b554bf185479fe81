/- Configurations as lines: the document's, by contracts. -/
import Derived.Test.YtfnpgefoikffdaaDoorGTell10
namespace Go.Y
open Go.Proofs Go.Lib
set_option maxRecDepth 100000
set_option linter.unusedVariables false
set_option linter.unusedSimpArgs false

def flatW (r : List (List UInt8)) : List UInt8 := (r.map ([32] ++ ·)).flatten
theorem flatW_append (a b : List (List UInt8)) : flatW (a ++ b) = flatW a ++ flatW b := by simp [flatW]
theorem flatW_cons (x : List UInt8) (r : List (List UInt8)) : flatW (x :: r) = [32] ++ x ++ flatW r := by simp [flatW]
theorem flatW_nil : flatW [] = [] := rfl
theorem lnS_flat (x : List UInt8) (r : List (List UInt8)) : lnS (x :: r) = x ++ flatW r ++ [10] := lnS_cons x r
theorem flatW_len (r : List (List UInt8)) : (flatW r).length ≤ sumL r := by
  induction r with
  | nil => simp [flatW]
  | cons a r ih => rw [flatW_cons]; simp only [List.length_append, List.length_cons, List.length_nil, sumL]; omega

def partS (w s : List UInt8) : List UInt8 := flatW (txtW w s)
theorem partS_len (w s : List UInt8) : (partS w s).length ≤ w.length + 4 * s.length + 4 := Nat.le_trans (flatW_len _) (sum_txt w s)
theorem part_con {w s : List UInt8} (hw : w.length ≤ 100) (hs : s.length ≤ 1000) : PCon Tryd.Y 28 [.s w, .s s] (· = .s (partS w s)) := by
  have hq := quoteS_len s
  refine tree_con Tryd.Yok (fn := Tryd.f28) (by kernel_rfl) (by kernel_rfl) rfl (fun K => f28_0 w s .empty K) rfl ?_
  refine if_mk (fun h => finV1 (.inr rfl) rfl (.s _) ?_) (fun h => ⟨by simp only [List.length_append, List.length_cons, List.length_nil]; omega, by simp only [List.length_append, List.length_cons, List.length_nil]; omega, _, rtext_con (by omega), by simp only [List.length_append, List.length_cons, List.length_nil]; omega, finV1 (.inr rfl) rfl (.s _) ?_⟩)
  · simp [partS, txtW, h, flatW]
  · simp [partS, txtW, h, flatW]

theorem rhead_con {c : Cfg} (hc : okCfg c) {G : Out → Nat → List V → Heap → Prop} (hK : G .normal 140 [.lb (cfgC c), .s (headS c), .i .i64 0] .empty) :
    ∀ s : List UInt8, s = modeS c.mode → ∃ s_1, PCon Tryd.Y 19 [.i .i64 c.pc] (fun v => v = .s s_1) ∧ s.length + s_1.length ≤ 1152921504606846976 ∧ If (c.mode == 3) (∃ s_2, PCon Tryd.Y 19 [.i .i64 c.err] (fun v => v = .s s_2) ∧ (s ++ s_1).length + s_2.length ≤ 1152921504606846976 ∧ (s ++ s_1 ++ s_2).length + ([10] : List UInt8).length ≤ 1152921504606846976 ∧ G .normal 140 [.lb (cfgC c), .s (s ++ s_1 ++ s_2 ++ [10]), .i .i64 0] .empty)
      ((s ++ s_1).length + ([10] : List UInt8).length ≤ 1152921504606846976 ∧ G .normal 140 [.lb (cfgC c), .s (s ++ s_1 ++ [10]), .i .i64 0] .empty) := by
  intro s hs
  have h1 := numS_len hc.pc
  have h2 := numS_len hc.err
  have h3 := modeS_len c.mode
  subst hs
  refine ⟨_, rnum_con hc.pc, by omega, if_mk (fun e => ⟨_, rnum_con hc.err, by simp only [List.length_append]; omega, by simp only [List.length_append, List.length_cons, List.length_nil]; omega, ?_⟩) (fun e => ⟨by simp only [List.length_append, List.length_cons, List.length_nil]; omega, ?_⟩)⟩
  · have : headS c = modeS c.mode ++ numS c.pc ++ numS c.err ++ [10] := by
      rw [headS, if_pos e]
      show lnS (modeS c.mode :: [itoa c.pc, itoa c.err]) = _
      rw [lnS_flat]; simp [flatW, numS]
    rw [← this]; exact hK
  · have : headS c = modeS c.mode ++ numS c.pc ++ [10] := by
      rw [headS, if_neg (by rw [e]; simp)]
      show lnS (modeS c.mode :: [itoa c.pc]) = _
      rw [lnS_flat]; simp [flatW, numS]
    rw [← this]; exact hK

/-- A side's line, up to its lines. -/
def preS (j : Nat) (s : Side) : List UInt8 := wpeer ++ numS (j : Nat) ++ numS s.place ++ numS s.clock ++ flatW (optW s.shut wshut) ++ flatW (optW s.eof weof) ++ partS wtyped s.typed ++ flatW (optW (ltI 0 (s.lines.length : Nat)) wlines)
theorem preS_len {j : Nat} {s : Side} (hi : okI (j : Nat)) (hs : okSd s) : (preS j s).length ≤ 5000 := by
  have n1 := numS_len hi
  have n2 := numS_len hs.place
  have n3 := numS_len hs.clock
  have n4 := partS_len wtyped s.typed
  have n5 := hs.typed
  have o1 := Nat.le_trans (flatW_len _) (sum_opt s.shut wshut)
  have o2 := Nat.le_trans (flatW_len _) (sum_opt s.eof weof)
  have o3 := Nat.le_trans (flatW_len _) (sum_opt (ltI 0 (s.lines.length : Nat)) wlines)
  have l1 : wpeer.length = 4 := rfl
  have l2 : wshut.length = 4 := rfl
  have l3 : weof.length = 3 := rfl
  have l4 : wlines.length = 5 := rfl
  have l5 : wtyped.length = 5 := rfl
  simp only [preS, List.length_append]; omega

theorem lnS_side (j : Nat) (s : Side) : lnS (sideW (j : Nat) s) = preS j s ++ flatW (s.lines.map quoteS) ++ (partS wfly s.fly ++ partS wready s.ready ++ partS wbuffer s.buffer) ++ [10] := by
  have : sideW (j : Nat) s = wpeer :: ([itoa (j : Nat), itoa s.place, itoa s.clock] ++ optW s.shut wshut ++ optW s.eof weof ++ txtW wtyped s.typed ++ optW (ltI 0 (s.lines.length : Nat)) wlines ++ s.lines.map quoteS ++ (txtW wfly s.fly ++ txtW wready s.ready ++ txtW wbuffer s.buffer)) := rfl
  rw [this, lnS_flat]
  simp only [preS, partS, flatW_append, flatW_cons, flatW_nil, numS, List.append_assoc, List.cons_append, List.nil_append, List.append_nil]

set_option maxHeartbeats 2000000 in
theorem rconfig_con {c : Cfg} (hc : okCfg c) : PCon Tryd.Y 10 [.agg (cfgC c)] (· = .s (cfgS c)) := by
  refine pcon_of Tryd.Yok (fn := Tryd.f10) (by kernel_rfl) (by kernel_rfl) rfl ?_
  have h1 := itoa_len hc.pc
  have h2 := itoa_len hc.err
  have h3 := modeS_len c.mode
  have h4 := headS_len hc
  have hvl := hc.vlen
  have hsl := hc.slen
  refine pre_tree Tryd.Yok 140 (fun K => f10_0 c.pc (row encVr c.vars) c.vars.length c.c0 c.c1 c.c2 c.c3 c.c4 c.c5 c.c6 c.c7 c.c8 c.c9 (row encI c.stack) c.stack.length c.mode c.err c.use c.timeout c.elapsed (row encI c.before) c.before.length (row encI c.after) c.after.length (row sideC c.sides) c.sides.length .empty K) rfl (by kernel_rfl) ?_
  generalize hG : PreV Tryd.Y 140 [1, 3, 4] _ _ = G
  suffices hK : G .normal 140 [.lb (cfgC c), .s (headS c), .i .i64 0] .empty by
    have hd := rhead_con hc hK
    refine if_le (fun e1 => if_le (fun e2 => ⟨⟨e1, by omega⟩, modeS c.mode, ?_, hd _ rfl⟩) (fun e2 => hd _ ?_)) (fun e1 => hd _ ?_)
    · obtain h | h | h | h : c.mode = 0 ∨ c.mode = 1 ∨ c.mode = 2 ∨ c.mode = 3 := by omega
      all_goals rw [h]; rfl
    · simp [modeS, show c.mode ≠ 0 by omega, show c.mode ≠ 1 by omega, show c.mode ≠ 2 by omega, show c.mode ≠ 3 by omega]
    · simp [modeS, show c.mode ≠ 0 by omega, show c.mode ≠ 1 by omega, show c.mode ≠ 2 by omega, show c.mode ≠ 3 by omega]
  subst hG
  refine ⟨rfl, loop2 [1, 3, 4] [1, 3, 4] rfl (by kernel_rfl) (fun m vs _ => ∃ i : Nat, vs = [.lb (cfgC c), .s (headS c ++ varsS (c.vars.take i)), .i .i64 (i : Nat)] ∧ i ≤ c.vars.length ∧ m = c.vars.length - i) c.vars.length mk_len ⟨0, by rw [show varsS (c.vars.take 0) = [] from rfl, List.append_nil]; rfl, by omega, by omega⟩ ?_⟩
  rintro m vs h ⟨i, rfl, hi, rfl⟩
  have hvt : (varsS (c.vars.take i)).length ≤ 600000 := by
    have := varsS_len (l := c.vars.take i) fun v hv => hc.var v (List.mem_of_mem_take hv)
    have : (c.vars.take i).length ≤ 100 := by simp; omega
    omega
  refine all_tree Tryd.Yok (fun K => f10_1 c.pc (row encVr c.vars) c.vars.length (row encI c.stack) c.stack.length c.mode c.err c.use c.timeout c.elapsed (row encI c.before) c.before.length (row encI c.after) c.after.length (row sideC c.sides) c.sides.length c.c0 c.c1 c.c2 c.c3 c.c4 c.c5 c.c6 c.c7 c.c8 c.c9 _ (i : Nat) h K) rfl ?_
  refine if_lt_nat (fun hlt => ?_) (fun hge => ?_)
  · have hv := hc.var _ (List.getElem_mem hlt)
    have hq := quoteS_len c.vars[i].2
    have hvS : varS c.vars[i] = [115, 101, 116, 32] ++ c.vars[i].1 ++ [32] ++ quoteS c.vars[i].2 ++ [10] := by
      show lnS (wset :: [c.vars[i].1, quoteS c.vars[i].2]) = _
      rw [lnS_flat]; simp [flatW, wset]
    refine ⟨by simp only [List.length_append, List.length_cons, List.length_nil]; omega, bnd_nat hlt, _, getVr0 c.vars hlt, by simp only [List.length_append, List.length_cons, List.length_nil]; omega, by simp only [List.length_append, List.length_cons, List.length_nil]; omega, bnd_nat hlt, _, getVr1 c.vars hlt, _, rtext_con (by omega), by simp only [List.length_append, List.length_cons, List.length_nil]; omega, by simp only [List.length_append, List.length_cons, List.length_nil]; omega, rfl, c.vars.length - (i + 1), by omega, i + 1, ?_, by omega, rfl⟩
    have e : headS c ++ varsS (c.vars.take (i + 1)) = headS c ++ varsS (c.vars.take i) ++ [115, 101, 116, 32] ++ c.vars[i].1 ++ [32] ++ quoteS c.vars[i].2 ++ [10] := by
      rw [List.take_succ_eq_append_getElem hlt, varsS_snoc, hvS]; simp
    rw [wrap_succ (by omega), e]; rfl
  refine roundW_exit [1, 3] (by kernel_rfl) rfl rfl ?_
  rw [List.take_of_length_le hge] at hvt ⊢
  refine pre_tree Tryd.Yok 140 (fun K => f10_2 c.pc (row encVr c.vars) c.vars.length (row encI c.stack) c.stack.length c.mode c.err c.use c.timeout c.elapsed (row encI c.before) c.before.length (row encI c.after) c.after.length (row sideC c.sides) c.sides.length c.c0 c.c1 c.c2 c.c3 c.c4 c.c5 c.c6 c.c7 c.c8 c.c9 (headS c ++ varsS c.vars) h K) rfl (by kernel_rfl) ?_
  refine ⟨rfl, loop2 [1, 3, 5] [1, 3, 5] rfl (by kernel_rfl) (fun m vs _ => ∃ j : Nat, vs = [.lb (cfgC c), .s (headS c ++ varsS c.vars ++ sidesN c.sides j), .i .i64 (j : Nat)] ∧ j ≤ c.sides.length ∧ m = c.sides.length - j) c.sides.length mk_len ⟨0, by rw [show sidesN c.sides 0 = [] from rfl, List.append_nil]; rfl, by omega, by omega⟩ ?_⟩
  rintro m vs h ⟨j, rfl, hj, rfl⟩
  have hsn := sidesN_len hc.side j hj (by omega)
  generalize hd : headS c ++ varsS c.vars ++ sidesN c.sides j = done
  have hdl : done.length ≤ 11000000 := by rw [← hd]; simp only [List.length_append]; omega
  refine pre_tree Tryd.Yok 140 (fun K => f10_3 c.pc (row encVr c.vars) c.vars.length (row encI c.stack) c.stack.length c.mode c.err c.use c.timeout c.elapsed (row encI c.before) c.before.length (row encI c.after) c.after.length (row sideC c.sides) c.sides.length c.c0 c.c1 c.c2 c.c3 c.c4 c.c5 c.c6 c.c7 c.c8 c.c9 done (j : Nat) h K) rfl (by kernel_rfl) ?_
  refine if_lt_nat (fun hlt => ?_) (fun hge => ?_)
  · have hs := hc.side _ (List.getElem_mem hlt)
    have hnext : sidesN c.sides (j + 1) = sidesN c.sides j ++ oneSd j c.sides[j] := by rw [sidesN, List.getElem?_eq_getElem hlt]
    generalize hS : c.sides[j] = s at hs hnext
    have hi : okI ((j : Nat) : Int) := okI_nat (n := j) (by omega)
    have n1 := numS_len hi
    have n2 := numS_len hs.place
    have n3 := numS_len hs.clock
    have n4 := partS_len wtyped s.typed
    have n5 := hs.typed
    have lw : wtyped.length = 5 ∧ wfly.length = 3 ∧ wready.length = 5 ∧ wbuffer.length = 6 := ⟨rfl, rfl, rfl, rfl⟩
    generalize hR : RoundW Tryd.Y 140 [1, 3, 5] [1, 3, 5] _ _ _ _ _ = R
    have hRn : ∀ (str : List UInt8) (h : Heap), str = done ++ oneSd j s → R .normal 140 [.lb (cfgC c), .s str, .i .i64 (IntKind.i64.wrap ((j : Nat) + 1))] h := by
      intro str h e
      subst hR e
      refine ⟨rfl, c.sides.length - (j + 1), by omega, j + 1, ?_, by omega, rfl⟩
      rw [wrap_succ (by omega), hnext, ← List.append_assoc, hd]; rfl
    clear hR
    have rest : ∀ (str : List UInt8) (h : Heap), str = done ++ oneSd j s → TriL Tryd.Y ((post (flat (loopB (post ((post (flat (bodyOf Tryd.f10))).drop 1))))).drop 1) ⟨mk 140 (([1, 3, 5] : List Nat).zip [.lb (cfgC c), .s str, .i .i64 (j : Nat)]), [], h⟩ (VQ [1, 3, 5] R) := fun str h e =>
      all_tree Tryd.Yok (fun K => f10_7 c.pc (row encVr c.vars) c.vars.length (row encI c.stack) c.stack.length c.mode c.err c.use c.timeout c.elapsed (row encI c.before) c.before.length (row encI c.after) c.after.length (row sideC c.sides) c.sides.length (j : Nat) c.c0 c.c1 c.c2 c.c3 c.c4 c.c5 c.c6 c.c7 c.c8 c.c9 str h K) rfl (hRn str h e)
    refine ⟨rfl, block2 (n := 140) [1, 3, 5, 6, 7] (by kernel_rfl) ?_⟩
    refine pre_tree Tryd.Yok 140 (fun K => f10_4 c.pc (row encVr c.vars) c.vars.length (row encI c.stack) c.stack.length c.mode c.err c.use c.timeout c.elapsed (row encI c.before) c.before.length (row encI c.after) c.after.length (row sideC c.sides) c.sides.length c.c0 c.c1 c.c2 c.c3 c.c4 c.c5 c.c6 c.c7 c.c8 c.c9 done (j : Nat) h K) rfl (by kernel_rfl) ?_
    refine ⟨bnd_nat hlt, _, _, _, _, _, _, _, _, _, _, _, _, _, _, _, by rw [getSd c.sides hlt, hS], ?_⟩
    refine if_mk (fun hoff => ?_) (fun hon => ?_)
    · have hoff : s.on = false := by simpa using hoff
      refine at_pick rfl ?_
      exact contW_exit [1, 3, 5] (by kernel_rfl) rfl rfl (rest _ _ (by simp [oneSd, hoff]))
    have hon : s.on = true := by simpa using hon
    generalize hG : PreV Tryd.Y 140 [1, 3, 5, 6, 7] _ _ = G
    suffices hK : ∀ str : List UInt8, str = done ++ preS j s → G .normal 140 [.lb (cfgC c), .s str, .i .i64 (j : Nat), .lb (sideC s), .i .i64 0] h by
      refine ⟨by simp only [List.length_append, List.length_cons, List.length_nil]; omega, _, rnum_con hi, by simp only [List.length_append, List.length_cons, List.length_nil]; omega, _, rnum_con hs.place, by simp only [List.length_append, List.length_cons, List.length_nil]; omega, _, rnum_con hs.clock, by simp only [List.length_append, List.length_cons, List.length_nil]; omega, ?_⟩
      have hp : PCon Tryd.Y 28 [.s ([116, 121, 112, 101, 100] : List UInt8), .s s.typed] (· = .s (partS wtyped s.typed)) := part_con (w := wtyped) (by simp [wtyped]) n5
      repeat' first
        | with_reducible refine if_mk (fun _ => ?_) (fun _ => ?_)
        | with_reducible refine hK _ ?_
        | with_reducible refine ⟨_, hp, ?_⟩
        | with_reducible refine And.intro (by simp only [List.length_append, List.length_cons, List.length_nil]; omega) ?_
      all_goals simp only [preS, optW, *, if_true, if_false, Bool.false_eq_true]
      all_goals simp [flatW, wpeer, wshut, weof, wlines]
    subst hG
    intro str hstr
    have hpl := preS_len hi hs
    refine ⟨rfl, loop2 [1, 3, 5, 6, 7] [1, 3, 5, 6, 7] rfl (by kernel_rfl) (fun m vs _ => ∃ k : Nat, vs = [.lb (cfgC c), .s (str ++ flatW ((s.lines.take k).map quoteS)), .i .i64 (j : Nat), .lb (sideC s), .i .i64 (k : Nat)] ∧ k ≤ s.lines.length ∧ m = s.lines.length - k) s.lines.length mk_len ⟨0, by rw [show flatW ((s.lines.take 0).map quoteS) = [] from rfl, List.append_nil]; rfl, by omega, by omega⟩ ?_⟩
    rintro m vs h ⟨k, rfl, hk, rfl⟩
    have hll := hs.lines
    have hfl : (flatW ((s.lines.take k).map quoteS)).length ≤ 500000 := by
      have h1 := flatW_len ((s.lines.take k).map quoteS)
      have h2 := sum_quote (l := s.lines.take k) fun x hx => hs.line x (List.mem_of_mem_take hx)
      have : (s.lines.take k).length ≤ 100 := by simp; omega
      omega
    have hsl2 : str.length ≤ 11000000 + 5000 := by rw [hstr, List.length_append]; omega
    refine all_tree Tryd.Yok (fun K => f10_5 c.pc (row encVr c.vars) c.vars.length (row encI c.stack) c.stack.length c.mode c.err c.use c.timeout c.elapsed (row encI c.before) c.before.length (row encI c.after) c.after.length (row sideC c.sides) c.sides.length (j : Nat) c.c0 c.c1 c.c2 c.c3 c.c4 c.c5 c.c6 c.c7 c.c8 c.c9 _ s.on s.shut s.eof s.place s.clock s.typed none (row encT s.lines) s.lines.length s.fly none (row encI s.ages) s.ages.length s.ready s.buffer (k : Nat) h K) rfl ?_
    refine if_lt_nat (fun hlt2 => ?_) (fun hge => ?_)
    · have hx := hs.line _ (List.getElem_mem hlt2)
      have hq := quoteS_len s.lines[k]
      refine ⟨by simp only [List.length_append, List.length_cons, List.length_nil]; omega, bnd_nat hlt2, s.lines[k], by rw [Int.toNat_natCast]; exact row_get (f := encT) (k := 1) encT_len hlt2, _, rtext_con (by omega), by simp only [List.length_append, List.length_cons, List.length_nil]; omega, rfl, s.lines.length - (k + 1), by omega, k + 1, ?_, by omega, rfl⟩
      have e : str ++ flatW ((s.lines.take (k + 1)).map quoteS) = str ++ flatW ((s.lines.take k).map quoteS) ++ [32] ++ quoteS s.lines[k] := by
        rw [List.take_succ_eq_append_getElem hlt2, List.map_append, flatW_append]; simp [flatW]
      rw [wrap_succ (by omega), e]; rfl
    refine roundW_exit [1, 3, 5, 6] (by kernel_rfl) rfl rfl ?_
    rw [List.take_of_length_le hge] at hfl ⊢
    have p1 := partS_len wfly s.fly
    have p2 := partS_len wready s.ready
    have p3 := partS_len wbuffer s.buffer
    have q1 := hs.fly; have q2 := hs.ready; have q3 := hs.buffer
    refine two_tree Tryd.Yok (fun K => f10_6 c.pc (row encVr c.vars) c.vars.length (row encI c.stack) c.stack.length c.mode c.err c.use c.timeout c.elapsed (row encI c.before) c.before.length (row encI c.after) c.after.length (row sideC c.sides) c.sides.length (j : Nat) s.place s.clock none (row encT s.lines) s.lines.length none (row encI s.ages) s.ages.length c.c0 c.c1 c.c2 c.c3 c.c4 c.c5 c.c6 c.c7 c.c8 c.c9 _ s.on s.shut s.eof s.typed s.fly s.ready s.buffer h K) rfl ?_
    refine ⟨_, part_con (w := wfly) (by simp [wfly]) q1, by simp only [List.length_append]; omega, _, part_con (w := wready) (by simp [wready]) q2, by simp only [List.length_append]; omega, _, part_con (w := wbuffer) (by simp [wbuffer]) q3, by simp only [List.length_append]; omega, by simp only [List.length_append, List.length_cons, List.length_nil]; omega, ?_⟩
    intro vs2 ht
    refine contW_two (sl' := [1, 3, 5]) ht rfl rfl rfl (rest _ _ ?_)
    rw [oneSd, if_pos hon, hstr]
    rw [lnS_side]
    simp only [List.append_assoc]
  · refine at_pick rfl (roundW_exit [3] (by kernel_rfl) rfl rfl ?_)
    have : j = c.sides.length := by omega
    subst this
    exact end_tree Tryd.Yok (fun K => f10_8 done h K) rfl (finV1 (.inr rfl) rfl (.s _) (by rw [← hd]; rfl))
end Go.Y
