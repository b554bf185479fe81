/- Configurations as lines, by contracts. -/
import Derived.Test.YtfnpgefoikffdaaDoorGTell10
namespace Go.Y
open Go.Proofs Go.Lib
set_option maxRecDepth 100000
set_option linter.unusedVariables false
set_option linter.unusedSimpArgs false

structure Cfg where
  pc : Int
  vars : List (List UInt8 × List UInt8)
  c0 : List UInt8
  c1 : List UInt8
  c2 : List UInt8
  c3 : List UInt8
  c4 : List UInt8
  c5 : List UInt8
  c6 : List UInt8
  c7 : List UInt8
  c8 : List UInt8
  c9 : List UInt8
  stack : List Int
  mode : Int
  err : Int
  use : Int
  timeout : Int
  elapsed : Int
  before : List Int
  after : List Int
  sides : List Side
abbrev encVr (v : List UInt8 × List UInt8) : List V := [.s v.1, .s v.2]
theorem encVr_len (v : List UInt8 × List UInt8) : (encVr v).length = 2 := rfl
theorem sideC_len (s : Side) : (sideC s).length = 11 := rfl
abbrev cfgC (c : Cfg) : List V := [.i .i64 c.pc, lst encVr c.vars, .s c.c0, .s c.c1, .s c.c2, .s c.c3, .s c.c4, .s c.c5, .s c.c6, .s c.c7, .s c.c8, .s c.c9, lst encI c.stack, .i .i64 c.mode, .i .i64 c.err, .i .i64 c.use, .i .i64 c.timeout, .i .i64 c.elapsed, lst encI c.before, lst encI c.after, lst sideC c.sides]
structure okCfg (c : Cfg) : Prop where
  pc : okI c.pc
  err : okI c.err
  vlen : c.vars.length ≤ 100
  var : ∀ v ∈ c.vars, v.1.length ≤ 1000 ∧ v.2.length ≤ 1000
  slen : c.sides.length ≤ 20
  side : ∀ s ∈ c.sides, okSd s
theorem getVr (l : List (List UInt8 × List UInt8)) {i : Nat} (h : i < l.length) : takeX 2 (List.drop (((i : Nat) : Int).toNat * 2) (row encVr l)) = some (encVr l[i]) := by
  rw [Int.toNat_natCast]; exact row_get (f := encVr) (k := 2) encVr_len h
theorem getVr0 (l : List (List UInt8 × List UInt8)) {i : Nat} (h : i < l.length) : takeX 1 (List.drop 0 (List.drop (((i : Nat) : Int).toNat * 2) (row encVr l))) = some [.s l[i].1] := by
  rw [Int.toNat_natCast, row_drop encVr_len, List.drop_eq_getElem_cons h]; rfl
theorem getVr1 (l : List (List UInt8 × List UInt8)) {i : Nat} (h : i < l.length) : takeX 1 (List.drop 1 (List.drop (((i : Nat) : Int).toNat * 2) (row encVr l))) = some [.s l[i].2] := by
  rw [Int.toNat_natCast, row_drop encVr_len, List.drop_eq_getElem_cons h]; rfl
theorem getSd (l : List Side) {i : Nat} (h : i < l.length) : takeX 11 (List.drop (((i : Nat) : Int).toNat * 11) (row sideC l)) = some (sideC l[i]) := by
  rw [Int.toNat_natCast]; exact row_get (f := sideC) (k := 11) sideC_len h

def modeS (m : Int) : List UInt8 := if m = 0 then [114, 117, 110, 115] else if m = 1 then [119, 97, 105, 116, 115] else if m = 2 then [101, 110, 100, 101, 100] else if m = 3 then [98, 114, 111, 107, 101, 110] else [63]
theorem modeS_len (m : Int) : (modeS m).length ≤ 6 := by
  unfold modeS
  repeat' split
  all_goals simp
theorem mode_con (m : Int) : PCon Tryd.Y 26 [.i .i64 m] (· = .s (modeS m)) := by
  refine tree_con Tryd.Yok (fn := Tryd.f26) (by kernel_rfl) (by kernel_rfl) rfl (fun K => f26_0 m .empty K) rfl ?_
  refine if_lt (fun h => finV1 (.inr rfl) rfl (.s _) ?_) (fun h => if_le (a := ((4 : Nat) : Int)) (fun h2 => finV1 (.inr rfl) rfl (.s _) ?_) (fun h2 => ?_))
  · simp [modeS, show m ≠ 0 by omega, show m ≠ 1 by omega, show m ≠ 2 by omega, show m ≠ 3 by omega]
  · simp [modeS, show m ≠ 0 by omega, show m ≠ 1 by omega, show m ≠ 2 by omega, show m ≠ 3 by omega]
  · obtain rfl | rfl | rfl | rfl : m = 0 ∨ m = 1 ∨ m = 2 ∨ m = 3 := by omega
    all_goals exact ⟨⟨by decide, by decide⟩, _, rfl, finV1 (.inr rfl) rfl (.s _) rfl⟩

def wset : List UInt8 := [115, 101, 116]
def headS (c : Cfg) : List UInt8 := lnS ([modeS c.mode, itoa c.pc] ++ (if c.mode == 3 then [itoa c.err] else []))
def varS (v : List UInt8 × List UInt8) : List UInt8 := lnS [wset, v.1, quoteS v.2]
def varsS (l : List (List UInt8 × List UInt8)) : List UInt8 := l.flatMap varS
theorem varsS_snoc (l : List (List UInt8 × List UInt8)) (v : List UInt8 × List UInt8) : varsS (l ++ [v]) = varsS l ++ varS v := by simp [varsS]
def oneSd (i : Nat) (s : Side) : List UInt8 := if s.on then lnS (sideW (i : Nat) s) else []
def sidesN (l : List Side) : Nat → List UInt8
  | 0 => []
  | i + 1 => sidesN l i ++ (match l[i]? with | some s => oneSd i s | none => [])
def cfgS (c : Cfg) : List UInt8 := headS c ++ varsS c.vars ++ sidesN c.sides c.sides.length

theorem varS_len {v : List UInt8 × List UInt8} (h : v.1.length ≤ 1000 ∧ v.2.length ≤ 1000) : (varS v).length ≤ 6000 := by
  have h1 := lnS_len [wset, v.1, quoteS v.2]
  have h2 := quoteS_len v.2
  have h3 : wset.length = 3 := rfl
  simp only [sumL] at h1
  unfold varS; omega
theorem varsS_len : ∀ {l : List (List UInt8 × List UInt8)}, (∀ v ∈ l, v.1.length ≤ 1000 ∧ v.2.length ≤ 1000) → (varsS l).length ≤ 6000 * l.length
  | [], _ => by simp [varsS]
  | v :: l, h => by
    have h1 := varS_len (h v (by simp))
    have h2 := varsS_len (l := l) fun x hx => h x (List.mem_cons_of_mem _ hx)
    have : varsS (v :: l) = varS v ++ varsS l := by simp [varsS]
    rw [this, List.length_append, List.length_cons]; omega
theorem oneSd_len {i : Nat} (hi : i ≤ 2 ^ 40) {s : Side} (hs : okSd s) : (oneSd i s).length ≤ 500001 := by
  unfold oneSd
  split
  · have := lnS_len (sideW (i : Nat) s)
    have := sideW_sum (okI_nat hi) hs
    omega
  · simp
theorem sidesN_len {l : List Side} (h : ∀ s ∈ l, okSd s) : ∀ i, i ≤ l.length → i ≤ 2 ^ 40 → (sidesN l i).length ≤ 500001 * i
  | 0, _, _ => by simp [sidesN]
  | i + 1, hi, hb => by
    have ih := sidesN_len h i (by omega) (by omega)
    have h1 := oneSd_len (i := i) (by omega) (h l[i] (List.getElem_mem (by omega)))
    rw [sidesN, List.getElem?_eq_getElem (by omega), List.length_append]
    simp only
    omega
theorem headS_len {c : Cfg} (hc : okCfg c) : (headS c).length ≤ 60 := by
  have h1 := itoa_len hc.pc
  have h2 := itoa_len hc.err
  have h3 := modeS_len c.mode
  have h4 := lnS_len ([modeS c.mode, itoa c.pc] ++ (if c.mode == 3 then [itoa c.err] else []))
  have h5 : sumL ([modeS c.mode, itoa c.pc] ++ (if c.mode == 3 then [itoa c.err] else [])) ≤ 50 := by
    split <;> simp [sumL] <;> omega
  unfold headS; omega

set_option maxHeartbeats 1000000 in
theorem config_con {c : Cfg} (hc : okCfg c) : PCon Tryd.Y 9 [.agg (cfgC c)] (· = .s (cfgS c)) := by
  refine pcon_of Tryd.Yok (fn := Tryd.f9) (by kernel_rfl) (by kernel_rfl) rfl ?_
  have h1 := itoa_len hc.pc
  have h2 := itoa_len hc.err
  have h3 := modeS_len c.mode
  have h4 := headS_len hc
  have hvl := hc.vlen
  have hsl := hc.slen
  have hlit : StrL (Heap.empty.push (.arr [.s (modeS c.mode), .s (itoa c.pc)] true)) (some (0, 0)) 2 (some 2) 1 [modeS c.mode, itoa c.pc] := ⟨rfl, .inr ⟨0, rfl, rfl, Nat.zero_lt_one, by rw [show (0 : Nat) = Heap.empty.nx from rfl]; simp, .inr rfl⟩⟩
  refine pre_tree Tryd.Yok 61 (fun K => f9_0 c.pc (row encVr c.vars) c.vars.length c.c0 c.c1 c.c2 c.c3 c.c4 c.c5 c.c6 c.c7 c.c8 c.c9 (row encI c.stack) c.stack.length c.mode c.err c.use c.timeout c.elapsed (row encI c.before) c.before.length (row encI c.after) c.after.length (row sideC c.sides) c.sides.length .empty K) rfl (by kernel_rfl) ?_
  refine ⟨_, mode_con c.mode, _, itoa_con hc.pc.1 hc.pc.2, ?_⟩
  generalize hG : PreV Tryd.Y 61 [1, 4, 28, 29, 30] _ _ = G
  suffices hK : ∀ h, G .normal 61 [.lb (cfgC c), .s (headS c), lst encVr c.vars, .i .i64 c.vars.length, .i .i64 0] h by
    refine if_mk (fun e => ⟨_, itoa_con hc.err.1 hc.err.2, app1 hlit (by simp) (fun a l cc k h hL => ⟨_, line_f hL (by simp) (by simp [sumL]; omega), ?_⟩)⟩) (fun e => ⟨_, line_f hlit (by simp) (by simp [sumL]; omega), ?_⟩)
    · have : headS c = lnS ([modeS c.mode, itoa c.pc] ++ [itoa c.err]) := by rw [headS, if_pos e]
      rw [← this]; exact hK h
    · have : headS c = lnS [modeS c.mode, itoa c.pc] := by rw [headS, if_neg (by rw [e]; simp), List.append_nil]
      rw [← this]; exact hK _
  subst hG
  intro h
  refine ⟨rfl, loop2 [1, 4, 28, 29, 30] [1, 4, 28, 29, 30] rfl (by kernel_rfl) (fun m vs _ => ∃ i : Nat, vs = [.lb (cfgC c), .s (headS c ++ varsS (c.vars.take i)), lst encVr c.vars, .i .i64 c.vars.length, .i .i64 (i : Nat)] ∧ i ≤ c.vars.length ∧ m = c.vars.length - i) c.vars.length mk_len ⟨0, by rw [show varsS (c.vars.take 0) = [] from rfl, List.append_nil]; rfl, by omega, by omega⟩ ?_⟩
  rintro m vs h ⟨i, rfl, hi, rfl⟩
  have hvt : (varsS (c.vars.take i)).length ≤ 600000 := by
    have := varsS_len (l := c.vars.take i) fun v hv => hc.var v (List.mem_of_mem_take hv)
    have : (c.vars.take i).length ≤ 100 := by simp; omega
    omega
  refine all_tree Tryd.Yok (fun K => f9_1 c.pc (row encVr c.vars) c.vars.length (row encI c.stack) c.stack.length c.mode c.err c.use c.timeout c.elapsed (row encI c.before) c.before.length (row encI c.after) c.after.length (row sideC c.sides) c.sides.length c.c0 c.c1 c.c2 c.c3 c.c4 c.c5 c.c6 c.c7 c.c8 c.c9 _ (i : Nat) h K) rfl ?_
  refine if_lt_nat (fun hlt => ?_) (fun hge => ?_)
  · have hv := hc.var _ (List.getElem_mem hlt)
    have hvs := varS_len hv
    have hq := quoteS_len c.vars[i].2
    refine ⟨bnd_nat hlt, _, _, getVr c.vars hlt, _, text_con (by omega), _, line_t _ [wset, c.vars[i].1, quoteS c.vars[i].2] _ (by simp) (by simp [sumL, wset]; omega), ?_, rfl, c.vars.length - (i + 1), by omega, i + 1, ?_, by omega, rfl⟩
    · have : (lnS [wset, c.vars[i].1, quoteS c.vars[i].2]).length ≤ 6000 := hvs
      rw [List.length_append]; omega
    · rw [wrap_succ (by omega), List.take_succ_eq_append_getElem hlt, varsS_snoc, ← List.append_assoc]; rfl
  refine roundW_exit [1, 4] (by kernel_rfl) rfl rfl ?_
  rw [List.take_of_length_le hge] at hvt ⊢
  refine pre_tree Tryd.Yok 61 (fun K => f9_2 c.pc (row encVr c.vars) c.vars.length (row encI c.stack) c.stack.length c.mode c.err c.use c.timeout c.elapsed (row encI c.before) c.before.length (row encI c.after) c.after.length (row sideC c.sides) c.sides.length c.c0 c.c1 c.c2 c.c3 c.c4 c.c5 c.c6 c.c7 c.c8 c.c9 (headS c ++ varsS c.vars) h K) rfl (by kernel_rfl) ?_
  refine ⟨rfl, loop2 [4, 45, 46, 47] [4, 45, 46, 47] rfl (by kernel_rfl) (fun m vs _ => ∃ j : Nat, vs = [.s (headS c ++ varsS c.vars ++ sidesN c.sides j), lst sideC c.sides, .i .i64 c.sides.length, .i .i64 (j : Nat)] ∧ j ≤ c.sides.length ∧ m = c.sides.length - j) c.sides.length mk_len ⟨0, by rw [show sidesN c.sides 0 = [] from rfl, List.append_nil]; rfl, by omega, by omega⟩ ?_⟩
  rintro m vs h ⟨j, rfl, hj, rfl⟩
  have hsn := sidesN_len hc.side j hj (by omega)
  refine all_tree Tryd.Yok (fun K => f9_3 (row sideC c.sides) c.sides.length _ (j : Nat) h K) rfl ?_
  refine if_lt_nat (fun hlt => ?_) (fun hge => ?_)
  · have hs := hc.side _ (List.getElem_mem hlt)
    have hnext : sidesN c.sides (j + 1) = sidesN c.sides j ++ oneSd j c.sides[j] := by rw [sidesN, List.getElem?_eq_getElem hlt]
    refine ⟨bnd_nat hlt, _, _, _, _, _, _, _, _, _, _, _, _, _, _, _, getSd c.sides hlt, if_mk (fun e => ⟨_, side_con (okI_nat (n := j) (by omega)) hs, ?_, ?_⟩) (fun e => ?_)⟩
    · have := oneSd_len (i := j) (by omega) hs
      rw [oneSd, if_pos e] at this
      simp only [List.length_append]; omega
    · refine ⟨rfl, c.sides.length - (j + 1), by omega, j + 1, ?_, by omega, rfl⟩
      rw [wrap_succ (by omega), hnext, oneSd, if_pos e, ← List.append_assoc]; rfl
    · refine ⟨rfl, c.sides.length - (j + 1), by omega, j + 1, ?_, by omega, rfl⟩
      rw [wrap_succ (by omega), hnext, oneSd, if_neg (by rw [e]; simp), List.append_nil]; rfl
  refine roundW_exit [4] (by kernel_rfl) rfl rfl ?_
  have : j = c.sides.length := by omega
  subst this
  exact end_tree Tryd.Yok (fun K => f9_4 _ h K) rfl (finV1 (.inr rfl) rfl (.s _) rfl)
end Go.Y
