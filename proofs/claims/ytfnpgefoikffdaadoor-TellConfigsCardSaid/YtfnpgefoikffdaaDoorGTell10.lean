/- A side's line, by contracts. -/
import Derived.Test.YtfnpgefoikffdaaDoorGTell9
namespace Go.Y
open Go.Proofs Go.Lib
set_option maxRecDepth 100000
set_option linter.unusedVariables false
set_option linter.unusedSimpArgs false

theorem app1 {h : Heap} {a : Option (Nat × Nat)} {l : Nat} {c : Option Nat} {k : Nat} {xs : List (List UInt8)} {w : List UInt8} {cap : Option Nat} {P : Option (Nat × Nat) → Nat → Option Nat → Nat → Heap → Prop} (hL : StrL h a l c k xs) (hb : xs.length + 1 ≤ 2 ^ 20)
    (hk : ∀ a' l' c' k' h', StrL h' a' l' c' k' (xs ++ [w]) → P a' l' c' k' h') : ∃ a' l' c' k' h', appendH Tryd.Y h 51 51 (.sl a l c k) (.ts [.s w] 1 cap) = some (.sl a' l' c' k', h') ∧ P a' l' c' k' h' := by
  obtain ⟨a1, l1, c1, k1, h1, q1, q2, -⟩ := hL.app [w] cap (by simpa using hb)
  exact ⟨a1, l1, c1, k1, h1, q1, hk _ _ _ _ _ q2⟩
theorem app2 {h : Heap} {a : Option (Nat × Nat)} {l : Nat} {c : Option Nat} {k : Nat} {xs : List (List UInt8)} {w u : List UInt8} {cap : Option Nat} {P : Option (Nat × Nat) → Nat → Option Nat → Nat → Heap → Prop} (hL : StrL h a l c k xs) (hb : xs.length + 2 ≤ 2 ^ 20)
    (hk : ∀ a' l' c' k' h', StrL h' a' l' c' k' (xs ++ [w, u]) → P a' l' c' k' h') : ∃ a' l' c' k' h', appendH Tryd.Y h 51 51 (.sl a l c k) (.ts [.s w, .s u] 2 cap) = some (.sl a' l' c' k', h') ∧ P a' l' c' k' h' := by
  obtain ⟨a1, l1, c1, k1, h1, q1, q2, -⟩ := hL.app [w, u] cap (by simpa using hb)
  exact ⟨a1, l1, c1, k1, h1, q1, hk _ _ _ _ _ q2⟩

def wpeer : List UInt8 := [112, 101, 101, 114]
def wshut : List UInt8 := [115, 104, 117, 116]
def weof : List UInt8 := [101, 111, 102]
def wtyped : List UInt8 := [116, 121, 112, 101, 100]
def wlines : List UInt8 := [108, 105, 110, 101, 115]
def wfly : List UInt8 := [102, 108, 121]
def wready : List UInt8 := [114, 101, 97, 100, 121]
def wbuffer : List UInt8 := [98, 117, 102, 102, 101, 114]
def optW (b : Bool) (w : List UInt8) : List (List UInt8) := if b then [w] else []
def txtW (w s : List UInt8) : List (List UInt8) := if (!s == []) then [w, quoteS s] else []
def sideP (i : Int) (s : Side) : List (List UInt8) := [wpeer, itoa i, itoa s.place, itoa s.clock] ++ optW s.shut wshut ++ optW s.eof weof ++ txtW wtyped s.typed ++ optW (ltI 0 (s.lines.length : Nat)) wlines
def sideW (i : Int) (s : Side) : List (List UInt8) := sideP i s ++ s.lines.map quoteS ++ (txtW wfly s.fly ++ txtW wready s.ready ++ txtW wbuffer s.buffer)
structure okSd (s : Side) : Prop where
  place : okI s.place
  clock : okI s.clock
  typed : s.typed.length ≤ 1000
  lines : s.lines.length ≤ 100
  line : ∀ x ∈ s.lines, x.length ≤ 1000
  fly : s.fly.length ≤ 1000
  ready : s.ready.length ≤ 1000
  buffer : s.buffer.length ≤ 1000

theorem StrL.eq {h : Heap} {a : Option (Nat × Nat)} {l : Nat} {c : Option Nat} {k : Nat} {xs ys : List (List UInt8)} (hL : StrL h a l c k xs) (e : xs = ys) : StrL h a l c k ys := e ▸ hL
theorem sideP_len (i : Int) (s : Side) : (sideP i s).length ≤ 9 := by
  have h1 : (optW s.shut wshut).length ≤ 1 := by unfold optW; split <;> simp
  have h2 : (optW s.eof weof).length ≤ 1 := by unfold optW; split <;> simp
  have h3 : (optW (ltI 0 (s.lines.length : Nat)) wlines).length ≤ 1 := by unfold optW; split <;> simp
  have h4 : (txtW wtyped s.typed).length ≤ 2 := by unfold txtW; split <;> simp
  simp only [sideP, List.length_append, List.length_cons, List.length_nil]; omega

theorem sumL_append : ∀ (a b : List (List UInt8)), sumL (a ++ b) = sumL a + sumL b
  | [], b => by simp [sumL]
  | x :: a, b => by simp only [List.cons_append, sumL, sumL_append a b]; omega
theorem sum_opt (b : Bool) (w : List UInt8) : sumL (optW b w) ≤ w.length + 1 := by unfold optW; split <;> simp [sumL]
theorem sum_txt (w s : List UInt8) : sumL (txtW w s) ≤ w.length + 4 * s.length + 4 := by
  have := quoteS_len s
  unfold txtW; split <;> simp [sumL]; omega
theorem sum_quote : ∀ {l : List (List UInt8)}, (∀ x ∈ l, x.length ≤ 1000) → sumL (l.map quoteS) ≤ 4003 * l.length
  | [], _ => by simp [sumL]
  | a :: l, h => by
    have h1 := quoteS_len a
    have h2 := h a (by simp)
    have h3 := sum_quote (l := l) fun x hx => h x (List.mem_cons_of_mem _ hx)
    simp only [List.map_cons, sumL, List.length_cons]; omega
theorem sideW_sum {i : Int} {s : Side} (hi : okI i) (hs : okSd s) : sumL (sideW i s) ≤ 500000 := by
  have a1 := itoa_len hi; have a2 := itoa_len hs.place; have a3 := itoa_len hs.clock
  have b1 := sum_opt s.shut wshut; have b2 := sum_opt s.eof weof; have b3 := sum_opt (ltI 0 (s.lines.length : Nat)) wlines
  have c1 := sum_txt wtyped s.typed; have c2 := sum_txt wfly s.fly; have c3 := sum_txt wready s.ready; have c4 := sum_txt wbuffer s.buffer
  have d := sum_quote hs.line
  have e1 := hs.typed; have e2 := hs.fly; have e3 := hs.ready; have e4 := hs.buffer; have e5 := hs.lines
  simp only [sideW, sideP, sumL_append, sumL]
  simp only [wpeer, wshut, weof, wlines, wtyped, wfly, wready, wbuffer, List.length_cons, List.length_nil] at *
  omega
theorem sideW_len (i : Int) {s : Side} (hs : okSd s) : (sideW i s).length ≤ 200 := by
  have := sideP_len i s
  have tl : ∀ w x, (txtW w x).length ≤ 2 := fun w x => by unfold txtW; split <;> simp
  have h1 := tl wfly s.fly; have h2 := tl wready s.ready; have h3 := tl wbuffer s.buffer
  have := hs.lines
  simp only [sideW, List.length_append, List.length_map]; omega

set_option maxHeartbeats 1000000 in
theorem side_con {i : Int} {s : Side} (hi : okI i) (hs : okSd s) : PCon Tryd.Y 27 [.i .i64 i, .agg (sideC s)] (· = .s (lnS (sideW i s))) := by
  refine pcon_of Tryd.Yok (fn := Tryd.f27) (by kernel_rfl) (by kernel_rfl) rfl ?_
  have hn : PCon Tryd.Y 14 [.ts [.i .i64 i, .i .i64 s.place, .i .i64 s.clock] 3 (some 3)] (· = lst encT [itoa i, itoa s.place, itoa s.clock]) :=
    (nums_con [i, s.place, s.clock] (by simp) (by simp; exact ⟨hi, hs.place, hs.clock⟩)).wk (.one _ _ _ _ (.inr (.inr ⟨_, _, _, rfl, rfl⟩)) .nil)
  obtain ⟨a, l, c, k, h', q1, q2, -⟩ := lit_app .empty wpeer [itoa i, itoa s.place, itoa s.clock] (by simp)
  have ht : PCon Tryd.Y 11 [.s s.typed] (· = .s (quoteS s.typed)) := text_con (by have := hs.typed; omega)
  refine pre_tree Tryd.Yok 87 (fun K => f27_0 i s.on s.shut s.eof s.place s.clock s.typed (row encT s.lines) s.lines.length s.fly (row encI s.ages) s.ages.length s.ready s.buffer .empty K) rfl (by kernel_rfl) ?_
  refine ⟨_, _, _, hn, a, l, c, k, h', q1, ?_⟩
  clear q1 hn
  generalize hG : PreV Tryd.Y 87 [3, 5, 46, 47, 48] _ _ = G
  suffices hK : ∀ a l c k h, StrL h a l c k (sideP i s) → G .normal 87 [.lb (sideC s), .sl a l c k, lst encT s.lines, .i .i64 s.lines.length, .i .i64 0] h by
    repeat' first
      | with_reducible refine if_mk (fun _ => ?_) (fun _ => ?_)
      | with_reducible refine app1 (by assumption) (by simp) (fun _ _ _ _ _ _ => ?_)
      | with_reducible refine app2 (by assumption) (by simp) (fun _ _ _ _ _ _ => ?_)
      | with_reducible refine ⟨_, ht, ?_⟩
      | with_reducible refine hK _ _ _ _ _ (StrL.eq (by assumption) ?_)
    all_goals simp only [sideP, optW, txtW, *, if_true, if_false, Bool.false_eq_true, List.append_nil, List.append_assoc, List.cons_append, List.nil_append]
    all_goals rfl
  clear q2 ht
  subst hG
  intro a l c k h hL
  have hp := sideP_len i s
  have hll := hs.lines
  refine ⟨rfl, loop2 [3, 5, 46, 47, 48] [3, 5, 46, 47, 48] rfl (by kernel_rfl) (fun m vs h => ∃ (j : Nat) (a : Option (Nat × Nat)) (l : Nat) (c : Option Nat) (k : Nat), vs = [.lb (sideC s), .sl a l c k, lst encT s.lines, .i .i64 s.lines.length, .i .i64 (j : Nat)] ∧ j ≤ s.lines.length ∧ m = s.lines.length - j ∧ StrL h a l c k (sideP i s ++ (s.lines.take j).map quoteS)) s.lines.length mk_len ⟨0, _, _, _, _, rfl, by omega, by omega, by simpa using hL⟩ ?_⟩
  rintro m vs h ⟨j, a, l, c, k, rfl, hj, rfl, hL⟩
  refine all_rule Tryd.Yok (loc := Tryd.Y.loc 27) 100 [3, 5, 46, 47, 48] ?_
  refine Eq.mpr (f27_1 s.on s.shut s.eof s.place s.clock (row encT s.lines) s.lines.length (row encI s.ages) s.ages.length s.typed s.fly s.ready s.buffer a l c k (j : Nat) h _) ?_
  refine if_lt_nat (fun hlt => ?_) (fun hge => ?_)
  · have hx := hs.line _ (List.getElem_mem hlt)
    refine ⟨bnd_nat hlt, s.lines[j], by rw [Int.toNat_natCast]; exact row_get (f := encT) (k := 1) encT_len hlt, _, text_con (by omega), ?_⟩
    refine app1 hL (by simp; omega) (fun a' l' c' k' h' hL' => ?_)
    refine ⟨rfl, s.lines.length - (j + 1), by omega, j + 1, a', l', c', k', by rw [wrap_succ (by omega)]; rfl, by omega, rfl, ?_⟩
    rw [List.take_succ_eq_append_getElem hlt, List.map_append, ← List.append_assoc]; exact hL'
  refine roundW_exit [3, 5] (by kernel_rfl) rfl rfl ?_
  rw [List.take_of_length_le hge] at hL
  refine pre_tree Tryd.Yok 87 (fun K => f27_2 s.on s.shut s.eof s.place s.clock (row encT s.lines) s.lines.length (row encI s.ages) s.ages.length a l c k s.typed s.fly s.ready s.buffer h K) rfl (by kernel_rfl) ?_
  let T : List (List (List UInt8)) := [txtW wfly s.fly, txtW wready s.ready, txtW wbuffer s.buffer]
  have tl : ∀ w x, (txtW w x).length ≤ 2 := fun w x => by unfold txtW; split <;> simp
  refine ⟨rfl, loop2 [5, 67, 68, 69] [5, 67, 68, 69] rfl (by kernel_rfl) (fun m vs h => ∃ (j : Nat) (a : Option (Nat × Nat)) (l : Nat) (c : Option Nat) (k : Nat), vs = [.sl a l c k, .ts [.s wfly, .s s.fly, .s wready, .s s.ready, .s wbuffer, .s s.buffer] 3 (some 3), .i .i64 3, .i .i64 (j : Nat)] ∧ j ≤ 3 ∧ m = 3 - j ∧ StrL h a l c k (sideP i s ++ s.lines.map quoteS ++ (T.take j).flatten)) 3 mk_len ⟨0, _, _, _, _, rfl, by omega, by omega, by simpa using hL⟩ ?_⟩
  rintro m vs h ⟨j, a, l, c, k, rfl, hj, rfl, hL⟩
  refine all_tree Tryd.Yok (fun K => f27_3 a l c k [.s wfly, .s s.fly, .s wready, .s s.ready, .s wbuffer, .s s.buffer] 3 3 (j : Nat) h K) rfl ?_
  have hfl : ((T.take j).flatten).length ≤ 6 := by
    have h1 := tl wfly s.fly
    have h2 := tl wready s.ready
    have h3 := tl wbuffer s.buffer
    match j, hj with
    | 0, _ => simp
    | 1, _ => simp [T]; omega
    | 2, _ => simp [T]; omega
    | 3, _ => simp [T]; omega
  have hsz : (sideP i s ++ s.lines.map quoteS ++ (T.take j).flatten).length + 2 ≤ 2 ^ 20 := by simp only [List.length_append, List.length_map]; omega
  refine if_lt_nat (b := 3) (fun hlt => ?_) (fun hge => ?_)
  · have go : ∀ (w x : List UInt8), x.length ≤ 1000 → takeX 2 (List.drop (((j : Nat) : Int).toNat * 2) [V.s wfly, .s s.fly, .s wready, .s s.ready, .s wbuffer, .s s.buffer]) = some [.s w, .s x] → (T.take (j + 1)).flatten = (T.take j).flatten ++ txtW w x →
        ∃ s_1 s_2 : List UInt8, takeX 2 (List.drop (((j : Nat) : Int).toNat * 2) [V.s wfly, .s s.fly, .s wready, .s s.ready, .s wbuffer, .s s.buffer]) = some [.s s_1, .s s_2] ∧ If (!s_2 == []) (∃ s_3, PCon Tryd.Y 11 [.s s_2] (fun v => v = .s s_3) ∧ ∃ a_1 l_1 c_1 k_1 h_1, appendH Tryd.Y h 51 51 (.sl a l c k) (.ts [.s s_1, .s s_3] 2 (some 2)) = some (.sl a_1 l_1 c_1 k_1, h_1) ∧
          (RoundW Tryd.Y 87 [5, 67, 68, 69] [5, 67, 68, 69] (fun m vs h => ∃ (j : Nat) (a : Option (Nat × Nat)) (l : Nat) (c : Option Nat) (k : Nat), vs = [.sl a l c k, .ts [.s wfly, .s s.fly, .s wready, .s s.ready, .s wbuffer, .s s.buffer] 3 (some 3), .i .i64 3, .i .i64 (j : Nat)] ∧ j ≤ 3 ∧ m = 3 - j ∧ StrL h a l c k (sideP i s ++ s.lines.map quoteS ++ (T.take j).flatten)) (3 - j) (loopId (post ((post (flat (bodyOf Tryd.f27))).drop 1))) (List.drop 1 (post ((post (flat (bodyOf Tryd.f27))).drop 1))) (FinS Tryd.Y Tryd.f27 fun v h => ∃ r, Frz h v r ∧ r = .s (lnS (sideW i s))))
            .normal 87 [.sl a_1 l_1 c_1 k_1, .ts [.s wfly, .s s.fly, .s wready, .s s.ready, .s wbuffer, .s s.buffer] 3 (some 3), .i .i64 3, .i .i64 (IntKind.i64.wrap ((j : Nat) + 1))] h_1)
          ((RoundW Tryd.Y 87 [5, 67, 68, 69] [5, 67, 68, 69] (fun m vs h => ∃ (j : Nat) (a : Option (Nat × Nat)) (l : Nat) (c : Option Nat) (k : Nat), vs = [.sl a l c k, .ts [.s wfly, .s s.fly, .s wready, .s s.ready, .s wbuffer, .s s.buffer] 3 (some 3), .i .i64 3, .i .i64 (j : Nat)] ∧ j ≤ 3 ∧ m = 3 - j ∧ StrL h a l c k (sideP i s ++ s.lines.map quoteS ++ (T.take j).flatten)) (3 - j) (loopId (post ((post (flat (bodyOf Tryd.f27))).drop 1))) (List.drop 1 (post ((post (flat (bodyOf Tryd.f27))).drop 1))) (FinS Tryd.Y Tryd.f27 fun v h => ∃ r, Frz h v r ∧ r = .s (lnS (sideW i s))))
            .normal 87 [.sl a l c k, .ts [.s wfly, .s s.fly, .s wready, .s s.ready, .s wbuffer, .s s.buffer] 3 (some 3), .i .i64 3, .i .i64 (IntKind.i64.wrap ((j : Nat) + 1))] h) := by
      intro w x hx hg ht
      refine ⟨w, x, hg, if_mk (fun he => ⟨_, text_con (by omega), app2 hL hsz (fun a' l' c' k' h' hL' => ⟨rfl, 3 - (j + 1), by omega, j + 1, a', l', c', k', by rw [wrap_succ (by omega)]; rfl, by omega, rfl, ?_⟩)⟩) (fun he => ⟨rfl, 3 - (j + 1), by omega, j + 1, a, l, c, k, by rw [wrap_succ (by omega)]; rfl, by omega, rfl, ?_⟩)⟩
      · rw [ht, txtW, if_pos he, ← List.append_assoc]; exact hL'
      · rw [ht, txtW, if_neg (by rw [he]; simp), List.append_nil]; exact hL
    refine ⟨⟨by omega, by omega⟩, ?_⟩
    match j, hlt, go with
    | 0, _, go => exact go wfly s.fly hs.fly rfl (by simp [T])
    | 1, _, go => exact go wready s.ready hs.ready rfl (by simp [T])
    | 2, _, go => exact go wbuffer s.buffer hs.buffer rfl (by simp [T])
  refine roundW_exit [5] (by kernel_rfl) rfl rfl ?_
  refine end_tree Tryd.Yok (fun K => f27_4 a l c k h K) rfl ?_
  have hj3 : j = 3 := by omega
  subst hj3
  have hL : StrL h a l c k (sideW i s) := hL.eq (by simp [sideW, T])
  have w1 := sideW_len i hs
  have w2 := sideW_sum hi hs
  exact ⟨_, line_f hL (by omega) (by omega), finV1 (.inr rfl) rfl (.s _) rfl⟩
end Go.Y

/- Configurations as lines, by contracts. -/
namespace Go.Y
open Go.Proofs Go.Lib
set_option maxRecDepth 100000
set_option linter.unusedVariables false
set_option linter.unusedSimpArgs false

structure Cfg where
  pc : Int
  vars : List (List UInt8 × List UInt8)
  c0 : List UInt8
  c1 : List UInt8
  c2 : List UInt8
  c3 : List UInt8
  c4 : List UInt8
  c5 : List UInt8
  c6 : List UInt8
  c7 : List UInt8
  c8 : List UInt8
  c9 : List UInt8
  stack : List Int
  mode : Int
  err : Int
  use : Int
  timeout : Int
  elapsed : Int
  before : List Int
  after : List Int
  sides : List Side
abbrev encVr (v : List UInt8 × List UInt8) : List V := [.s v.1, .s v.2]
theorem encVr_len (v : List UInt8 × List UInt8) : (encVr v).length = 2 := rfl
theorem sideC_len (s : Side) : (sideC s).length = 11 := rfl
abbrev cfgC (c : Cfg) : List V := [.i .i64 c.pc, lst encVr c.vars, .s c.c0, .s c.c1, .s c.c2, .s c.c3, .s c.c4, .s c.c5, .s c.c6, .s c.c7, .s c.c8, .s c.c9, lst encI c.stack, .i .i64 c.mode, .i .i64 c.err, .i .i64 c.use, .i .i64 c.timeout, .i .i64 c.elapsed, lst encI c.before, lst encI c.after, lst sideC c.sides]
structure okCfg (c : Cfg) : Prop where
  pc : okI c.pc
  err : okI c.err
  vlen : c.vars.length ≤ 100
  var : ∀ v ∈ c.vars, v.1.length ≤ 1000 ∧ v.2.length ≤ 1000
  slen : c.sides.length ≤ 20
  side : ∀ s ∈ c.sides, okSd s
theorem getVr (l : List (List UInt8 × List UInt8)) {i : Nat} (h : i < l.length) : takeX 2 (List.drop (((i : Nat) : Int).toNat * 2) (row encVr l)) = some (encVr l[i]) := by
  rw [Int.toNat_natCast]; exact row_get (f := encVr) (k := 2) encVr_len h
theorem getVr0 (l : List (List UInt8 × List UInt8)) {i : Nat} (h : i < l.length) : takeX 1 (List.drop 0 (List.drop (((i : Nat) : Int).toNat * 2) (row encVr l))) = some [.s l[i].1] := by
  rw [Int.toNat_natCast, row_drop encVr_len, List.drop_eq_getElem_cons h]; rfl
theorem getVr1 (l : List (List UInt8 × List UInt8)) {i : Nat} (h : i < l.length) : takeX 1 (List.drop 1 (List.drop (((i : Nat) : Int).toNat * 2) (row encVr l))) = some [.s l[i].2] := by
  rw [Int.toNat_natCast, row_drop encVr_len, List.drop_eq_getElem_cons h]; rfl
theorem getSd (l : List Side) {i : Nat} (h : i < l.length) : takeX 11 (List.drop (((i : Nat) : Int).toNat * 11) (row sideC l)) = some (sideC l[i]) := by
  rw [Int.toNat_natCast]; exact row_get (f := sideC) (k := 11) sideC_len h

def modeS (m : Int) : List UInt8 := if m = 0 then [114, 117, 110, 115] else if m = 1 then [119, 97, 105, 116, 115] else if m = 2 then [101, 110, 100, 101, 100] else if m = 3 then [98, 114, 111, 107, 101, 110] else [63]
theorem modeS_len (m : Int) : (modeS m).length ≤ 6 := by
  unfold modeS
  repeat' split
  all_goals simp
theorem mode_con (m : Int) : PCon Tryd.Y 26 [.i .i64 m] (· = .s (modeS m)) := by
  refine tree_con Tryd.Yok (fn := Tryd.f26) (by kernel_rfl) (by kernel_rfl) rfl (fun K => f26_0 m .empty K) rfl ?_
  refine if_lt (fun h => finV1 (.inr rfl) rfl (.s _) ?_) (fun h => if_le (a := ((4 : Nat) : Int)) (fun h2 => finV1 (.inr rfl) rfl (.s _) ?_) (fun h2 => ?_))
  · simp [modeS, show m ≠ 0 by omega, show m ≠ 1 by omega, show m ≠ 2 by omega, show m ≠ 3 by omega]
  · simp [modeS, show m ≠ 0 by omega, show m ≠ 1 by omega, show m ≠ 2 by omega, show m ≠ 3 by omega]
  · obtain rfl | rfl | rfl | rfl : m = 0 ∨ m = 1 ∨ m = 2 ∨ m = 3 := by omega
    all_goals exact ⟨⟨by decide, by decide⟩, _, rfl, finV1 (.inr rfl) rfl (.s _) rfl⟩

def wset : List UInt8 := [115, 101, 116]
def headS (c : Cfg) : List UInt8 := lnS ([modeS c.mode, itoa c.pc] ++ (if c.mode == 3 then [itoa c.err] else []))
def varS (v : List UInt8 × List UInt8) : List UInt8 := lnS [wset, v.1, quoteS v.2]
def varsS (l : List (List UInt8 × List UInt8)) : List UInt8 := l.flatMap varS
theorem varsS_snoc (l : List (List UInt8 × List UInt8)) (v : List UInt8 × List UInt8) : varsS (l ++ [v]) = varsS l ++ varS v := by simp [varsS]
def oneSd (i : Nat) (s : Side) : List UInt8 := if s.on then lnS (sideW (i : Nat) s) else []
def sidesN (l : List Side) : Nat → List UInt8
  | 0 => []
  | i + 1 => sidesN l i ++ (match l[i]? with | some s => oneSd i s | none => [])
def cfgS (c : Cfg) : List UInt8 := headS c ++ varsS c.vars ++ sidesN c.sides c.sides.length

theorem varS_len {v : List UInt8 × List UInt8} (h : v.1.length ≤ 1000 ∧ v.2.length ≤ 1000) : (varS v).length ≤ 6000 := by
  have h1 := lnS_len [wset, v.1, quoteS v.2]
  have h2 := quoteS_len v.2
  have h3 : wset.length = 3 := rfl
  simp only [sumL] at h1
  unfold varS; omega
theorem varsS_len : ∀ {l : List (List UInt8 × List UInt8)}, (∀ v ∈ l, v.1.length ≤ 1000 ∧ v.2.length ≤ 1000) → (varsS l).length ≤ 6000 * l.length
  | [], _ => by simp [varsS]
  | v :: l, h => by
    have h1 := varS_len (h v (by simp))
    have h2 := varsS_len (l := l) fun x hx => h x (List.mem_cons_of_mem _ hx)
    have : varsS (v :: l) = varS v ++ varsS l := by simp [varsS]
    rw [this, List.length_append, List.length_cons]; omega
theorem oneSd_len {i : Nat} (hi : i ≤ 2 ^ 40) {s : Side} (hs : okSd s) : (oneSd i s).length ≤ 500001 := by
  unfold oneSd
  split
  · have := lnS_len (sideW (i : Nat) s)
    have := sideW_sum (okI_nat hi) hs
    omega
  · simp
theorem sidesN_len {l : List Side} (h : ∀ s ∈ l, okSd s) : ∀ i, i ≤ l.length → i ≤ 2 ^ 40 → (sidesN l i).length ≤ 500001 * i
  | 0, _, _ => by simp [sidesN]
  | i + 1, hi, hb => by
    have ih := sidesN_len h i (by omega) (by omega)
    have h1 := oneSd_len (i := i) (by omega) (h l[i] (List.getElem_mem (by omega)))
    rw [sidesN, List.getElem?_eq_getElem (by omega), List.length_append]
    simp only
    omega
theorem headS_len {c : Cfg} (hc : okCfg c) : (headS c).length ≤ 60 := by
  have h1 := itoa_len hc.pc
  have h2 := itoa_len hc.err
  have h3 := modeS_len c.mode
  have h4 := lnS_len ([modeS c.mode, itoa c.pc] ++ (if c.mode == 3 then [itoa c.err] else []))
  have h5 : sumL ([modeS c.mode, itoa c.pc] ++ (if c.mode == 3 then [itoa c.err] else [])) ≤ 50 := by
    split <;> simp [sumL] <;> omega
  unfold headS; omega

set_option maxHeartbeats 1000000 in
theorem config_con {c : Cfg} (hc : okCfg c) : PCon Tryd.Y 9 [.agg (cfgC c)] (· = .s (cfgS c)) := by
  refine pcon_of Tryd.Yok (fn := Tryd.f9) (by kernel_rfl) (by kernel_rfl) rfl ?_
  have h1 := itoa_len hc.pc
  have h2 := itoa_len hc.err
  have h3 := modeS_len c.mode
  have h4 := headS_len hc
  have hvl := hc.vlen
  have hsl := hc.slen
  have hlit : StrL (Heap.empty.push (.arr [.s (modeS c.mode), .s (itoa c.pc)] true)) (some (0, 0)) 2 (some 2) 1 [modeS c.mode, itoa c.pc] := ⟨rfl, .inr ⟨0, rfl, rfl, Nat.zero_lt_one, by rw [show (0 : Nat) = Heap.empty.nx from rfl]; simp, .inr rfl⟩⟩
  refine pre_tree Tryd.Yok 61 (fun K => f9_0 c.pc (row encVr c.vars) c.vars.length c.c0 c.c1 c.c2 c.c3 c.c4 c.c5 c.c6 c.c7 c.c8 c.c9 (row encI c.stack) c.stack.length c.mode c.err c.use c.timeout c.elapsed (row encI c.before) c.before.length (row encI c.after) c.after.length (row sideC c.sides) c.sides.length .empty K) rfl (by kernel_rfl) ?_
  refine ⟨_, mode_con c.mode, _, itoa_con hc.pc.1 hc.pc.2, ?_⟩
  generalize hG : PreV Tryd.Y 61 [1, 4, 28, 29, 30] _ _ = G
  suffices hK : ∀ h, G .normal 61 [.lb (cfgC c), .s (headS c), lst encVr c.vars, .i .i64 c.vars.length, .i .i64 0] h by
    refine if_mk (fun e => ⟨_, itoa_con hc.err.1 hc.err.2, app1 hlit (by simp) (fun a l cc k h hL => ⟨_, line_f hL (by simp) (by simp [sumL]; omega), ?_⟩)⟩) (fun e => ⟨_, line_f hlit (by simp) (by simp [sumL]; omega), ?_⟩)
    · have : headS c = lnS ([modeS c.mode, itoa c.pc] ++ [itoa c.err]) := by rw [headS, if_pos e]
      rw [← this]; exact hK h
    · have : headS c = lnS [modeS c.mode, itoa c.pc] := by rw [headS, if_neg (by rw [e]; simp), List.append_nil]
      rw [← this]; exact hK _
  subst hG
  intro h
  refine ⟨rfl, loop2 [1, 4, 28, 29, 30] [1, 4, 28, 29, 30] rfl (by kernel_rfl) (fun m vs _ => ∃ i : Nat, vs = [.lb (cfgC c), .s (headS c ++ varsS (c.vars.take i)), lst encVr c.vars, .i .i64 c.vars.length, .i .i64 (i : Nat)] ∧ i ≤ c.vars.length ∧ m = c.vars.length - i) c.vars.length mk_len ⟨0, by rw [show varsS (c.vars.take 0) = [] from rfl, List.append_nil]; rfl, by omega, by omega⟩ ?_⟩
  rintro m vs h ⟨i, rfl, hi, rfl⟩
  have hvt : (varsS (c.vars.take i)).length ≤ 600000 := by
    have := varsS_len (l := c.vars.take i) fun v hv => hc.var v (List.mem_of_mem_take hv)
    have : (c.vars.take i).length ≤ 100 := by simp; omega
    omega
  refine all_tree Tryd.Yok (fun K => f9_1 c.pc (row encVr c.vars) c.vars.length (row encI c.stack) c.stack.length c.mode c.err c.use c.timeout c.elapsed (row encI c.before) c.before.length (row encI c.after) c.after.length (row sideC c.sides) c.sides.length c.c0 c.c1 c.c2 c.c3 c.c4 c.c5 c.c6 c.c7 c.c8 c.c9 _ (i : Nat) h K) rfl ?_
  refine if_lt_nat (fun hlt => ?_) (fun hge => ?_)
  · have hv := hc.var _ (List.getElem_mem hlt)
    have hvs := varS_len hv
    have hq := quoteS_len c.vars[i].2
    refine ⟨bnd_nat hlt, _, _, getVr c.vars hlt, _, text_con (by omega), _, line_t _ [wset, c.vars[i].1, quoteS c.vars[i].2] _ (by simp) (by simp [sumL, wset]; omega), ?_, rfl, c.vars.length - (i + 1), by omega, i + 1, ?_, by omega, rfl⟩
    · have : (lnS [wset, c.vars[i].1, quoteS c.vars[i].2]).length ≤ 6000 := hvs
      rw [List.length_append]; omega
    · rw [wrap_succ (by omega), List.take_succ_eq_append_getElem hlt, varsS_snoc, ← List.append_assoc]; rfl
  refine roundW_exit [1, 4] (by kernel_rfl) rfl rfl ?_
  rw [List.take_of_length_le hge] at hvt ⊢
  refine pre_tree Tryd.Yok 61 (fun K => f9_2 c.pc (row encVr c.vars) c.vars.length (row encI c.stack) c.stack.length c.mode c.err c.use c.timeout c.elapsed (row encI c.before) c.before.length (row encI c.after) c.after.length (row sideC c.sides) c.sides.length c.c0 c.c1 c.c2 c.c3 c.c4 c.c5 c.c6 c.c7 c.c8 c.c9 (headS c ++ varsS c.vars) h K) rfl (by kernel_rfl) ?_
  refine ⟨rfl, loop2 [4, 45, 46, 47] [4, 45, 46, 47] rfl (by kernel_rfl) (fun m vs _ => ∃ j : Nat, vs = [.s (headS c ++ varsS c.vars ++ sidesN c.sides j), lst sideC c.sides, .i .i64 c.sides.length, .i .i64 (j : Nat)] ∧ j ≤ c.sides.length ∧ m = c.sides.length - j) c.sides.length mk_len ⟨0, by rw [show sidesN c.sides 0 = [] from rfl, List.append_nil]; rfl, by omega, by omega⟩ ?_⟩
  rintro m vs h ⟨j, rfl, hj, rfl⟩
  have hsn := sidesN_len hc.side j hj (by omega)
  refine all_tree Tryd.Yok (fun K => f9_3 (row sideC c.sides) c.sides.length _ (j : Nat) h K) rfl ?_
  refine if_lt_nat (fun hlt => ?_) (fun hge => ?_)
  · have hs := hc.side _ (List.getElem_mem hlt)
    have hnext : sidesN c.sides (j + 1) = sidesN c.sides j ++ oneSd j c.sides[j] := by rw [sidesN, List.getElem?_eq_getElem hlt]
    refine ⟨bnd_nat hlt, _, _, _, _, _, _, _, _, _, _, _, _, _, _, _, getSd c.sides hlt, if_mk (fun e => ⟨_, side_con (okI_nat (n := j) (by omega)) hs, ?_, ?_⟩) (fun e => ?_)⟩
    · have := oneSd_len (i := j) (by omega) hs
      rw [oneSd, if_pos e] at this
      simp only [List.length_append]; omega
    · refine ⟨rfl, c.sides.length - (j + 1), by omega, j + 1, ?_, by omega, rfl⟩
      rw [wrap_succ (by omega), hnext, oneSd, if_pos e, ← List.append_assoc]; rfl
    · refine ⟨rfl, c.sides.length - (j + 1), by omega, j + 1, ?_, by omega, rfl⟩
      rw [wrap_succ (by omega), hnext, oneSd, if_neg (by rw [e]; simp), List.append_nil]; rfl
  refine roundW_exit [4] (by kernel_rfl) rfl rfl ?_
  have : j = c.sides.length := by omega
  subst this
  exact end_tree Tryd.Yok (fun K => f9_4 _ h K) rfl (finV1 (.inr rfl) rfl (.s _) rfl)
end Go.Y
