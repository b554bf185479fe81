/- A side's line, by contracts. -/
import Derived.Test.YtfnpgefoikffdaaDoorGTell9
namespace Go.Y
open Go.Proofs Go.Lib
set_option maxRecDepth 100000
set_option linter.unusedVariables false
set_option linter.unusedSimpArgs false

theorem app1 {h : Heap} {a : Option (Nat × Nat)} {l : Nat} {c : Option Nat} {k : Nat} {xs : List (List UInt8)} {w : List UInt8} {cap : Option Nat} {P : Option (Nat × Nat) → Nat → Option Nat → Nat → Heap → Prop} (hL : StrL h a l c k xs) (hb : xs.length + 1 ≤ 2 ^ 20)
    (hk : ∀ a' l' c' k' h', StrL h' a' l' c' k' (xs ++ [w]) → P a' l' c' k' h') : ∃ a' l' c' k' h', appendH Tryd.Y h 51 51 (.sl a l c k) (.ts [.s w] 1 cap) = some (.sl a' l' c' k', h') ∧ P a' l' c' k' h' := by
  obtain ⟨a1, l1, c1, k1, h1, q1, q2, -⟩ := hL.app [w] cap (by simpa using hb)
  exact ⟨a1, l1, c1, k1, h1, q1, hk _ _ _ _ _ q2⟩
theorem app2 {h : Heap} {a : Option (Nat × Nat)} {l : Nat} {c : Option Nat} {k : Nat} {xs : List (List UInt8)} {w u : List UInt8} {cap : Option Nat} {P : Option (Nat × Nat) → Nat → Option Nat → Nat → Heap → Prop} (hL : StrL h a l c k xs) (hb : xs.length + 2 ≤ 2 ^ 20)
    (hk : ∀ a' l' c' k' h', StrL h' a' l' c' k' (xs ++ [w, u]) → P a' l' c' k' h') : ∃ a' l' c' k' h', appendH Tryd.Y h 51 51 (.sl a l c k) (.ts [.s w, .s u] 2 cap) = some (.sl a' l' c' k', h') ∧ P a' l' c' k' h' := by
  obtain ⟨a1, l1, c1, k1, h1, q1, q2, -⟩ := hL.app [w, u] cap (by simpa using hb)
  exact ⟨a1, l1, c1, k1, h1, q1, hk _ _ _ _ _ q2⟩

def wpeer : List UInt8 := [112, 101, 101, 114]
def wshut : List UInt8 := [115, 104, 117, 116]
def weof : List UInt8 := [101, 111, 102]
def wtyped : List UInt8 := [116, 121, 112, 101, 100]
def wlines : List UInt8 := [108, 105, 110, 101, 115]
def wfly : List UInt8 := [102, 108, 121]
def wready : List UInt8 := [114, 101, 97, 100, 121]
def wbuffer : List UInt8 := [98, 117, 102, 102, 101, 114]
def optW (b : Bool) (w : List UInt8) : List (List UInt8) := if b then [w] else []
def txtW (w s : List UInt8) : List (List UInt8) := if (!s == []) then [w, quoteS s] else []
def sideP (i : Int) (s : Side) : List (List UInt8) := [wpeer, itoa i, itoa s.place, itoa s.clock] ++ optW s.shut wshut ++ optW s.eof weof ++ txtW wtyped s.typed ++ optW (ltI 0 (s.lines.length : Nat)) wlines
def sideW (i : Int) (s : Side) : List (List UInt8) := sideP i s ++ s.lines.map quoteS ++ (txtW wfly s.fly ++ txtW wready s.ready ++ txtW wbuffer s.buffer)
structure okSd (s : Side) : Prop where
  place : okI s.place
  clock : okI s.clock
  typed : s.typed.length ≤ 1000
  lines : s.lines.length ≤ 100
  line : ∀ x ∈ s.lines, x.length ≤ 1000
  fly : s.fly.length ≤ 1000
  ready : s.ready.length ≤ 1000
  buffer : s.buffer.length ≤ 1000

theorem StrL.eq {h : Heap} {a : Option (Nat × Nat)} {l : Nat} {c : Option Nat} {k : Nat} {xs ys : List (List UInt8)} (hL : StrL h a l c k xs) (e : xs = ys) : StrL h a l c k ys := e ▸ hL
theorem sideP_len (i : Int) (s : Side) : (sideP i s).length ≤ 9 := by
  have h1 : (optW s.shut wshut).length ≤ 1 := by unfold optW; split <;> simp
  have h2 : (optW s.eof weof).length ≤ 1 := by unfold optW; split <;> simp
  have h3 : (optW (ltI 0 (s.lines.length : Nat)) wlines).length ≤ 1 := by unfold optW; split <;> simp
  have h4 : (txtW wtyped s.typed).length ≤ 2 := by unfold txtW; split <;> simp
  simp only [sideP, List.length_append, List.length_cons, List.length_nil]; omega

theorem sumL_append : ∀ (a b : List (List UInt8)), sumL (a ++ b) = sumL a + sumL b
  | [], b => by simp [sumL]
  | x :: a, b => by simp only [List.cons_append, sumL, sumL_append a b]; omega
theorem sum_opt (b : Bool) (w : List UInt8) : sumL (optW b w) ≤ w.length + 1 := by unfold optW; split <;> simp [sumL]
theorem sum_txt (w s : List UInt8) : sumL (txtW w s) ≤ w.length + 4 * s.length + 4 := by
  have := quoteS_len s
  unfold txtW; split <;> simp [sumL]; omega
theorem sum_quote : ∀ {l : List (List UInt8)}, (∀ x ∈ l, x.length ≤ 1000) → sumL (l.map quoteS) ≤ 4003 * l.length
  | [], _ => by simp [sumL]
  | a :: l, h => by
    have h1 := quoteS_len a
    have h2 := h a (by simp)
    have h3 := sum_quote (l := l) fun x hx => h x (List.mem_cons_of_mem _ hx)
    simp only [List.map_cons, sumL, List.length_cons]; omega
theorem sideW_sum {i : Int} {s : Side} (hi : okI i) (hs : okSd s) : sumL (sideW i s) ≤ 500000 := by
  have a1 := itoa_len hi; have a2 := itoa_len hs.place; have a3 := itoa_len hs.clock
  have b1 := sum_opt s.shut wshut; have b2 := sum_opt s.eof weof; have b3 := sum_opt (ltI 0 (s.lines.length : Nat)) wlines
  have c1 := sum_txt wtyped s.typed; have c2 := sum_txt wfly s.fly; have c3 := sum_txt wready s.ready; have c4 := sum_txt wbuffer s.buffer
  have d := sum_quote hs.line
  have e1 := hs.typed; have e2 := hs.fly; have e3 := hs.ready; have e4 := hs.buffer; have e5 := hs.lines
  simp only [sideW, sideP, sumL_append, sumL]
  simp only [wpeer, wshut, weof, wlines, wtyped, wfly, wready, wbuffer, List.length_cons, List.length_nil] at *
  omega
theorem sideW_len (i : Int) {s : Side} (hs : okSd s) : (sideW i s).length ≤ 200 := by
  have := sideP_len i s
  have tl : ∀ w x, (txtW w x).length ≤ 2 := fun w x => by unfold txtW; split <;> simp
  have h1 := tl wfly s.fly; have h2 := tl wready s.ready; have h3 := tl wbuffer s.buffer
  have := hs.lines
  simp only [sideW, List.length_append, List.length_map]; omega

set_option maxHeartbeats 1000000 in
theorem side_con {i : Int} {s : Side} (hi : okI i) (hs : okSd s) : PCon Tryd.Y 27 [.i .i64 i, .agg (sideC s)] (· = .s (lnS (sideW i s))) := by
  refine pcon_of Tryd.Yok (fn := Tryd.f27) (by kernel_rfl) (by kernel_rfl) rfl ?_
  have hn : PCon Tryd.Y 14 [.ts [.i .i64 i, .i .i64 s.place, .i .i64 s.clock] 3 (some 3)] (· = lst encT [itoa i, itoa s.place, itoa s.clock]) :=
    (nums_con [i, s.place, s.clock] (by simp) (by simp; exact ⟨hi, hs.place, hs.clock⟩)).wk (.one _ _ _ _ (.inr (.inr ⟨_, _, _, rfl, rfl⟩)) .nil)
  obtain ⟨a, l, c, k, h', q1, q2, -⟩ := lit_app .empty wpeer [itoa i, itoa s.place, itoa s.clock] (by simp)
  have ht : PCon Tryd.Y 11 [.s s.typed] (· = .s (quoteS s.typed)) := text_con (by have := hs.typed; omega)
  refine pre_tree Tryd.Yok 87 (fun K => f27_0 i s.on s.shut s.eof s.place s.clock s.typed (row encT s.lines) s.lines.length s.fly (row encI s.ages) s.ages.length s.ready s.buffer .empty K) rfl (by kernel_rfl) ?_
  refine ⟨_, _, _, hn, a, l, c, k, h', q1, ?_⟩
  clear q1 hn
  generalize hG : PreV Tryd.Y 87 [3, 5, 46, 47, 48] _ _ = G
  suffices hK : ∀ a l c k h, StrL h a l c k (sideP i s) → G .normal 87 [.lb (sideC s), .sl a l c k, lst encT s.lines, .i .i64 s.lines.length, .i .i64 0] h by
    repeat' first
      | with_reducible refine if_mk (fun _ => ?_) (fun _ => ?_)
      | with_reducible refine app1 (by assumption) (by simp) (fun _ _ _ _ _ _ => ?_)
      | with_reducible refine app2 (by assumption) (by simp) (fun _ _ _ _ _ _ => ?_)
      | with_reducible refine ⟨_, ht, ?_⟩
      | with_reducible refine hK _ _ _ _ _ (StrL.eq (by assumption) ?_)
    all_goals simp only [sideP, optW, txtW, *, if_true, if_false, Bool.false_eq_true, List.append_nil, List.append_assoc, List.cons_append, List.nil_append]
    all_goals rfl
  clear q2 ht
  subst hG
  intro a l c k h hL
  have hp := sideP_len i s
  have hll := hs.lines
  refine ⟨rfl, loop2 [3, 5, 46, 47, 48] [3, 5, 46, 47, 48] rfl (by kernel_rfl) (fun m vs h => ∃ (j : Nat) (a : Option (Nat × Nat)) (l : Nat) (c : Option Nat) (k : Nat), vs = [.lb (sideC s), .sl a l c k, lst encT s.lines, .i .i64 s.lines.length, .i .i64 (j : Nat)] ∧ j ≤ s.lines.length ∧ m = s.lines.length - j ∧ StrL h a l c k (sideP i s ++ (s.lines.take j).map quoteS)) s.lines.length mk_len ⟨0, _, _, _, _, rfl, by omega, by omega, by simpa using hL⟩ ?_⟩
  rintro m vs h ⟨j, a, l, c, k, rfl, hj, rfl, hL⟩
  refine all_rule Tryd.Yok (loc := Tryd.Y.loc 27) 100 [3, 5, 46, 47, 48] ?_
  refine Eq.mpr (f27_1 s.on s.shut s.eof s.place s.clock (row encT s.lines) s.lines.length (row encI s.ages) s.ages.length s.typed s.fly s.ready s.buffer a l c k (j : Nat) h _) ?_
  refine if_lt_nat (fun hlt => ?_) (fun hge => ?_)
  · have hx := hs.line _ (List.getElem_mem hlt)
    refine ⟨bnd_nat hlt, s.lines[j], by rw [Int.toNat_natCast]; exact row_get (f := encT) (k := 1) encT_len hlt, _, text_con (by omega), ?_⟩
    refine app1 hL (by simp; omega) (fun a' l' c' k' h' hL' => ?_)
    refine ⟨rfl, s.lines.length - (j + 1), by omega, j + 1, a', l', c', k', by rw [wrap_succ (by omega)]; rfl, by omega, rfl, ?_⟩
    rw [List.take_succ_eq_append_getElem hlt, List.map_append, ← List.append_assoc]; exact hL'
  refine roundW_exit [3, 5] (by kernel_rfl) rfl rfl ?_
  rw [List.take_of_length_le hge] at hL
  refine pre_tree Tryd.Yok 87 (fun K => f27_2 s.on s.shut s.eof s.place s.clock (row encT s.lines) s.lines.length (row encI s.ages) s.ages.length a l c k s.typed s.fly s.ready s.buffer h K) rfl (by kernel_rfl) ?_
  let T : List (List (List UInt8)) := [txtW wfly s.fly, txtW wready s.ready, txtW wbuffer s.buffer]
  have tl : ∀ w x, (txtW w x).length ≤ 2 := fun w x => by unfold txtW; split <;> simp
  refine ⟨rfl, loop2 [5, 67, 68, 69] [5, 67, 68, 69] rfl (by kernel_rfl) (fun m vs h => ∃ (j : Nat) (a : Option (Nat × Nat)) (l : Nat) (c : Option Nat) (k : Nat), vs = [.sl a l c k, .ts [.s wfly, .s s.fly, .s wready, .s s.ready, .s wbuffer, .s s.buffer] 3 (some 3), .i .i64 3, .i .i64 (j : Nat)] ∧ j ≤ 3 ∧ m = 3 - j ∧ StrL h a l c k (sideP i s ++ s.lines.map quoteS ++ (T.take j).flatten)) 3 mk_len ⟨0, _, _, _, _, rfl, by omega, by omega, by simpa using hL⟩ ?_⟩
  rintro m vs h ⟨j, a, l, c, k, rfl, hj, rfl, hL⟩
  refine all_tree Tryd.Yok (fun K => f27_3 a l c k [.s wfly, .s s.fly, .s wready, .s s.ready, .s wbuffer, .s s.buffer] 3 3 (j : Nat) h K) rfl ?_
  have hfl : ((T.take j).flatten).length ≤ 6 := by
    have h1 := tl wfly s.fly
    have h2 := tl wready s.ready
    have h3 := tl wbuffer s.buffer
    match j, hj with
    | 0, _ => simp
    | 1, _ => simp [T]; omega
    | 2, _ => simp [T]; omega
    | 3, _ => simp [T]; omega
  have hsz : (sideP i s ++ s.lines.map quoteS ++ (T.take j).flatten).length + 2 ≤ 2 ^ 20 := by simp only [List.length_append, List.length_map]; omega
  refine if_lt_nat (b := 3) (fun hlt => ?_) (fun hge => ?_)
  · have go : ∀ (w x : List UInt8), x.length ≤ 1000 → takeX 2 (List.drop (((j : Nat) : Int).toNat * 2) [V.s wfly, .s s.fly, .s wready, .s s.ready, .s wbuffer, .s s.buffer]) = some [.s w, .s x] → (T.take (j + 1)).flatten = (T.take j).flatten ++ txtW w x →
        ∃ s_1 s_2 : List UInt8, takeX 2 (List.drop (((j : Nat) : Int).toNat * 2) [V.s wfly, .s s.fly, .s wready, .s s.ready, .s wbuffer, .s s.buffer]) = some [.s s_1, .s s_2] ∧ If (!s_2 == []) (∃ s_3, PCon Tryd.Y 11 [.s s_2] (fun v => v = .s s_3) ∧ ∃ a_1 l_1 c_1 k_1 h_1, appendH Tryd.Y h 51 51 (.sl a l c k) (.ts [.s s_1, .s s_3] 2 (some 2)) = some (.sl a_1 l_1 c_1 k_1, h_1) ∧
          (RoundW Tryd.Y 87 [5, 67, 68, 69] [5, 67, 68, 69] (fun m vs h => ∃ (j : Nat) (a : Option (Nat × Nat)) (l : Nat) (c : Option Nat) (k : Nat), vs = [.sl a l c k, .ts [.s wfly, .s s.fly, .s wready, .s s.ready, .s wbuffer, .s s.buffer] 3 (some 3), .i .i64 3, .i .i64 (j : Nat)] ∧ j ≤ 3 ∧ m = 3 - j ∧ StrL h a l c k (sideP i s ++ s.lines.map quoteS ++ (T.take j).flatten)) (3 - j) (loopId (post ((post (flat (bodyOf Tryd.f27))).drop 1))) (List.drop 1 (post ((post (flat (bodyOf Tryd.f27))).drop 1))) (FinS Tryd.Y Tryd.f27 fun v h => ∃ r, Frz h v r ∧ r = .s (lnS (sideW i s))))
            .normal 87 [.sl a_1 l_1 c_1 k_1, .ts [.s wfly, .s s.fly, .s wready, .s s.ready, .s wbuffer, .s s.buffer] 3 (some 3), .i .i64 3, .i .i64 (IntKind.i64.wrap ((j : Nat) + 1))] h_1)
          ((RoundW Tryd.Y 87 [5, 67, 68, 69] [5, 67, 68, 69] (fun m vs h => ∃ (j : Nat) (a : Option (Nat × Nat)) (l : Nat) (c : Option Nat) (k : Nat), vs = [.sl a l c k, .ts [.s wfly, .s s.fly, .s wready, .s s.ready, .s wbuffer, .s s.buffer] 3 (some 3), .i .i64 3, .i .i64 (j : Nat)] ∧ j ≤ 3 ∧ m = 3 - j ∧ StrL h a l c k (sideP i s ++ s.lines.map quoteS ++ (T.take j).flatten)) (3 - j) (loopId (post ((post (flat (bodyOf Tryd.f27))).drop 1))) (List.drop 1 (post ((post (flat (bodyOf Tryd.f27))).drop 1))) (FinS Tryd.Y Tryd.f27 fun v h => ∃ r, Frz h v r ∧ r = .s (lnS (sideW i s))))
            .normal 87 [.sl a l c k, .ts [.s wfly, .s s.fly, .s wready, .s s.ready, .s wbuffer, .s s.buffer] 3 (some 3), .i .i64 3, .i .i64 (IntKind.i64.wrap ((j : Nat) + 1))] h) := by
      intro w x hx hg ht
      refine ⟨w, x, hg, if_mk (fun he => ⟨_, text_con (by omega), app2 hL hsz (fun a' l' c' k' h' hL' => ⟨rfl, 3 - (j + 1), by omega, j + 1, a', l', c', k', by rw [wrap_succ (by omega)]; rfl, by omega, rfl, ?_⟩)⟩) (fun he => ⟨rfl, 3 - (j + 1), by omega, j + 1, a, l, c, k, by rw [wrap_succ (by omega)]; rfl, by omega, rfl, ?_⟩)⟩
      · rw [ht, txtW, if_pos he, ← List.append_assoc]; exact hL'
      · rw [ht, txtW, if_neg (by rw [he]; simp), List.append_nil]; exact hL
    refine ⟨⟨by omega, by omega⟩, ?_⟩
    match j, hlt, go with
    | 0, _, go => exact go wfly s.fly hs.fly rfl (by simp [T])
    | 1, _, go => exact go wready s.ready hs.ready rfl (by simp [T])
    | 2, _, go => exact go wbuffer s.buffer hs.buffer rfl (by simp [T])
  refine roundW_exit [5] (by kernel_rfl) rfl rfl ?_
  refine end_tree Tryd.Yok (fun K => f27_4 a l c k h K) rfl ?_
  have hj3 : j = 3 := by omega
  subst hj3
  have hL : StrL h a l c k (sideW i s) := hL.eq (by simp [sideW, T])
  have w1 := sideW_len i hs
  have w2 := sideW_sum hi hs
  exact ⟨_, line_f hL (by omega) (by omega), finV1 (.inr rfl) rfl (.s _) rfl⟩
end Go.Y
