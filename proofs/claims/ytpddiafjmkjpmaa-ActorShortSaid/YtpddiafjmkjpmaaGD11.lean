/- What the pieces of functions come to: printed by program. -/
import Derived.Test.YtpddiafjmkjpmaaYTryP
import Derived.Test.YtpddiafjmkjpmaaYLoop
import Derived.Test.YtpddiafjmkjpmaaGActS
import Derived.Test.YtpddiafjmkjpmaaGD10
namespace Go.Y
open Go.Proofs
set_option maxRecDepth 100000
set_option maxHeartbeats 0
theorem f84p_0 (cs0 : List V) (n0 : Nat) (id1 : Nat) (id2 : Nat) (h : Heap) (K : Out → Nat → List V → Heap → Prop) : (codeP Try.Y (Try.Y.loc 84) 100 ((flat (bodyOf Try.f84))) ⟨(V.ts cs0 n0 none :: V.fn (Fn.func 85) [] [V.p (some (id1, 0)), V.p (some (id2, 0))] :: List.replicate 7 .undef), [], h⟩ (VQ [4] K)) =
  (Con Try.Y (110 : Nat)
  [V.ts cs0 n0 none, V.fn (Fn.func 85) [] [V.p (some (id1, 0)), V.p (some (id2, 0))]] h
  fun (v : V) (h' : Heap) => ∃ (n : Int), v = V.i IntKind.i64 n ∧ K Out.ret 9 [V.b (leI (0 : Int) n)] h') := by kernel_rfl
theorem f110p_0 (cs0 : List V) (n0 : Nat) (id1 : Nat) (id2 : Nat) (h : Heap) (K : Out → Nat → List V → Heap → Prop) : (codeP Try.Y (Try.Y.loc 110) 100 (pre (flat (bodyOf Try.f110))) ⟨(V.ts cs0 n0 none :: V.fn (Fn.func 85) [] [V.p (some (id1, 0)), V.p (some (id2, 0))] :: List.replicate 17 .undef), [], h⟩ (VQ [0, 1, 7, 8] K)) =
  (K Out.normal 19
  [V.ts cs0 n0 none, V.fn (Fn.func 85) [] [V.p (some (id1, 0)), V.p (some (id2, 0))],
 V.i IntKind.i64 (↑n0 : Int), V.i IntKind.i64 (0 : Int)]
  h) := by kernel_rfl
theorem f110p_1 (cs0 : List V) (n0 : Nat) (id1 : Nat) (id2 : Nat) (x8 : Int) (h : Heap) (K : Out → Nat → List V → Heap → Prop) : (codeP Try.Y (Try.Y.loc 110) 100 ((flat (loopB (post (flat (bodyOf Try.f110)))))) ⟨mk 19 (([0, 1, 7, 8] : List Nat).zip [V.ts cs0 n0 none, V.fn (Fn.func 85) [] [V.p (some (id1, 0)), V.p (some (id2, 0))], V.i IntKind.i64 (↑n0 : Int), V.i IntKind.i64 x8]), [], h⟩ (VQ [0, 1, 4, 7, 8] K)) =
  (If (ltI x8 (↑n0 : Int))
  (((0 : Int) ≤ x8 ∧ x8 < (↑n0 : Int)) ∧
 ∃ (n : Int),
 ∃ (s : List UInt8),
 ∃ (n_1 : Int),
 ∃ (n_2 : Int),
 ∃ (n_3 : Int),
 takeX 5 (List.drop (x8.toNat * (5 : Nat)) cs0) =
 some [V.i IntKind.i64 n, V.s s, V.i IntKind.i64 n_1, V.i IntKind.i64 n_2, V.i IntKind.i64 n_3] ∧
 Con Try.Y 85
 [V.agg [V.i IntKind.i64 n, V.s s, V.i IntKind.i64 n_1, V.i IntKind.i64 n_2, V.i IntKind.i64 n_3],
 V.p (some (id1, 0)), V.p (some (id2, 0))]
 h fun (v : V) (h' : Heap) =>
 ∃ (b : Bool),
 v = V.b b ∧
 If b
 (K Out.ret 19
 [V.ts cs0 n0 none,
 V.fn (Fn.func 85) [] [V.p (some (id1, 0)), V.p (some (id2, 0))],
 V.i IntKind.i64 x8, V.i IntKind.i64 (↑n0 : Int), V.i IntKind.i64 x8]
 h')
 (K Out.normal 19
 [V.ts cs0 n0 none,
 V.fn (Fn.func 85) [] [V.p (some (id1, 0)), V.p (some (id2, 0))],
 V.undef, V.i IntKind.i64 (↑n0 : Int), V.i IntKind.i64 (IntKind.i64.wrap (x8 + (1 : Int)))]
 h'))
  (K (Out.exit 0) 19
 [V.ts cs0 n0 none, V.fn (Fn.func 85) [] [V.p (some (id1, 0)), V.p (some (id2, 0))],
 V.undef, V.i IntKind.i64 (↑n0 : Int), V.i IntKind.i64 x8]
 h)) := by kernel_rfl
theorem f110p_2  (h : Heap) (K : Out → Nat → List V → Heap → Prop) : (codeP Try.Y (Try.Y.loc 110) 100 (((post (flat (bodyOf Try.f110))).drop 1)) ⟨mk 19 (([] : List Nat).zip []), [], h⟩ (VQ [4] K)) =
  (K Out.ret 19 [V.i IntKind.i64 (-1 : Int)] h) := by kernel_rfl
theorem f84q_0 (cs0 : List V) (n0 : Nat) (id1 : Nat) (id2 : Nat) (h : Heap) (K : Out → Nat → List V → Heap → Prop) : (codeP Try.Y (Try.Y.loc 84) 100 ((flat (bodyOf Try.f84))) ⟨(V.ts cs0 n0 none :: V.fn (Fn.func 87) [] [V.p (some (id1, 0)), V.p (some (id2, 0))] :: List.replicate 7 .undef), [], h⟩ (VQ [4] K)) =
  (Con Try.Y (110 : Nat)
  [V.ts cs0 n0 none, V.fn (Fn.func 87) [] [V.p (some (id1, 0)), V.p (some (id2, 0))]] h
  fun (v : V) (h' : Heap) => ∃ (n : Int), v = V.i IntKind.i64 n ∧ K Out.ret 9 [V.b (leI (0 : Int) n)] h') := by kernel_rfl
theorem f110q_0 (cs0 : List V) (n0 : Nat) (id1 : Nat) (id2 : Nat) (h : Heap) (K : Out → Nat → List V → Heap → Prop) : (codeP Try.Y (Try.Y.loc 110) 100 (pre (flat (bodyOf Try.f110))) ⟨(V.ts cs0 n0 none :: V.fn (Fn.func 87) [] [V.p (some (id1, 0)), V.p (some (id2, 0))] :: List.replicate 17 .undef), [], h⟩ (VQ [0, 1, 7, 8] K)) =
  (K Out.normal 19
  [V.ts cs0 n0 none, V.fn (Fn.func 87) [] [V.p (some (id1, 0)), V.p (some (id2, 0))],
 V.i IntKind.i64 (↑n0 : Int), V.i IntKind.i64 (0 : Int)]
  h) := by kernel_rfl
theorem f110q_1 (cs0 : List V) (n0 : Nat) (id1 : Nat) (id2 : Nat) (x8 : Int) (h : Heap) (K : Out → Nat → List V → Heap → Prop) : (codeP Try.Y (Try.Y.loc 110) 100 ((flat (loopB (post (flat (bodyOf Try.f110)))))) ⟨mk 19 (([0, 1, 7, 8] : List Nat).zip [V.ts cs0 n0 none, V.fn (Fn.func 87) [] [V.p (some (id1, 0)), V.p (some (id2, 0))], V.i IntKind.i64 (↑n0 : Int), V.i IntKind.i64 x8]), [], h⟩ (VQ [0, 1, 4, 7, 8] K)) =
  (If (ltI x8 (↑n0 : Int))
  (((0 : Int) ≤ x8 ∧ x8 < (↑n0 : Int)) ∧
 ∃ (n : Int),
 ∃ (s : List UInt8),
 ∃ (n_1 : Int),
 ∃ (n_2 : Int),
 ∃ (n_3 : Int),
 takeX 5 (List.drop (x8.toNat * (5 : Nat)) cs0) =
 some [V.i IntKind.i64 n, V.s s, V.i IntKind.i64 n_1, V.i IntKind.i64 n_2, V.i IntKind.i64 n_3] ∧
 ∃ (b : Bool),
 RCon Try.Y 87
 [V.agg [V.i IntKind.i64 n, V.s s, V.i IntKind.i64 n_1, V.i IntKind.i64 n_2, V.i IntKind.i64 n_3],
 V.p (some (id1, 0)), V.p (some (id2, 0))]
 h (V.b b) ∧
 If b
 (K Out.ret 19
 [V.ts cs0 n0 none,
 V.fn (Fn.func 87) [] [V.p (some (id1, 0)), V.p (some (id2, 0))],
 V.i IntKind.i64 x8, V.i IntKind.i64 (↑n0 : Int), V.i IntKind.i64 x8]
 h)
 (K Out.normal 19
 [V.ts cs0 n0 none,
 V.fn (Fn.func 87) [] [V.p (some (id1, 0)), V.p (some (id2, 0))],
 V.undef, V.i IntKind.i64 (↑n0 : Int), V.i IntKind.i64 (IntKind.i64.wrap (x8 + (1 : Int)))]
 h))
  (K (Out.exit 0) 19
 [V.ts cs0 n0 none, V.fn (Fn.func 87) [] [V.p (some (id1, 0)), V.p (some (id2, 0))],
 V.undef, V.i IntKind.i64 (↑n0 : Int), V.i IntKind.i64 x8]
 h)) := by kernel_rfl
theorem f110q_2  (h : Heap) (K : Out → Nat → List V → Heap → Prop) : (codeP Try.Y (Try.Y.loc 110) 100 (((post (flat (bodyOf Try.f110))).drop 1)) ⟨mk 19 (([] : List Nat).zip []), [], h⟩ (VQ [4] K)) =
  (K Out.ret 19 [V.i IntKind.i64 (-1 : Int)] h) := by kernel_rfl
theorem f85_0 (x0Kind : Int) (s0Text : List UInt8) (x0Lo : Int) (x0Hi : Int) (x0To : Int) (id1 : Nat) (id2 : Nat) (h : Heap) (K : Out → Nat → List V → Heap → Prop) : (codeP Try.Y (Try.Y.loc 85) 100 ((flat (bodyOf Try.f85))) ⟨(V.agg [V.i IntKind.i64 x0Kind, V.s s0Text, V.i IntKind.i64 x0Lo, V.i IntKind.i64 x0Hi, V.i IntKind.i64 x0To] :: V.p (some (id1, 0)) :: V.p (some (id2, 0)) :: List.replicate 6 .undef), [], h⟩ (VQ [4] K)) =
  (∃ (b : Bool),
  ∃ (b_1 : Bool),
 ∃ (b_2 : Bool),
 ∃ (n : Int),
 ∃ (n_1 : Int),
 ∃ (s : List UInt8),
 ∃ (cs : List V),
 ∃ (l : Nat),
 ∃ (c : Option Nat),
 ∃ (s_1 : List UInt8),
 ∃ (cs_1 : List V),
 ∃ (l_1 : Nat),
 ∃ (c_1 : Option Nat),
 ∃ (s_2 : List UInt8),
 ∃ (s_3 : List UInt8),
 hcells h id1 0 11 =
 some
 [V.b b, V.b b_1, V.b b_2, V.i IntKind.i64 n, V.i IntKind.i64 n_1, V.s s,
 V.ts cs l c, V.s s_1, V.ts cs_1 l_1 c_1, V.s s_2, V.s s_3] ∧
 ∃ (n_2 : Int),
 ∃ (cs_2 : List V),
 ∃ (l_2 : Nat),
 ∃ (c_2 : Option Nat),
 hcells h id2 0 2 =
 some [V.i IntKind.i64 n_2, V.ts cs_2 l_2 c_2] ∧
 ∃ (b_3 : Bool),
 (PCon Try.Y (86 : Nat)
 [V.agg
 [V.b b, V.b b_1, V.b b_2, V.i IntKind.i64 n, V.i IntKind.i64 n_1,
 V.s s, V.ts cs l c, V.s s_1, V.ts cs_1 l_1 c_1, V.s s_2, V.s s_3],
 V.agg [V.i IntKind.i64 n_2, V.ts cs_2 l_2 c_2],
 V.agg
 [V.i IntKind.i64 x0Kind, V.s s0Text, V.i IntKind.i64 x0Lo,
 V.i IntKind.i64 x0Hi, V.i IntKind.i64 x0To]]
 fun (v : V) => v = V.b b_3) ∧
 K Out.ret 9 [V.b b_3] h) := by kernel_rfl
theorem f87_0 (x0Kind : Int) (s0Text : List UInt8) (x0Lo : Int) (x0Hi : Int) (x0To : Int) (id1 : Nat) (id2 : Nat) (h : Heap) (K : Out → Nat → List V → Heap → Prop) : (codeP Try.Y (Try.Y.loc 87) 100 ((flat (bodyOf Try.f87))) ⟨(V.agg [V.i IntKind.i64 x0Kind, V.s s0Text, V.i IntKind.i64 x0Lo, V.i IntKind.i64 x0Hi, V.i IntKind.i64 x0To] :: V.p (some (id1, 0)) :: V.p (some (id2, 0)) :: List.replicate 28 .undef), [], h⟩ (VQ [4] K)) =
  (If (x0Kind == (3 : Int))
  (∃ (n : Int),
 hcells h id1 4 1 = some [V.i IntKind.i64 n] ∧ K Out.ret 31 [V.b (ltI n x0Lo)] h)
  (If (x0Kind == (1 : Int))
 (∃ (b : Bool),
 ∃ (b_1 : Bool),
 ∃ (b_2 : Bool),
 ∃ (n : Int),
 ∃ (n_1 : Int),
 ∃ (s : List UInt8),
 ∃ (cs : List V),
 ∃ (l : Nat),
 ∃ (c : Option Nat),
 ∃ (s_1 : List UInt8),
 ∃ (cs_1 : List V),
 ∃ (l_1 : Nat),
 ∃ (c_1 : Option Nat),
 ∃ (s_2 : List UInt8),
 ∃ (s_3 : List UInt8),
 hcells h id1 0 11 =
 some
 [V.b b, V.b b_1, V.b b_2, V.i IntKind.i64 n, V.i IntKind.i64 n_1, V.s s,
 V.ts cs l c, V.s s_1, V.ts cs_1 l_1 c_1, V.s s_2, V.s s_3] ∧
 ∃ (n_2 : Int),
 ∃ (cs_2 : List V),
 ∃ (l_2 : Nat),
 ∃ (c_2 : Option Nat),
 hcells h id2 0 2 =
 some [V.i IntKind.i64 n_2, V.ts cs_2 l_2 c_2] ∧
 ∃ (n_3 : Int),
 (PCon Try.Y (52 : Nat)
 [V.agg
 [V.b b, V.b b_1, V.b b_2, V.i IntKind.i64 n,
 V.i IntKind.i64 n_1, V.s s, V.ts cs l c, V.s s_1,
 V.ts cs_1 l_1 c_1, V.s s_2, V.s s_3],
 V.agg [V.i IntKind.i64 n_2, V.ts cs_2 l_2 c_2]]
 fun (v : V) => v = V.i IntKind.i64 n_3) ∧
 If (leI (↑s0Text.length : Int) n_3)
 (∃ (n : Int),
 hcells h id1 4 1 = some [V.i IntKind.i64 n] ∧
 K Out.ret 31 [V.b (ltI n x0Lo)] h)
 (K Out.ret 31 [V.b false] h))
 (K Out.ret 31 [V.b false] h))) := by kernel_rfl
end Go.Y

/- What a peer may do, by contracts. -/
namespace Go.Y
open Go.Proofs
set_option maxRecDepth 100000
set_option maxHeartbeats 1000000

/-- Sides whose lists are short. -/
structure BdS (s : Side) : Prop where
  ag : s.ages.length < 2 ^ 20
  ln : s.lines.length < 2 ^ 20
  el : ∀ x ∈ s.lines, x.length < 2 ^ 20
  ty : s.typed.length < 2 ^ 20
  fl : s.fly.length < 2 ^ 20
theorem BdS.tick {s : Side} (b : BdS s) : BdS (tickS s) := ⟨by simpa [tickS] using b.ag, b.ln, b.el, b.ty, b.fl⟩
theorem BdS.short {s : Side} (b : BdS s) (l : List Plc) : BdS (shortS s l) := ⟨b.ag, b.ln, b.el, b.ty, b.fl⟩

/-! ### Tick -/
def RTickI (s : Side) (m : Nat) (vs : List V) (h : Heap) : Prop :=
  ∃ (i : Nat) (a : Option (Nat × Nat)) (l : Nat) (c : Option Nat) (k : Nat), vs = [.lb (sideC s), .lb side0, .sl a l c k, .i .i64 (i : Nat)] ∧ i ≤ s.ages.length ∧ m = s.ages.length - i ∧ Lst encI 1 h a l c k ((s.ages.take i).map bump)

theorem rtick_con (s : Side) (hl : s.ages.length < 2 ^ 29) : PCon Try.Y 46 [.agg (sideC s)] (· = .agg (sideC (tickS s))) := by
  refine pcon_of Try.Yok (fn := Try.f46) (by kernel_rfl) (by kernel_rfl) rfl ?_
  refine pre_rule Try.Yok (n := 35) (loc := Try.Y.loc 46) 100 [1, 2, 3, 4] (by kernel_rfl) ?_
  refine Eq.mpr (f46_0 s.on s.shut s.eof s.place s.clock s.typed (row encT s.lines) s.lines.length s.fly (row encI s.ages) s.ages.length s.ready s.buffer .empty _) ?_
  refine ⟨rfl, loop2 [1, 2, 3, 4] [1, 2, 3, 4] rfl (by kernel_rfl) (RTickI s) s.ages.length mk_len ⟨0, _, _, _, _, rfl, by omega, by omega, Lst.nil _ _ _ _ _⟩ ?_⟩
  rintro m vs h ⟨i, a, l, c, k, rfl, hi, rfl, hL⟩
  refine all_rule Try.Yok (loc := Try.Y.loc 46) 100 [1, 2, 3, 4] ?_
  refine Eq.mpr (f46_1 s.on s.shut s.eof s.place s.clock s.typed (row encT s.lines) s.lines.length s.fly (row encI s.ages) s.ages.length s.ready s.buffer a l c k (i : Nat) h _) ?_
  refine if_lt_nat (fun hlt => ?_) (fun hge => ?_)
  · obtain ⟨a', l', c', k', h', q1, q2, _, _⟩ := ints_app1 ((s.ages.take i).map bump) (bump s.ages[i]) hL (by simp; omega)
    refine ⟨bnd_nat hlt, s.ages[i], by rw [Int.toNat_natCast]; exact row_get (f := encI) (k := 1) encI_len hlt, a', l', c', k', h', q1, ?_⟩
    refine ⟨rfl, s.ages.length - (i + 1), by omega, i + 1, a', l', c', k', by rw [wrap_succ (by omega)]; rfl, by omega, rfl, ?_⟩
    rw [List.take_succ_eq_append_getElem hlt, List.map_append]; exact q2
  · refine roundW_exit [1, 2, 3] (by kernel_rfl) rfl rfl ?_
    refine end_rule Try.Yok (loc := Try.Y.loc 46) 100 [2] ?_
    refine Eq.mpr (f46_2 s.on s.shut s.eof s.place s.clock s.typed (row encT s.lines) s.lines.length s.fly (row encI s.ages) s.ages.length s.ready s.buffer a l c k h _) ?_
    rw [List.take_of_length_le hge] at hL
    have hF : Frz h (.sl a l c k) (lst encI (tickS s).ages) := hL.frz (by decide) encI_len
    have fin : ∀ x : Int, x = (tickS s).clock → Fin Try.Y Try.f46 [2] (fun v h => ∃ r, Frz h v r ∧ r = .agg (sideC (tickS s))) .ret 35 [.lb (sideL { s with clock := x } (lst encT s.lines) (.sl a l c k))] h := by
      rintro x rfl
      exact finV1 (.inr rfl) rfl (frz_sideL (frz_ts _ _ _ _) hF) rfl
    exact if_mk (fun h1 => if_mk (fun h2 => fin (IntKind.i64.wrap (s.clock + 1)) (by simp [tickS, h1] at h2 ⊢; simp [h2])) (fun h2 => fin s.clock (by simp [tickS, h1] at h2 ⊢; simp [h2]))) (fun h1 => fin s.clock (by simp [tickS, h1]))

/-! ### small -/
theorem small18_con (s : Side) (cap : Int) (l : List Plc) : PCon Try.Y 40 [.agg (sideC s), .agg (peerC cap l)] (· = .b (smallSd s && smallP l)) := by
  refine tree_con Try.Yok (fn := Try.f40) (by kernel_rfl) (by kernel_rfl) rfl (fun K => f40_0 s.on s.shut s.eof s.place s.clock s.typed (row encT s.lines) s.lines.length s.fly (row encI s.ages) s.ages.length s.ready s.buffer cap (row encPl l) l.length .empty K) rfl ?_
  refine ⟨_, smallSd_con s, if_mk (fun h => ⟨_, smallP_con cap l, finV1 (.inr rfl) rfl (.b _) (by rw [h]; rfl)⟩) (fun h => finV1 (.inr rfl) rfl (.b _) (by rw [h]; rfl))⟩

/-! ### Longest, Short -/
theorem place_edges {l : List Plc} {p : Int} (p0 : 0 ≤ p) (p1 : p < l.length) : ∃ x, l[p.toNat]? = some x ∧ takeX 1 (List.drop 2 (List.drop (p.toNat * 3) (row encPl l))) = some [lst encE x.edges] := by
  have hlt : p.toNat < l.length := by omega
  refine ⟨l[p.toNat], List.getElem?_eq_getElem hlt, ?_⟩
  rw [row_cons encPl_len l hlt]
  rfl
theorem max_if (a b : Int) : (if b > a then b else a) = max a b := by
  split <;> omega
theorem min_if (a b : Int) : (if b < a then b else a) = min a b := by
  split <;> omega

def LongI (es : List Edge) (m : Nat) (vs : List V) (_ : Heap) : Prop :=
  ∃ i : Nat, vs = [.i .i64 (longE (es.take i)), lst encE es, .i .i64 es.length, .i .i64 (i : Nat)] ∧ i ≤ es.length ∧ m = es.length - i
theorem longE_snoc (es : List Edge) (e : Edge) : longE (es ++ [e]) = max (max (longE es) e.lo) e.hi := by
  unfold longE; rw [List.foldl_append]; rfl

theorem longest_con (cap : Int) (l : List Plc) (p : Int) (hb : ∀ x ∈ l, x.edges.length < 2 ^ 30) : PCon Try.Y 81 [.agg (peerC cap l), .i .i64 p] (· = .i .i64 (longestS l p)) := by
  refine pcon_of Try.Yok (fn := Try.f81) (by kernel_rfl) (by kernel_rfl) rfl ?_
  refine pre_rule Try.Yok (n := 36) (loc := Try.Y.loc 81) 100 [4, 5, 22, 23, 24] (by kernel_rfl) ?_
  refine Eq.mpr (f81_0 cap (row encPl l) l.length p .empty _) ?_
  refine if_lt (fun h0 => fin_at (.inr rfl) rfl ⟨_, .i _ _, by unfold longestS; rw [if_pos h0]⟩) (fun h0 => if_le (fun h1 => fin_at (.inr rfl) rfl ⟨_, .i _ _, ?_⟩) (fun h1 => ?_))
  · unfold longestS
    rw [if_neg (by omega), List.getElem?_eq_none (by omega)]
  obtain ⟨x, hx, ht⟩ := place_edges h0 h1
  have hL : longestS l p = longE x.edges := by unfold longestS; rw [if_neg (by omega), hx]
  rw [hL]
  have hxl := hb x (List.mem_of_getElem? hx)
  refine ⟨⟨h0, h1⟩, row encE x.edges, x.edges.length, none, ht, rfl, loop2 [5, 22, 23, 24] [5, 22, 23, 24] rfl (by kernel_rfl) (LongI x.edges) x.edges.length mk_len ⟨0, rfl, by omega, by omega⟩ ?_⟩
  rintro m vs h ⟨i, rfl, hi, rfl⟩
  refine all_rule Try.Yok (loc := Try.Y.loc 81) 100 [5, 22, 23, 24] ?_
  refine Eq.mpr (f81_1 none (row encE x.edges) x.edges.length (x.edges.length : Nat) (longE (x.edges.take i)) (i : Nat) h _) ?_
  refine if_lt_nat (fun hlt => ?_) (fun hge => ?_)
  · refine ⟨bnd_nat hlt, _, _, _, _, _, by rw [Int.toNat_natCast]; exact row_get (f := encE) (k := 5) encE_len hlt, ?_⟩
    refine ⟨rfl, x.edges.length - (i + 1), by omega, i + 1, ?_, by omega, rfl⟩
    rw [wrap_succ (by omega), List.take_succ_eq_append_getElem hlt, longE_snoc]
    simp only [max_if]
    rfl
  · refine roundW_exit [5] (by kernel_rfl) rfl rfl ?_
    refine end_rule Try.Yok (loc := Try.Y.loc 81) 100 [4] ?_
    refine Eq.mpr (f81_2 (longE (x.edges.take i)) h _) ?_
    rw [List.take_of_length_le hge]
    exact finV1 (.inr rfl) rfl (.i _ _) rfl

theorem short_con (s : Side) (cap : Int) (l : List Plc) (hb : ∀ x ∈ l, x.edges.length < 2 ^ 30) : PCon Try.Y 41 [.agg (sideC s), .agg (peerC cap l)] (· = .agg (sideC (shortS s l))) := by
  refine tree_con Try.Yok (fn := Try.f41) (by kernel_rfl) (by kernel_rfl) rfl (fun K => f41_0 s.on s.shut s.eof s.place s.clock s.typed (row encT s.lines) s.lines.length s.fly (row encI s.ages) s.ages.length s.ready s.buffer cap (row encPl l) l.length .empty K) rfl ?_
  refine ⟨_, longest_con cap l s.place hb, ?_⟩
  simp only [min_if]
  exact finV1 (.inr rfl) rfl (frz_sideL (s := shortS s l) (frz_ts _ _ _ _) (frz_ts _ _ _ _)) rfl

/-! ### edges, open -/
theorem edges_con (s : Side) (cap : Int) (l : List Plc) (b : BdS s) : PCon Try.Y 82 [.agg (sideC s), .agg (peerC cap l)] (· = lst encE (edgesS s cap l)) := by
  refine tree_con Try.Yok (fn := Try.f82) (by kernel_rfl) (by kernel_rfl) rfl (fun K => f82_0 s.on s.shut s.eof s.place s.clock s.typed (row encT s.lines) s.lines.length s.fly (row encI s.ages) s.ages.length s.ready s.buffer cap (row encPl l) l.length .empty K) rfl ?_
  have b1 := b.ag
  have b2 := b.ln
  have nil : ∀ h, edgesS s cap l = [] → Fin Try.Y Try.f82 [4] (fun v h => ∃ r, Frz h v r ∧ r = lst encE (edgesS s cap l)) .ret 25 [.sl none 0 (some 0) 0] h := by
    intro h he
    exact finV1 (.inr rfl) rfl (.sln _ _ none (fun x hx => by cases hx)) (by rw [he]; rfl)
  refine ⟨_, maySd_con s cap l (by omega) (by omega), if_mk (fun h1 => nil _ ?_) (fun h1 => if_mk (fun h2 => nil _ ?_) (fun h2 => if_mk (fun h3 => nil _ ?_) (fun h3 => ?_)))⟩
  · have h1 : maySd s l.length cap (peerS cap l) = false := by simpa using h1
    unfold edgesS; rw [h1]; rfl
  · have h2 : s.on = false := by simpa using h2
    unfold edgesS; rw [h2]; simp
  · unfold edgesS; rw [h3]; simp
  · have h1 : maySd s l.length cap (peerS cap l) = true := by simpa using h1
    have h2 : s.on = true := by simpa using h2
    obtain ⟨p0, p1, _, _⟩ := maySd_parts h1
    obtain ⟨x, hx, ht⟩ := place_edges p0 p1
    have he : edgesS s cap l = x.edges := by unfold edgesS; rw [h1, h2, h3, hx]; rfl
    rw [he]
    exact ⟨⟨p0, p1⟩, row encE x.edges, x.edges.length, none, ht, finV1 (.inr rfl) rfl (frz_ts _ _ _ _) rfl⟩

theorem open_con (s : Side) (cap : Int) (l : List Plc) (e : Edge) (b : BdS s) : PCon Try.Y 83 [.agg (sideC s), .agg (peerC cap l), .agg (encE e)] (· = .b (openS s cap e)) := by
  refine tree_con Try.Yok (fn := Try.f83) (by kernel_rfl) (by kernel_rfl) rfl (fun K => f83_0 s.on s.shut s.eof s.place s.clock s.typed (row encT s.lines) s.lines.length s.fly (row encI s.ages) s.ages.length s.ready s.buffer cap (row encPl l) l.length e.kind e.text e.lo e.hi e.to .empty K) rfl ?_
  have fin : ∀ x : Bool, x = openS s cap e → Fin Try.Y Try.f83 [6] (fun v h => ∃ r, Frz h v r ∧ r = .b (openS s cap e)) .ret 55 [.b x] .empty := fun x hx => finV1 (.inr rfl) rfl (.b _) (by rw [hx])
  refine if_mk (fun k1 => if_mk (fun h1 => ⟨_, room_con s cap (row encPl l) l.length, fin _ ?_⟩) (fun h1 => fin _ ?_)) (fun k1 => if_mk (fun k2 => ?_) (fun k2 => fin _ ?_))
  · have k1 : e.kind = 1 := by simpa using k1
    unfold openS; rw [if_pos k1, h1]; rfl
  · have k1 : e.kind = 1 := by simpa using k1
    unfold openS; rw [if_pos k1, h1]; rfl
  · have k1 : e.kind ≠ 1 := by simpa using k1
    have k2 : e.kind = 2 := by simpa using k2
    have ho : openS s cap e = hitS s e := by unfold openS; rw [if_neg k1, if_pos k2]
    obtain ⟨a, er, hp⟩ := parseR_glob e.text
    refine ⟨_, _, waits_con s, row encG (globOf e.text), (globOf e.text).length, none, a, er, (parse_con e.text).mono fun r hr => by rw [hr, hp], ?_⟩
    unfold waitsS
    cases hln : s.lines with
    | nil =>
      refine if_mk (fun h => by cases h) (fun _ => fin _ ?_)
      rw [ho]; unfold hitS; rw [hln]
    | cons x r =>
      refine if_mk (fun _ => ⟨_, match_con (globOf e.text) x (globOf_ok _) (by have := b.el x (by rw [hln]; simp); omega), fin _ ?_⟩) (fun h => by cases h)
      rw [ho]; unfold hitS; rw [hln]
  · have k1 : e.kind ≠ 1 := by simpa using k1
    have k2 : e.kind ≠ 2 := by simpa using k2
    unfold openS; rw [if_neg k1, if_neg k2]

theorem presses_con (s : Side) (cap : Int) (l : List Plc) (e : Edge) (b : BdS s) : PCon Try.Y 86 [.agg (sideC s), .agg (peerC cap l), .agg (encE e)] (· = .b (presE s cap e)) := by
  refine tree_con Try.Yok (fn := Try.f86) (by kernel_rfl) (by kernel_rfl) rfl (fun K => f86_0 s.on s.shut s.eof s.place s.clock s.typed (row encT s.lines) s.lines.length s.fly (row encI s.ages) s.ages.length s.ready s.buffer cap (row encPl l) l.length e.kind e.text e.lo e.hi e.to .empty K) rfl ?_
  have fin : ∀ x : Bool, x = presE s cap e → Fin Try.Y Try.f86 [6] (fun v h => ∃ r, Frz h v r ∧ r = .b (presE s cap e)) .ret 28 [.b x] .empty := fun x hx => finV1 (.inr rfl) rfl (.b _) (by rw [hx])
  refine ⟨_, open_con s cap l e b, if_mk (fun h1 => if_mk (fun h2 => fin _ ?_) (fun h2 => if_mk (fun h3 => fin _ ?_) (fun h3 => fin _ ?_))) (fun h1 => fin _ ?_)⟩
  all_goals unfold presE
  all_goals simp only [*, Bool.true_and, Bool.false_and, Bool.true_or, Bool.false_or]

/-! ### Open -/
def OpenI (s : Side) (cap : Int) (l : List Plc) (es : List Edge) (m : Nat) (vs : List V) (h : Heap) : Prop :=
  ∃ (i : Nat) (a : Option (Nat × Nat)) (n : Nat) (c : Option Nat) (k : Nat) (out : List Int), vs = [.lb (sideC s), .lb (peerC cap l), .sl a n c k, lst encE es, .i .i64 es.length, .i .i64 (i : Nat)] ∧ i ≤ es.length ∧ m = es.length - i ∧
    Lst encI 1 h a n c k out ∧ out.length ≤ i ∧ out ++ openFrom s cap (es.drop i) i = openFrom s cap es 0

theorem openL_con (s : Side) (cap : Int) (l : List Plc) (b : BdS s) (hb : ∀ x ∈ l, x.edges.length < 2 ^ 20) : PCon Try.Y 42 [.agg (sideC s), .agg (peerC cap l)] (· = lst encI (openL s cap l)) := by
  refine pcon_of Try.Yok (fn := Try.f42) (by kernel_rfl) (by kernel_rfl) rfl ?_
  refine pre_rule Try.Yok (n := 27) (loc := Try.Y.loc 42) 100 [2, 3, 5, 10, 11, 12] (by kernel_rfl) ?_
  refine Eq.mpr (f42_0 s.on s.shut s.eof s.place s.clock s.typed (row encT s.lines) s.lines.length s.fly (row encI s.ages) s.ages.length s.ready s.buffer cap (row encPl l) l.length .empty _) ?_
  have hes : (edgesS s cap l).length < 2 ^ 20 := by
    unfold edgesS
    split
    · split
      · rename_i x hx; exact hb x (List.mem_of_getElem? hx)
      · decide
    · decide
  have hE := edges_con s cap l b
  unfold openL
  generalize edgesS s cap l = es at hes hE
  refine ⟨row encE es, es.length, none, hE, rfl, loop2 [2, 3, 5, 10, 11, 12] [2, 3, 5, 10, 11, 12] rfl (by kernel_rfl) (OpenI s cap l es) es.length mk_len ⟨0, none, 0, some 0, 0, [], rfl, by omega, by omega, Lst.nil _ _ _ _ _, by simp, rfl⟩ ?_⟩
  rintro m vs h ⟨i, a, n, c, k, out, rfl, hi, rfl, hL, ho, hr⟩
  refine all_rule Try.Yok (loc := Try.Y.loc 42) 100 [2, 3, 5, 10, 11, 12] ?_
  refine Eq.mpr (f42_1 s.on s.shut s.eof s.place s.clock s.typed (row encT s.lines) s.lines.length s.fly (row encI s.ages) s.ages.length s.ready s.buffer cap (row encPl l) l.length none (row encE es) es.length (es.length : Nat) a n c k (i : Nat) h _) ?_
  refine if_lt_nat (fun hlt => ?_) (fun hge => ?_)
  · rw [List.drop_eq_getElem_cons hlt, openFrom] at hr
    refine ⟨bnd_nat hlt, _, _, _, _, _, by rw [Int.toNat_natCast]; exact row_get (f := encE) (k := 5) encE_len hlt, _, open_con s cap l es[i] b, if_mk (fun hc => ?_) (fun hc => ?_)⟩
    · rw [hc, if_pos rfl] at hr
      obtain ⟨a', n', c', k', h', q1, q2, _, _⟩ := ints_app1 out (i : Nat) hL (by omega)
      refine ⟨a', n', c', k', h', q1, rfl, es.length - (i + 1), by omega, i + 1, a', n', c', k', out ++ [((i : Nat) : Int)], by rw [wrap_succ (by omega)]; rfl, by omega, rfl, q2, by simp; omega, ?_⟩
      rw [List.append_assoc]; exact hr
    · rw [hc] at hr
      exact ⟨rfl, es.length - (i + 1), by omega, i + 1, a, n, c, k, out, by rw [wrap_succ (by omega)]; rfl, by omega, rfl, hL, by omega, hr⟩
  · refine roundW_exit [5] (by kernel_rfl) rfl rfl ?_
    refine end_rule Try.Yok (loc := Try.Y.loc 42) 100 [4] ?_
    refine Eq.mpr (f42_2 a n c k h _) ?_
    rw [List.drop_of_length_le hge, openFrom, List.append_nil] at hr
    rw [← hr]
    exact finV1 (.inr rfl) rfl (hL.frz (by decide) encI_len) rfl

/-! ### Do -/
theorem do_con (s : Side) (cap : Int) (l : List Plc) (i : Int) (b : BdS s) : PCon Try.Y 45 [.agg (sideC s), .agg (peerC cap l), .i .i64 i] (· = .tup [.agg (sideC (doS s cap l i).1), .i .i64 (doS s cap l i).2]) := by
  refine tree_con Try.Yok (fn := Try.f45) (by kernel_rfl) (by kernel_rfl) rfl (fun K => f45_0 s.on s.shut s.eof s.place s.clock s.typed (row encT s.lines) s.lines.length s.fly (row encI s.ages) s.ages.length s.ready s.buffer cap (row encPl l) l.length i .empty K) rfl ?_
  have b1 := b.ag
  have b2 := b.ln
  have b3 := b.fl
  have bad : ∀ e : Int, doS s cap l i = (side00, e) → Fin Try.Y Try.f45 [6, 7] (fun v h => ∃ r, Frz h v r ∧ r = .tup [.agg (sideC (doS s cap l i).1), .i .i64 (doS s cap l i).2]) .ret 74 [.lb side0, .i .i64 e] .empty := by
    intro e he
    rw [he]
    exact finV2 (.inr rfl) rfl (frz_00 _) (.i _ _) rfl
  refine ⟨_, maySd_con s cap l (by omega) (by omega), if_mk (fun h1 => bad 5 ?_) (fun h1 => ⟨row encE (edgesS s cap l), (edgesS s cap l).length, none, edges_con s cap l b, if_lt (fun h2 => bad 11 ?_) (fun h2 => if_le (fun h3 => bad 11 ?_) (fun h3 => ?_))⟩)⟩
  · unfold doS; rw [if_pos (by simpa using h1)]
  · unfold doS; rw [if_neg (by simpa using h1), if_pos h2]
  · unfold doS; rw [if_neg (by simpa using h1), if_neg (by omega), List.getElem?_eq_none (by omega)]
  have h1 : maySd s l.length cap (peerS cap l) = true := by simpa using h1
  have hlt : i.toNat < (edgesS s cap l).length := by omega
  have hmem := List.getElem_mem hlt
  have hget := List.getElem?_eq_getElem hlt
  have hrow := row_get (f := encE) (k := 5) encE_len hlt
  generalize (edgesS s cap l)[i.toNat] = e at hmem hget hrow
  refine ⟨⟨h2, h3⟩, e.kind, e.text, e.lo, e.hi, e.to, hrow, _, open_con s cap l e b, if_mk (fun h4 => bad 11 ?_) (fun h4 => ?_)⟩
  · unfold doS
    rw [if_neg (by rw [h1]; decide), if_neg (by omega), hget]
    have h4 : openS s cap e = false := by simpa using h4
    simp only; rw [h4]; rfl
  have hd : doS s cap l i = (doneS s cap e, 0) := by
    unfold doS
    rw [if_neg (by rw [h1]; decide), if_neg (by omega), hget]
    have h4 : openS s cap e = true := by simpa using h4
    simp only; rw [h4]; rfl
  rw [hd]
  clear bad hd
  refine ⟨⟨h2, h3⟩, e.kind, e.text, e.lo, e.hi, e.to, hrow, if_mk (fun k1 => ?_) (fun k1 => if_mk (fun k2 => ?_) (fun k2 => if_mk (fun k3 => ?_) (fun k3 => ?_)))⟩
  · have k1 : e.kind = 1 := by simpa using k1
    have hne : e.text ≠ [] := by
      rcases (edge_kinds (peer_edges (maySd_peer h1) hmem)).1 with h | h | h
      · exact h.2
      · omega
      · omega
    have htl : e.text.length < 2 ^ 29 := by
      have hr := peer_edges (maySd_peer h1) hmem
      obtain ⟨c1, c2⟩ := peer_cap (maySd_peer h1)
      unfold edgeS at hr
      rw [if_pos k1] at hr
      simp only [Bool.and_eq_true, leI, decide_eq_true_eq] at hr
      have := hr.2
      omega
    have hw := write_con s cap (row encPl l) l.length e.text (by omega) (by omega) htl hne
    have hdn : doneS s cap e = { (writeS s cap e.text).1 with place := e.to, clock := 0 } := by unfold doneS; rw [if_pos k1]
    rw [hdn]
    generalize writeS s cap e.text = w at hw
    exact ⟨w.1.on, w.1.shut, w.1.eof, w.1.place, w.1.clock, w.1.typed, row encT w.1.lines, w.1.lines.length, none, w.1.fly, row encI w.1.ages, w.1.ages.length, none, w.1.ready, w.1.buffer, w.2, hw,
      finV2 (.inr rfl) rfl (frz_sideL (s := { w.1 with place := e.to, clock := 0 }) (frz_ts _ _ _ _) (frz_ts _ _ _ _)) (.i _ _) rfl⟩
  · have k1 : e.kind ≠ 1 := by simpa using k1
    have k2 : e.kind = 2 := by simpa using k2
    have hw := nextLn_con s (by omega)
    have hdn : doneS s cap e = { (nextLn s).1 with place := e.to, clock := 0 } := by unfold doneS; rw [if_neg k1, if_pos k2]
    rw [hdn]
    generalize nextLn s = w at hw
    exact ⟨w.1.on, w.1.shut, w.1.eof, w.1.place, w.1.clock, w.1.typed, row encT w.1.lines, w.1.lines.length, none, w.1.fly, row encI w.1.ages, w.1.ages.length, none, w.1.ready, w.1.buffer, w.2, hw,
      finV2 (.inr rfl) rfl (frz_sideL (s := { w.1 with place := e.to, clock := 0 }) (frz_ts _ _ _ _) (frz_ts _ _ _ _)) (.i _ _) rfl⟩
  · have k1 : e.kind ≠ 1 := by simpa using k1
    have k2 : e.kind ≠ 2 := by simpa using k2
    have k3 : e.kind = 3 := by simpa using k3
    have hdn : doneS s cap e = { s with shut := true, place := 0, typed := [], lines := [], clock := 0 } := by unfold doneS; rw [if_neg k1, if_neg k2, if_pos k3]
    rw [hdn]
    exact finV2 (.inr rfl) rfl (frz_sideL (s := { s with shut := true, place := 0, typed := [], lines := [], clock := 0 }) (.sln _ _ none (fun x hx => by cases hx)) (frz_ts _ _ _ _)) (.i _ _) rfl
  · have k1 : e.kind ≠ 1 := by simpa using k1
    have k2 : e.kind ≠ 2 := by simpa using k2
    have k3 : e.kind ≠ 3 := by simpa using k3
    have hdn : doneS s cap e = { s with clock := 0 } := by unfold doneS; rw [if_neg k1, if_neg k2, if_neg k3]
    rw [hdn]
    exact finV2 (.inr rfl) rfl (frz_sideL (s := { s with clock := 0 }) (frz_ts _ _ _ _) (frz_ts _ _ _ _)) (.i _ _) rfl
end Go.Y

/- actor.Presses and actor.Later, by contracts. -/
namespace Go.Y
open Go.Proofs
set_option maxRecDepth 100000
set_option maxHeartbeats 1000000

/-! ### an edge that presses -/
theorem press85 (s : Side) (cap : Int) (l : List Plc) (e : Edge) (b : BdS s) {h : Heap} {id1 id2 : Nat} (h1 : h.get id1 = some (.arr (sideC s) true)) (h2 : h.get id2 = some (.arr (peerC cap l) true)) :
    Con Try.Y 85 [.agg (encE e), .p (some (id1, 0)), .p (some (id2, 0))] h fun v h' => v = .b (presE s cap e) ∧ h' = h := by
  refine conz_of Try.Yok (fn := Try.f85) (by kernel_rfl) (by kernel_rfl) (end_rule Try.Yok (loc := Try.Y.loc 85) 100 [4] ?_)
  refine Eq.mpr (f85_0 e.kind e.text e.lo e.hi e.to id1 id2 h _) ?_
  exact ⟨s.on, s.shut, s.eof, s.place, s.clock, s.typed, row encT s.lines, s.lines.length, none, s.fly, row encI s.ages, s.ages.length, none, s.ready, s.buffer, by rw [hcells_of h1]; rfl, cap, row encPl l, l.length, none, by rw [hcells_of h2]; rfl, _, presses_con s cap l e b, finC (.inr rfl) rfl (.now ⟨rfl, rfl⟩)⟩
theorem later87 (s : Side) (cap : Int) (l : List Plc) (e : Edge) {h : Heap} {id1 id2 : Nat} (h1 : h.get id1 = some (.arr (sideC s) true)) (h2 : h.get id2 = some (.arr (peerC cap l) true)) :
    Con Try.Y 87 [.agg (encE e), .p (some (id1, 0)), .p (some (id2, 0))] h fun v h' => v = .b (laterE s cap e) ∧ h' = h := by
  refine conz_of Try.Yok (fn := Try.f87) (by kernel_rfl) (by kernel_rfl) (end_rule Try.Yok (loc := Try.Y.loc 87) 100 [4] ?_)
  refine Eq.mpr (f87_0 e.kind e.text e.lo e.hi e.to id1 id2 h _) ?_
  have fin : ∀ x : Bool, x = laterE s cap e → Fin Try.Y Try.f87 [4] (AfterZ fun v h' => v = .b (laterE s cap e) ∧ h' = h) .ret 31 [.b x] h := fun x hx => finC (.inr rfl) rfl (.now ⟨by rw [hx]; rfl, rfl⟩)
  have hc : hcells h id1 4 1 = some [.i .i64 s.clock] := by rw [hcells_of h1]; rfl
  refine if_mk (fun k3 => ⟨s.clock, hc, fin _ ?_⟩) (fun k3 => if_mk (fun k1 => ?_) (fun k1 => fin _ ?_))
  · unfold laterE; rw [k3]; rfl
  · refine ⟨s.on, s.shut, s.eof, s.place, s.clock, s.typed, row encT s.lines, s.lines.length, none, s.fly, row encI s.ages, s.ages.length, none, s.ready, s.buffer, by rw [hcells_of h1]; rfl, cap, row encPl l, l.length, none, by rw [hcells_of h2]; rfl, _, room_con s cap (row encPl l) l.length, if_mk (fun h3 => ⟨s.clock, hc, fin _ ?_⟩) (fun h3 => fin _ ?_)⟩
    · unfold laterE; rw [k3, k1, h3]; rfl
    · unfold laterE; rw [k3, k1, h3]; rfl
  · unfold laterE; rw [k3, k1]; rfl
theorem rlater87 (s : Side) (cap : Int) (l : List Plc) (e : Edge) {h : Heap} {id1 id2 : Nat} (h1 : h.get id1 = some (.arr (sideC s) true)) (h2 : h.get id2 = some (.arr (peerC cap l) true)) :
    RCon Try.Y 87 [.agg (encE e), .p (some (id1, 0)), .p (some (id2, 0))] h (.b (laterE s cap e)) :=
  ⟨h, later87 s cap l e h1 h2, fun _ _ => rfl, fun _ hp => hp⟩

theorem index85 (es : List Edge) (s : Side) (cap : Int) (l : List Plc) (b : BdS s) {h : Heap} {id1 id2 : Nat} (h1 : h.get id1 = some (.arr (sideC s) true)) (h2 : h.get id2 = some (.arr (peerC cap l) true)) (hl : es.length < 2 ^ 30) :
    Con Try.Y 110 [lst encE es, .fn (.func 85) [] [.p (some (id1, 0)), .p (some (id2, 0))]] h fun v h' => ∃ n : Int, v = .i .i64 n ∧ leI 0 n = es.any (presE s cap) ∧ h' = h := by
  refine conz_of Try.Yok (fn := Try.f110) (by kernel_rfl) (by kernel_rfl) ?_
  refine pre_rule Try.Yok (n := 19) (loc := Try.Y.loc 110) 100 [0, 1, 7, 8] (by kernel_rfl) ?_
  refine Eq.mpr (f110p_0 (row encE es) es.length id1 id2 h _) ?_
  refine ⟨rfl, loop2 [0, 1, 7, 8] [0, 1, 4, 7, 8] rfl (by kernel_rfl) (fun m vs h' => ∃ i : Nat, vs = [lst encE es, .fn (.func 85) [] [.p (some (id1, 0)), .p (some (id2, 0))], .i .i64 es.length, .i .i64 (i : Nat)] ∧ i ≤ es.length ∧ (es.take i).any (presE s cap) = false ∧ m = es.length - i ∧ h' = h) es.length mk_len ⟨0, rfl, by omega, by simp, by omega, rfl⟩ ?_⟩
  rintro m vs h' ⟨i, rfl, hi, hno, rfl, rfl⟩
  refine all_rule Try.Yok (loc := Try.Y.loc 110) 100 [0, 1, 4, 7, 8] ?_
  refine Eq.mpr (f110p_1 (row encE es) es.length id1 id2 (i : Nat) h' _) ?_
  refine if_lt_nat (fun hlt => ?_) (fun hge => ?_)
  · refine ⟨bnd_nat hlt, _, _, _, _, _, by rw [Int.toNat_natCast]; exact row_get (f := encE) (k := 5) encE_len hlt, (press85 s cap l es[i] b h1 h2).mono fun v h2 ⟨e1, e2⟩ => ⟨_, e1, ?_⟩⟩
    subst e2
    refine if_mk (fun hc => ?_) (fun hc => ?_)
    · refine fin_at (.inr rfl) rfl (.now ⟨(i : Nat), rfl, ?_, rfl⟩)
      have : es.any (presE s cap) = true := List.any_eq_true.2 ⟨es[i], List.getElem_mem hlt, hc⟩
      rw [this]; simp [leI]
    · refine ⟨rfl, es.length - (i + 1), by omega, i + 1, ?_, by omega, ?_, rfl, rfl⟩
      · rw [wrap_succ (by omega)]; rfl
      · rw [List.take_succ_eq_append_getElem hlt, List.any_append, hno]; simp only [List.any_cons, List.any_nil, hc, Bool.or_false]
  · refine roundW_exit [] (by kernel_rfl) rfl rfl ?_
    refine end_rule Try.Yok (loc := Try.Y.loc 110) 100 [4] ?_
    refine Eq.mpr (f110p_2 h' _) ?_
    rw [List.take_of_length_le hge] at hno
    exact finC (.inr rfl) rfl (.now ⟨-1, rfl, by rw [hno]; rfl, rfl⟩)
theorem index87 (es : List Edge) (s : Side) (cap : Int) (l : List Plc) {h : Heap} {id1 id2 : Nat} (h1 : h.get id1 = some (.arr (sideC s) true)) (h2 : h.get id2 = some (.arr (peerC cap l) true)) (hl : es.length < 2 ^ 30) :
    Con Try.Y 110 [lst encE es, .fn (.func 87) [] [.p (some (id1, 0)), .p (some (id2, 0))]] h fun v h' => ∃ n : Int, v = .i .i64 n ∧ leI 0 n = es.any (laterE s cap) ∧ h' = h := by
  refine conz_of Try.Yok (fn := Try.f110) (by kernel_rfl) (by kernel_rfl) ?_
  refine pre_rule Try.Yok (n := 19) (loc := Try.Y.loc 110) 100 [0, 1, 7, 8] (by kernel_rfl) ?_
  refine Eq.mpr (f110q_0 (row encE es) es.length id1 id2 h _) ?_
  refine ⟨rfl, loop2 [0, 1, 7, 8] [0, 1, 4, 7, 8] rfl (by kernel_rfl) (fun m vs h' => ∃ i : Nat, vs = [lst encE es, .fn (.func 87) [] [.p (some (id1, 0)), .p (some (id2, 0))], .i .i64 es.length, .i .i64 (i : Nat)] ∧ i ≤ es.length ∧ (es.take i).any (laterE s cap) = false ∧ m = es.length - i ∧ h' = h) es.length mk_len ⟨0, rfl, by omega, by simp, by omega, rfl⟩ ?_⟩
  rintro m vs h' ⟨i, rfl, hi, hno, rfl, rfl⟩
  refine all_rule Try.Yok (loc := Try.Y.loc 110) 100 [0, 1, 4, 7, 8] ?_
  refine Eq.mpr (f110q_1 (row encE es) es.length id1 id2 (i : Nat) h' _) ?_
  refine if_lt_nat (fun hlt => ?_) (fun hge => ?_)
  · refine ⟨bnd_nat hlt, _, _, _, _, _, by rw [Int.toNat_natCast]; exact row_get (f := encE) (k := 5) encE_len hlt, _, rlater87 s cap l es[i] h1 h2, if_mk (fun hc => ?_) (fun hc => ?_)⟩
    · refine fin_at (.inr rfl) rfl (.now ⟨(i : Nat), rfl, ?_, rfl⟩)
      have : es.any (laterE s cap) = true := List.any_eq_true.2 ⟨es[i], List.getElem_mem hlt, hc⟩
      rw [this]; simp [leI]
    · refine ⟨rfl, es.length - (i + 1), by omega, i + 1, ?_, by omega, ?_, rfl, rfl⟩
      · rw [wrap_succ (by omega)]; rfl
      · rw [List.take_succ_eq_append_getElem hlt, List.any_append, hno]; simp only [List.any_cons, List.any_nil, hc, Bool.or_false]
  · refine roundW_exit [] (by kernel_rfl) rfl rfl ?_
    refine end_rule Try.Yok (loc := Try.Y.loc 110) 100 [4] ?_
    refine Eq.mpr (f110q_2 h' _) ?_
    rw [List.take_of_length_le hge] at hno
    exact finC (.inr rfl) rfl (.now ⟨-1, rfl, by rw [hno]; rfl, rfl⟩)
theorem contains85 (es : List Edge) (s : Side) (cap : Int) (l : List Plc) (b : BdS s) {h : Heap} {id1 id2 : Nat} (h1 : h.get id1 = some (.arr (sideC s) true)) (h2 : h.get id2 = some (.arr (peerC cap l) true)) (hl : es.length < 2 ^ 30) :
    Con Try.Y 84 [lst encE es, .fn (.func 85) [] [.p (some (id1, 0)), .p (some (id2, 0))]] h fun v h' => v = .b (es.any (presE s cap)) ∧ h' = h := by
  refine conz_of Try.Yok (fn := Try.f84) (by kernel_rfl) (by kernel_rfl) (end_rule Try.Yok (loc := Try.Y.loc 84) 100 [4] ?_)
  refine Eq.mpr (f84p_0 (row encE es) es.length id1 id2 h _) ?_
  refine (index85 es s cap l b h1 h2 hl).mono fun v h' ⟨n, e1, e2, e3⟩ => ⟨n, e1, ?_⟩
  subst e3
  rw [e2]
  exact finC (.inr rfl) rfl (.now ⟨rfl, rfl⟩)
theorem contains87 (es : List Edge) (s : Side) (cap : Int) (l : List Plc) {h : Heap} {id1 id2 : Nat} (h1 : h.get id1 = some (.arr (sideC s) true)) (h2 : h.get id2 = some (.arr (peerC cap l) true)) (hl : es.length < 2 ^ 30) :
    Con Try.Y 84 [lst encE es, .fn (.func 87) [] [.p (some (id1, 0)), .p (some (id2, 0))]] h fun v h' => v = .b (es.any (laterE s cap)) ∧ h' = h := by
  refine conz_of Try.Yok (fn := Try.f84) (by kernel_rfl) (by kernel_rfl) (end_rule Try.Yok (loc := Try.Y.loc 84) 100 [4] ?_)
  refine Eq.mpr (f84q_0 (row encE es) es.length id1 id2 h _) ?_
  refine (index87 es s cap l h1 h2 hl).mono fun v h' ⟨n, e1, e2, e3⟩ => ⟨n, e1, ?_⟩
  subst e3
  rw [e2]
  exact finC (.inr rfl) rfl (.now ⟨rfl, rfl⟩)

/-! ### Presses, Later -/
theorem edgesS_len (s : Side) (cap : Int) {l : List Plc} (hb : ∀ x ∈ l, x.edges.length < 2 ^ 20) : (edgesS s cap l).length < 2 ^ 30 := by
  unfold edgesS
  split
  · split
    · rename_i x hx; have := hb x (List.mem_of_getElem? hx); omega
    · decide
  · decide
theorem pressesL_con (s : Side) (cap : Int) (l : List Plc) (b : BdS s) (hb : ∀ x ∈ l, x.edges.length < 2 ^ 20) : PCon Try.Y 43 [.agg (sideC s), .agg (peerC cap l)] (· = .b (pressesS s cap l)) := by
  refine tree_con Try.Yok (fn := Try.f43) (by kernel_rfl) (by kernel_rfl) rfl (fun K => f43_0 s.on s.shut s.eof s.place s.clock s.typed (row encT s.lines) s.lines.length s.fly (row encI s.ages) s.ages.length s.ready s.buffer cap (row encPl l) l.length .empty K) rfl ?_
  have g1 : ((Heap.empty.push (.arr (sideC s) true)).push (.arr (peerC cap l) true)).get Heap.empty.nx = some (.arr (sideC s) true) := by simp [Heap.empty]
  have g2 : ((Heap.empty.push (.arr (sideC s) true)).push (.arr (peerC cap l) true)).get (Heap.empty.nx + 1) = some (.arr (peerC cap l) true) := by simp [Heap.empty]
  refine ⟨s.on, s.shut, s.eof, s.place, s.clock, s.typed, row encT s.lines, s.lines.length, none, s.fly, row encI s.ages, s.ages.length, none, s.ready, s.buffer, by rw [hcells_of g1]; rfl, cap, row encPl l, l.length, none, by rw [hcells_of g2]; rfl, row encE (edgesS s cap l), (edgesS s cap l).length, none, edges_con s cap l b, ?_⟩
  refine (contains85 (edgesS s cap l) s cap l b g1 g2 (edgesS_len s cap hb)).mono fun v h' ⟨e1, e2⟩ => ⟨_, e1, ?_⟩
  exact finV1 (.inr rfl) rfl (.b _) rfl
theorem laterL_con (s : Side) (cap : Int) (l : List Plc) (b : BdS s) (hb : ∀ x ∈ l, x.edges.length < 2 ^ 20) : PCon Try.Y 44 [.agg (sideC s), .agg (peerC cap l)] (· = .b (laterS s cap l)) := by
  refine tree_con Try.Yok (fn := Try.f44) (by kernel_rfl) (by kernel_rfl) rfl (fun K => f44_0 s.on s.shut s.eof s.place s.clock s.typed (row encT s.lines) s.lines.length s.fly (row encI s.ages) s.ages.length s.ready s.buffer cap (row encPl l) l.length .empty K) rfl ?_
  have g1 : ((Heap.empty.push (.arr (sideC s) true)).push (.arr (peerC cap l) true)).get Heap.empty.nx = some (.arr (sideC s) true) := by simp [Heap.empty]
  have g2 : ((Heap.empty.push (.arr (sideC s) true)).push (.arr (peerC cap l) true)).get (Heap.empty.nx + 1) = some (.arr (peerC cap l) true) := by simp [Heap.empty]
  refine ⟨s.on, s.shut, s.eof, s.place, s.clock, s.typed, row encT s.lines, s.lines.length, none, s.fly, row encI s.ages, s.ages.length, none, s.ready, s.buffer, by rw [hcells_of g1]; rfl, cap, row encPl l, l.length, none, by rw [hcells_of g2]; rfl, row encE (edgesS s cap l), (edgesS s cap l).length, none, edges_con s cap l b, ?_⟩
  refine (contains87 (edgesS s cap l) s cap l g1 g2 (edgesS_len s cap hb)).mono fun v h' ⟨e1, e2⟩ => ⟨_, e1, ?_⟩
  exact finV1 (.inr rfl) rfl (.b _) rfl
end Go.Y
