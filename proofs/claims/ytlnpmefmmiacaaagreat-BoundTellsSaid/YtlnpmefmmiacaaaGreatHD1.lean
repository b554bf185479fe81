/- What the pieces of functions come to: printed by program. -/
import Derived.Test.YtlnpmefmmiacaaaGreatYTryzP
import Derived.Test.YtlnpmefmmiacaaaGreatYFun
namespace Go.Y
open Go.Proofs
set_option maxRecDepth 100000
set_option maxHeartbeats 0
theorem f11_0 (cs0Instrs : List V) (n0Instrs : Nat) (cs0Watches : List V) (n0Watches : Nat) (x1 : Int) (h : Heap) (K : Out → Nat → List V → Heap → Prop) : (codeP Tryz.Y (Tryz.Y.loc 11) 100 (pre (flat (bodyOf Tryz.f11))) ⟨(V.agg [V.ts cs0Instrs n0Instrs none, V.ts cs0Watches n0Watches none] :: V.i IntKind.i64 x1 :: List.replicate 24 .undef), [], h⟩ (VQ [1, 5, 9, 10, 11] K)) =
  (K Out.normal 26
  [V.i IntKind.i64 x1, V.i IntKind.i64 (0 : Int), V.ts cs0Instrs n0Instrs none, V.i IntKind.i64 (↑n0Instrs : Int),
 V.i IntKind.i64 (0 : Int)]
  h) := by kernel_rfl
theorem f11_1 (cs0Instrs : List V) (n0Instrs : Nat) (x1 : Int) (x5z2 : Int) (x11z2 : Int) (h : Heap) (K : Out → Nat → List V → Heap → Prop) : (codeP Tryz.Y (Tryz.Y.loc 11) 100 ((flat (loopB (post (flat (bodyOf Tryz.f11)))))) ⟨mk 26 (([1, 5, 9, 10, 11] : List Nat).zip [V.i IntKind.i64 x1, V.i IntKind.i64 x5z2, V.ts cs0Instrs n0Instrs none, V.i IntKind.i64 (↑n0Instrs : Int), V.i IntKind.i64 x11z2]), [], h⟩ (VQ [1, 5, 9, 10, 11] K)) =
  (If (ltI x11z2 (↑n0Instrs : Int))
  (((0 : Int) ≤ x11z2 ∧ x11z2 < (↑n0Instrs : Int)) ∧
 ∃ (n : Int),
 ∃ (n_1 : Int),
 ∃ (s : List UInt8),
 ∃ (n_2 : Int),
 ∃ (cs : List V),
 ∃ (l : Nat),
 ∃ (c : Option Nat),
 ∃ (n_3 : Int),
 ∃ (n_4 : Int),
 ∃ (s_1 : List UInt8),
 ∃ (s_2 : List UInt8),
 ∃ (cs_1 : List V),
 ∃ (l_1 : Nat),
 ∃ (c_1 : Option Nat),
 ∃ (cs_2 : List V),
 ∃ (l_2 : Nat),
 ∃ (c_2 : Option Nat),
 takeX 11 (List.drop (x11z2.toNat * (11 : Nat)) cs0Instrs) =
 some
 [V.i IntKind.i64 n, V.i IntKind.i64 n_1, V.s s, V.i IntKind.i64 n_2,
 V.ts cs l c, V.i IntKind.i64 n_3, V.i IntKind.i64 n_4, V.s s_1, V.s s_2,
 V.ts cs_1 l_1 c_1, V.ts cs_2 l_2 c_2] ∧
 If (n == x1)
 (K Out.normal 26
 [V.i IntKind.i64 x1,
 V.i IntKind.i64
 ((fun (x y : Int) => if y > x then y else x) x5z2 (↑l_2 : Int)),
 V.ts cs0Instrs n0Instrs none, V.i IntKind.i64 (↑n0Instrs : Int),
 V.i IntKind.i64 (IntKind.i64.wrap (x11z2 + (1 : Int)))]
 h)
 (K Out.normal 26
 [V.i IntKind.i64 x1, V.i IntKind.i64 x5z2, V.ts cs0Instrs n0Instrs none,
 V.i IntKind.i64 (↑n0Instrs : Int),
 V.i IntKind.i64 (IntKind.i64.wrap (x11z2 + (1 : Int)))]
 h))
  (K (Out.exit 0) 26
 [V.i IntKind.i64 x1, V.i IntKind.i64 x5z2, V.ts cs0Instrs n0Instrs none, V.i IntKind.i64 (↑n0Instrs : Int),
 V.i IntKind.i64 x11z2]
 h)) := by kernel_rfl
theorem f11_2 (x5z2 : Int) (h : Heap) (K : Out → Nat → List V → Heap → Prop) : (codeP Tryz.Y (Tryz.Y.loc 11) 100 (((post (flat (bodyOf Tryz.f11))).drop 1)) ⟨mk 26 (([5] : List Nat).zip [V.i IntKind.i64 x5z2]), [], h⟩ (VQ [4] K)) =
  (K Out.ret 26 [V.i IntKind.i64 x5z2] h) := by kernel_rfl
theorem f12_0 (cs0Instrs : List V) (n0Instrs : Nat) (cs0Watches : List V) (n0Watches : Nat) (x1 : Int) (h : Heap) (K : Out → Nat → List V → Heap → Prop) : (codeP Tryz.Y (Tryz.Y.loc 12) 100 (pre (flat (bodyOf Tryz.f12))) ⟨(V.agg [V.ts cs0Instrs n0Instrs none, V.ts cs0Watches n0Watches none] :: V.i IntKind.i64 x1 :: List.replicate 39 .undef), [], h⟩ (VQ [1, 2, 5, 6] K)) =
  (K Out.normal 41
  [V.i IntKind.i64 x1, V.lb [V.ts cs0Instrs n0Instrs none, V.ts cs0Watches n0Watches none], V.i IntKind.i64 (0 : Int),
 V.i IntKind.i64 (0 : Int)]
  h) := by kernel_rfl
theorem f12_1 (cs0Instrs : List V) (n0Instrs : Nat) (cs0Watches : List V) (n0Watches : Nat) (x1 : Int) (x5z3 : Int) (x6z3 : Int) (h : Heap) (K : Out → Nat → List V → Heap → Prop) : (codeP Tryz.Y (Tryz.Y.loc 12) 100 ((flat (loopB (post (flat (bodyOf Tryz.f12)))))) ⟨mk 41 (([1, 2, 5, 6] : List Nat).zip [V.i IntKind.i64 x1, V.lb [V.ts cs0Instrs n0Instrs none, V.ts cs0Watches n0Watches none], V.i IntKind.i64 x5z3, V.i IntKind.i64 x6z3]), [], h⟩ (VQ [1, 2, 5, 6] K)) =
  (If (ltI x6z3 (↑n0Instrs : Int))
  (((0 : Int) ≤ x6z3 ∧ x6z3 < (↑n0Instrs : Int)) ∧
 ∃ (n : Int),
 takeX 1 (List.drop (0 : Nat) (List.drop (x6z3.toNat * (11 : Nat)) cs0Instrs)) =
 some [V.i IntKind.i64 n] ∧
 If (n == x1)
 (((0 : Int) ≤ x6z3 ∧ x6z3 < (↑n0Instrs : Int)) ∧
 ∃ (cs : List V),
 ∃ (l : Nat),
 ∃ (c : Option Nat),
 takeX 1 (List.drop (10 : Nat) (List.drop (x6z3.toNat * (11 : Nat)) cs0Instrs)) =
 some [V.ts cs l c] ∧
 If (ltI x5z3 (↑l : Int))
 (((0 : Int) ≤ x6z3 ∧ x6z3 < (↑n0Instrs : Int)) ∧
 ∃ (cs : List V),
 ∃ (l : Nat),
 ∃ (c : Option Nat),
 takeX 1 (List.drop (10 : Nat) (List.drop (x6z3.toNat * (11 : Nat)) cs0Instrs)) =
 some [V.ts cs l c] ∧
 K Out.normal 41
 [V.i IntKind.i64 x1,
 V.lb [V.ts cs0Instrs n0Instrs none, V.ts cs0Watches n0Watches none],
 V.i IntKind.i64 (↑l : Int), V.i IntKind.i64 (IntKind.i64.wrap (x6z3 + (1 : Int)))]
 h)
 (K Out.normal 41
 [V.i IntKind.i64 x1, V.lb [V.ts cs0Instrs n0Instrs none, V.ts cs0Watches n0Watches none],
 V.i IntKind.i64 x5z3, V.i IntKind.i64 (IntKind.i64.wrap (x6z3 + (1 : Int)))]
 h))
 (K Out.normal 41
 [V.i IntKind.i64 x1, V.lb [V.ts cs0Instrs n0Instrs none, V.ts cs0Watches n0Watches none],
 V.i IntKind.i64 x5z3, V.i IntKind.i64 (IntKind.i64.wrap (x6z3 + (1 : Int)))]
 h))
  (K (Out.exit 0) 41
 [V.i IntKind.i64 x1, V.lb [V.ts cs0Instrs n0Instrs none, V.ts cs0Watches n0Watches none], V.i IntKind.i64 x5z3,
 V.i IntKind.i64 x6z3]
 h)) := by kernel_rfl
theorem f12_2 (x5z3 : Int) (h : Heap) (K : Out → Nat → List V → Heap → Prop) : (codeP Tryz.Y (Tryz.Y.loc 12) 100 (((post (flat (bodyOf Tryz.f12))).drop 1)) ⟨mk 41 (([5] : List Nat).zip [V.i IntKind.i64 x5z3]), [], h⟩ (VQ [4] K)) =
  (K Out.ret 41 [V.i IntKind.i64 x5z3] h) := by kernel_rfl
theorem f7_0 (cs0CodeInstrs : List V) (n0CodeInstrs : Nat) (cs0CodeWatches : List V) (n0CodeWatches : Nat) (cs0Peers : List V) (n0Peers : Nat) (x0Latency : Int) (x0Match : Int) (h : Heap) (K : Out → Nat → List V → Heap → Prop) : (codeP Tryz.Y (Tryz.Y.loc 7) 100 ((flat (bodyOf Tryz.f7))) ⟨(V.agg [V.ts cs0CodeInstrs n0CodeInstrs none, V.ts cs0CodeWatches n0CodeWatches none, V.ts cs0Peers n0Peers none, V.i IntKind.i64 x0Latency, V.i IntKind.i64 x0Match] :: List.replicate 30 .undef), [], h⟩ (VQ [2] K)) =
  (∃ (b : Bool),
  (PCon Tryz.Y (19 : Nat)
 [V.agg
 [V.ts cs0CodeInstrs n0CodeInstrs none, V.ts cs0CodeWatches n0CodeWatches none, V.ts cs0Peers n0Peers none,
 V.i IntKind.i64 x0Latency, V.i IntKind.i64 x0Match]]
 fun (v : V) => v = V.b b) ∧
 If (!b) (K Out.ret 31 [V.i IntKind.i64 (0 : Int)] h)
 (∃ (n : Int),
 (PCon Tryz.Y (11 : Nat)
 [V.agg [V.ts cs0CodeInstrs n0CodeInstrs none, V.ts cs0CodeWatches n0CodeWatches none],
 V.i IntKind.i64 (13 : Int)]
 fun (v : V) => v = V.i IntKind.i64 n) ∧
 ∃ (n_1 : Int),
 (PCon Tryz.Y (11 : Nat)
 [V.agg [V.ts cs0CodeInstrs n0CodeInstrs none, V.ts cs0CodeWatches n0CodeWatches none],
 V.i IntKind.i64 (14 : Int)]
 fun (v : V) => v = V.i IntKind.i64 n_1) ∧
 K Out.ret 31
 [V.i IntKind.i64
 (IntKind.i64.wrap
 (IntKind.i64.wrap
 (IntKind.i64.wrap
 ((50 : Int) +
 IntKind.i64.wrap
 (IntKind.i64.wrap (IntKind.i64.wrap ((6 : Int) + n) + (1 : Int)) + n_1)) +
 (1 : Int)) +
 IntKind.i64.wrap
 (IntKind.i64.wrap
 ((11 : Int) + IntKind.i64.wrap ((2 : Int) * IntKind.i64.wrap (x0Latency + (1 : Int)))) *
 (↑n0Peers : Int))))]
 h)) := by kernel_rfl
theorem f9_0 (cs0CodeInstrs : List V) (n0CodeInstrs : Nat) (cs0CodeWatches : List V) (n0CodeWatches : Nat) (cs0Peers : List V) (n0Peers : Nat) (x0Latency : Int) (x0Match : Int) (h : Heap) (K : Out → Nat → List V → Heap → Prop) : (codeP Tryz.Y (Tryz.Y.loc 9) 100 (pre (flat (bodyOf Tryz.f9))) ⟨(V.agg [V.ts cs0CodeInstrs n0CodeInstrs none, V.ts cs0CodeWatches n0CodeWatches none, V.ts cs0Peers n0Peers none, V.i IntKind.i64 x0Latency, V.i IntKind.i64 x0Match] :: List.replicate 30 .undef), [], h⟩ (VQ [1, 2, 3, 15, 16, 17] K)) =
  (∃ (b : Bool),
  (PCon Tryz.Y (19 : Nat)
 [V.agg
 [V.ts cs0CodeInstrs n0CodeInstrs none, V.ts cs0CodeWatches n0CodeWatches none, V.ts cs0Peers n0Peers none,
 V.i IntKind.i64 x0Latency, V.i IntKind.i64 x0Match]]
 fun (v : V) => v = V.b b) ∧
 If (!b)
 (K Out.ret 31
 [V.lb
 [V.ts cs0CodeInstrs n0CodeInstrs none, V.ts cs0CodeWatches n0CodeWatches none, V.ts cs0Peers n0Peers none,
 V.i IntKind.i64 x0Latency, V.i IntKind.i64 x0Match],
 V.i IntKind.i64 (0 : Int), V.undef, V.undef, V.undef, V.undef]
 h)
 (∃ (n : Int),
 (PCon Tryz.Y (7 : Nat)
 [V.agg
 [V.ts cs0CodeInstrs n0CodeInstrs none, V.ts cs0CodeWatches n0CodeWatches none,
 V.ts cs0Peers n0Peers none, V.i IntKind.i64 x0Latency, V.i IntKind.i64 x0Match]]
 fun (v : V) => v = V.i IntKind.i64 n) ∧
 K Out.normal 31
 [V.lb
 [V.ts cs0CodeInstrs n0CodeInstrs none, V.ts cs0CodeWatches n0CodeWatches none,
 V.ts cs0Peers n0Peers none, V.i IntKind.i64 x0Latency, V.i IntKind.i64 x0Match],
 V.i IntKind.i64 (0 : Int),
 V.i IntKind.i64
 (IntKind.i64.wrap (IntKind.i64.wrap (IntKind.i64.wrap ((3 : Int) * n) + (640 : Int)) + (320 : Int))),
 V.ts cs0Peers n0Peers none, V.i IntKind.i64 (↑n0Peers : Int), V.i IntKind.i64 (0 : Int)]
 h)) := by kernel_rfl
theorem f9_1 (cs0CodeInstrs : List V) (n0CodeInstrs : Nat) (cs0CodeWatches : List V) (n0CodeWatches : Nat) (cs0Peers : List V) (n0Peers : Nat) (x0Latency : Int) (x0Match : Int) (x3 : Int) (x17 : Int) (h : Heap) (K : Out → Nat → List V → Heap → Prop) : (codeP Tryz.Y (Tryz.Y.loc 9) 100 ((flat (loopB (post (flat (bodyOf Tryz.f9)))))) ⟨mk 31 (([1, 3, 15, 16, 17] : List Nat).zip [V.lb [V.ts cs0CodeInstrs n0CodeInstrs none, V.ts cs0CodeWatches n0CodeWatches none, V.ts cs0Peers n0Peers none, V.i IntKind.i64 x0Latency, V.i IntKind.i64 x0Match], V.i IntKind.i64 x3, V.ts cs0Peers n0Peers none, V.i IntKind.i64 (↑n0Peers : Int), V.i IntKind.i64 x17]), [], h⟩ (VQ [1, 3, 15, 16, 17] K)) =
  (If (ltI x17 (↑n0Peers : Int))
  (((0 : Int) ≤ x17 ∧ x17 < (↑n0Peers : Int)) ∧
 ∃ (n : Int),
 ∃ (cs : List V),
 ∃ (l : Nat),
 ∃ (c : Option Nat),
 takeX 2 (List.drop (x17.toNat * (2 : Nat)) cs0Peers) = some [V.i IntKind.i64 n, V.ts cs l c] ∧
 K Out.normal 31
 [V.lb
 [V.ts cs0CodeInstrs n0CodeInstrs none, V.ts cs0CodeWatches n0CodeWatches none,
 V.ts cs0Peers n0Peers none, V.i IntKind.i64 x0Latency, V.i IntKind.i64 x0Match],
 V.i IntKind.i64
 (IntKind.i64.wrap (x3 + IntKind.i64.wrap (IntKind.i64.wrap ((49 : Int) + n) + x0Match))),
 V.ts cs0Peers n0Peers none, V.i IntKind.i64 (↑n0Peers : Int),
 V.i IntKind.i64 (IntKind.i64.wrap (x17 + (1 : Int)))]
 h)
  (K (Out.exit 0) 31
 [V.lb
 [V.ts cs0CodeInstrs n0CodeInstrs none, V.ts cs0CodeWatches n0CodeWatches none, V.ts cs0Peers n0Peers none,
 V.i IntKind.i64 x0Latency, V.i IntKind.i64 x0Match],
 V.i IntKind.i64 x3, V.ts cs0Peers n0Peers none, V.i IntKind.i64 (↑n0Peers : Int), V.i IntKind.i64 x17]
 h)) := by kernel_rfl
theorem f9_2 (x3 : Int) (h : Heap) (K : Out → Nat → List V → Heap → Prop) : (codeP Tryz.Y (Tryz.Y.loc 9) 100 (((post (flat (bodyOf Tryz.f9))).drop 1)) ⟨mk 31 (([3] : List Nat).zip [V.i IntKind.i64 x3]), [], h⟩ (VQ [2] K)) =
  (K Out.ret 31 [V.i IntKind.i64 x3] h) := by kernel_rfl
theorem f10_0 (cs0CodeInstrs : List V) (n0CodeInstrs : Nat) (cs0CodeWatches : List V) (n0CodeWatches : Nat) (cs0Peers : List V) (n0Peers : Nat) (x0Latency : Int) (x0Match : Int) (h : Heap) (K : Out → Nat → List V → Heap → Prop) : (codeP Tryz.Y (Tryz.Y.loc 10) 100 ((flat (bodyOf Tryz.f10))) ⟨(V.agg [V.ts cs0CodeInstrs n0CodeInstrs none, V.ts cs0CodeWatches n0CodeWatches none, V.ts cs0Peers n0Peers none, V.i IntKind.i64 x0Latency, V.i IntKind.i64 x0Match] :: List.replicate 10 .undef), [], h⟩ (VQ [2] K)) =
  (∃ (n : Int),
  (PCon Tryz.Y (9 : Nat)
 [V.agg
 [V.ts cs0CodeInstrs n0CodeInstrs none, V.ts cs0CodeWatches n0CodeWatches none, V.ts cs0Peers n0Peers none,
 V.i IntKind.i64 x0Latency, V.i IntKind.i64 x0Match]]
 fun (v : V) => v = V.i IntKind.i64 n) ∧
 If (n == (0 : Int)) (K Out.ret 11 [V.i IntKind.i64 (0 : Int)] h)
 (K Out.ret 11 [V.i IntKind.i64 (IntKind.i64.wrap ((8 : Int) * IntKind.i64.wrap (n + (1 : Int))))] h)) := by kernel_rfl
theorem f19_0 (cs0CodeInstrs : List V) (n0CodeInstrs : Nat) (cs0CodeWatches : List V) (n0CodeWatches : Nat) (cs0Peers : List V) (n0Peers : Nat) (x0Latency : Int) (x0Match : Int) (h : Heap) (K : Out → Nat → List V → Heap → Prop) : (codeP Tryz.Y (Tryz.Y.loc 19) 100 ((flat (bodyOf Tryz.f19))) ⟨(V.agg [V.ts cs0CodeInstrs n0CodeInstrs none, V.ts cs0CodeWatches n0CodeWatches none, V.ts cs0Peers n0Peers none, V.i IntKind.i64 x0Latency, V.i IntKind.i64 x0Match] :: List.replicate 11 .undef), [], h⟩ (VQ [2] K)) =
  (∃ (n : Int),
  ∃ (cs : List V),
 ∃ (l : Nat),
 ∃ (c : Option Nat),
 ∃ (s : List UInt8),
 ∃ (s_1 : List UInt8),
 ∃ (s_2 : List UInt8),
 ∃ (s_3 : List UInt8),
 ∃ (s_4 : List UInt8),
 ∃ (s_5 : List UInt8),
 ∃ (s_6 : List UInt8),
 ∃ (s_7 : List UInt8),
 ∃ (s_8 : List UInt8),
 ∃ (s_9 : List UInt8),
 ∃ (cs_1 : List V),
 ∃ (l_1 : Nat),
 ∃ (c_1 : Option Nat),
 ∃ (n_1 : Int),
 ∃ (n_2 : Int),
 ∃ (n_3 : Int),
 ∃ (n_4 : Int),
 ∃ (n_5 : Int),
 ∃ (cs_2 : List V),
 ∃ (l_2 : Nat),
 ∃ (c_2 : Option Nat),
 ∃ (cs_3 : List V),
 ∃ (l_3 : Nat),
 ∃ (c_3 : Option Nat),
 ∃ (cs_4 : List V),
 ∃ (l_4 : Nat),
 ∃ (c_4 : Option Nat),
 ∃ (n_6 : Int),
 (PCon Tryz.Y (24 : Nat)
 [V.agg
 [V.ts cs0CodeInstrs n0CodeInstrs none,
 V.ts cs0CodeWatches n0CodeWatches none,
 V.ts cs0Peers n0Peers none,
 V.i IntKind.i64 x0Latency,
 V.i IntKind.i64 x0Match]]
 fun (v : V) =>
 v =
 V.tup
 [V.agg
 [V.i IntKind.i64 n, V.ts cs l c, V.s s,
 V.s s_1, V.s s_2, V.s s_3, V.s s_4,
 V.s s_5, V.s s_6, V.s s_7, V.s s_8,
 V.s s_9, V.ts cs_1 l_1 c_1,
 V.i IntKind.i64 n_1, V.i IntKind.i64 n_2,
 V.i IntKind.i64 n_3, V.i IntKind.i64 n_4,
 V.i IntKind.i64 n_5, V.ts cs_2 l_2 c_2,
 V.ts cs_3 l_3 c_3, V.ts cs_4 l_4 c_4],
 V.i IntKind.i64 n_6]) ∧
 K Out.ret 12 [V.b (n_6 == (0 : Int))] h) := by kernel_rfl
theorem f24_0 (cs0CodeInstrs : List V) (n0CodeInstrs : Nat) (cs0CodeWatches : List V) (n0CodeWatches : Nat) (cs0Peers : List V) (n0Peers : Nat) (x0Latency : Int) (x0Match : Int) (h : Heap) (K : Out → Nat → List V → Heap → Prop) : (codeP Tryz.Y (Tryz.Y.loc 24) 100 ((flat (bodyOf Tryz.f24))) ⟨(V.agg [V.ts cs0CodeInstrs n0CodeInstrs none, V.ts cs0CodeWatches n0CodeWatches none, V.ts cs0Peers n0Peers none, V.i IntKind.i64 x0Latency, V.i IntKind.i64 x0Match] :: List.replicate 12 .undef), [], h⟩ (VQ [2, 3] K)) =
  (∃ (b : Bool),
  (PCon Tryz.Y (42 : Nat)
 [V.agg
 [V.ts cs0CodeInstrs n0CodeInstrs none, V.ts cs0CodeWatches n0CodeWatches none, V.ts cs0Peers n0Peers none,
 V.i IntKind.i64 x0Latency, V.i IntKind.i64 x0Match]]
 fun (v : V) => v = V.b b) ∧
 If (!b)
 (K Out.ret 13
 [V.lb
 [V.i IntKind.i64 (0 : Int), V.sl none 0 (some 0) 0, V.s [], V.s [], V.s [],
 V.s [], V.s [], V.s [], V.s [], V.s [], V.s [], V.s [],
 V.sl none 0 (some 0) 0, V.i IntKind.i64 (0 : Int),
 V.i IntKind.i64 (0 : Int), V.i IntKind.i64 (0 : Int), V.i IntKind.i64 (0 : Int),
 V.i IntKind.i64 (0 : Int), V.sl none 0 (some 0) 0,
 V.sl none 0 (some 0) 0,
 V.sl none 0 (some 0) 0],
 V.i IntKind.i64 (5 : Int)]
 h)
 (((0 : Int) ≤ (↑n0Peers : Int) ∧
 (↑n0Peers : Int) ≤ (↑n0Peers : Int) ∧
 (↑n0Peers : Int) ≤ (↑most : Int) ∧ (↑n0Peers : Int) * (↑(136 : Nat) : Int) ≤ (↑most : Int)) ∧
 K Out.ret 13
 [V.lb
 [V.i IntKind.i64 (0 : Int), V.sl none 0 (some 0) 0, V.s [], V.s [], V.s [],
 V.s [], V.s [], V.s [], V.s [], V.s [], V.s [], V.s [],
 V.sl none 0 (some 0) 0, V.i IntKind.i64 (0 : Int),
 V.i IntKind.i64 (0 : Int), V.i IntKind.i64 (-1 : Int), V.i IntKind.i64 (5 : Int),
 V.i IntKind.i64 (0 : Int), V.sl none 0 (some 0) 0,
 V.sl none 0 (some 0) 0,
 V.sl (some (h.nx, 0)) (↑n0Peers : Int).toNat (some (↑n0Peers : Int).toNat) 11],
 V.i IntKind.i64 (0 : Int)]
 (h.push
 (YObj.arr
 (List.replicate (↑n0Peers : Int).toNat
 [V.b false, V.b false, V.b false, V.i IntKind.i64 (0 : Int), V.i IntKind.i64 (0 : Int), V.s [],
 V.sl none (0 : Nat) (some (0 : Nat)) (0 : Nat), V.s [],
 V.sl none (0 : Nat) (some (0 : Nat)) (0 : Nat), V.s [], V.s []]).flatten
 true)))) := by kernel_rfl
theorem f42_0 (cs0CodeInstrs : List V) (n0CodeInstrs : Nat) (cs0CodeWatches : List V) (n0CodeWatches : Nat) (cs0Peers : List V) (n0Peers : Nat) (x0Latency : Int) (x0Match : Int) (h : Heap) (K : Out → Nat → List V → Heap → Prop) : (codeP Tryz.Y (Tryz.Y.loc 42) 100 ((flat (bodyOf Tryz.f42))) ⟨(V.agg [V.ts cs0CodeInstrs n0CodeInstrs none, V.ts cs0CodeWatches n0CodeWatches none, V.ts cs0Peers n0Peers none, V.i IntKind.i64 x0Latency, V.i IntKind.i64 x0Match] :: List.replicate 36 .undef), [], h⟩ (VQ [2] K)) =
  (If (ltI (↑n0Peers : Int) (1 : Int)) (K Out.ret 37 [V.b false] h)
  (If (ltI (8 : Int) (↑n0Peers : Int)) (K Out.ret 37 [V.b false] h)
 (If (ltI x0Latency (0 : Int)) (K Out.ret 37 [V.b false] h)
 (If (ltI (3 : Int) x0Latency) (K Out.ret 37 [V.b false] h)
 (If (ltI x0Match (1 : Int)) (K Out.ret 37 [V.b false] h)
 (If (ltI (64 : Int) x0Match) (K Out.ret 37 [V.b false] h)
 (Con Tryz.Y (55 : Nat) [V.ts cs0Peers n0Peers none, V.fn (Fn.func (56 : Nat)) [] []] h
 fun (v : V) (h' : Heap) => ∃ (b : Bool), v = V.b b ∧ K Out.ret 37 [V.b !b] h'))))))) := by kernel_rfl
theorem f55_0 (cs0 : List V) (n0 : Nat) (h : Heap) (K : Out → Nat → List V → Heap → Prop) : (codeP Tryz.Y (Tryz.Y.loc 55) 100 ((flat (bodyOf Tryz.f55))) ⟨(V.ts cs0 n0 none :: V.fn (Fn.func 56) [] [] :: List.replicate 7 .undef), [], h⟩ (VQ [4] K)) =
  (Con Tryz.Y (78 : Nat) [V.ts cs0 n0 none, V.fn (Fn.func 56) [] []] h fun (v : V) (h' : Heap) =>
  ∃ (n : Int), v = V.i IntKind.i64 n ∧ K Out.ret 9 [V.b (leI (0 : Int) n)] h') := by kernel_rfl
theorem f78_0 (cs0 : List V) (n0 : Nat) (h : Heap) (K : Out → Nat → List V → Heap → Prop) : (codeP Tryz.Y (Tryz.Y.loc 78) 100 (pre (flat (bodyOf Tryz.f78))) ⟨(V.ts cs0 n0 none :: V.fn (Fn.func 56) [] [] :: List.replicate 17 .undef), [], h⟩ (VQ [0, 1, 7, 8] K)) =
  (K Out.normal 19
  [V.ts cs0 n0 none, V.fn (Fn.func 56) [] [], V.i IntKind.i64 (↑n0 : Int), V.i IntKind.i64 (0 : Int)] h) := by kernel_rfl
theorem f78_1 (cs0 : List V) (n0 : Nat) (x8 : Int) (h : Heap) (K : Out → Nat → List V → Heap → Prop) : (codeP Tryz.Y (Tryz.Y.loc 78) 100 ((flat (loopB (post (flat (bodyOf Tryz.f78)))))) ⟨mk 19 (([0, 1, 7, 8] : List Nat).zip [V.ts cs0 n0 none, V.fn (Fn.func 56) [] [], V.i IntKind.i64 (↑n0 : Int), V.i IntKind.i64 x8]), [], h⟩ (VQ [0, 1, 4, 7, 8] K)) =
  (If (ltI x8 (↑n0 : Int))
  (((0 : Int) ≤ x8 ∧ x8 < (↑n0 : Int)) ∧
 ∃ (n : Int),
 ∃ (cs : List V),
 ∃ (l : Nat),
 ∃ (c : Option Nat),
 takeX 2 (List.drop (x8.toNat * (2 : Nat)) cs0) = some [V.i IntKind.i64 n, V.ts cs l c] ∧
 ∃ (b : Bool),
 (PCon Tryz.Y 56 [V.agg [V.i IntKind.i64 n, V.ts cs l c]] fun (v : V) => v = V.b b) ∧
 If b
 (K Out.ret 19
 [V.ts cs0 n0 none, V.fn (Fn.func 56) [] [], V.i IntKind.i64 x8,
 V.i IntKind.i64 (↑n0 : Int), V.i IntKind.i64 x8]
 h)
 (K Out.normal 19
 [V.ts cs0 n0 none, V.fn (Fn.func 56) [] [], V.undef, V.i IntKind.i64 (↑n0 : Int),
 V.i IntKind.i64 (IntKind.i64.wrap (x8 + (1 : Int)))]
 h))
  (K (Out.exit 0) 19
 [V.ts cs0 n0 none, V.fn (Fn.func 56) [] [], V.undef, V.i IntKind.i64 (↑n0 : Int), V.i IntKind.i64 x8] h)) := by kernel_rfl
theorem f78_2  (h : Heap) (K : Out → Nat → List V → Heap → Prop) : (codeP Tryz.Y (Tryz.Y.loc 78) 100 (((post (flat (bodyOf Tryz.f78))).drop 1)) ⟨mk 19 (([] : List Nat).zip []), [], h⟩ (VQ [4] K)) =
  (K Out.ret 19 [V.i IntKind.i64 (-1 : Int)] h) := by kernel_rfl
theorem f56_0 (x0Cap : Int) (cs0Places : List V) (n0Places : Nat) (h : Heap) (K : Out → Nat → List V → Heap → Prop) : (codeP Tryz.Y (Tryz.Y.loc 56) 100 ((flat (bodyOf Tryz.f56))) ⟨(V.agg [V.i IntKind.i64 x0Cap, V.ts cs0Places n0Places none] :: List.replicate 5 .undef), [], h⟩ (VQ [2] K)) =
  (∃ (b : Bool),
  (PCon Tryz.Y (57 : Nat) [V.agg [V.i IntKind.i64 x0Cap, V.ts cs0Places n0Places none]] fun (v : V) => v = V.b b) ∧
 K Out.ret 6 [V.b !b] h) := by kernel_rfl
theorem f18_0 (cs0CodeInstrs : List V) (n0CodeInstrs : Nat) (cs0CodeWatches : List V) (n0CodeWatches : Nat) (cs0Peers : List V) (n0Peers : Nat) (x0Latency : Int) (x0Match : Int) (h : Heap) (K : Out → Nat → List V → Heap → Prop) : (codeP Tryz.Y (Tryz.Y.loc 18) 100 (pre (flat (bodyOf Tryz.f18))) ⟨(V.agg [V.ts cs0CodeInstrs n0CodeInstrs none, V.ts cs0CodeWatches n0CodeWatches none, V.ts cs0Peers n0Peers none, V.i IntKind.i64 x0Latency, V.i IntKind.i64 x0Match] :: List.replicate 45 .undef), [], h⟩ (VQ [1, 2, 3, 9, 14, 19] K)) =
  (K Out.normal 46
  [V.lb
 [V.ts cs0CodeInstrs n0CodeInstrs none, V.ts cs0CodeWatches n0CodeWatches none, V.ts cs0Peers n0Peers none,
 V.i IntKind.i64 x0Latency, V.i IntKind.i64 x0Match],
 V.b false, V.i IntKind.i64 (0 : Int), V.undef, V.undef, V.undef]
  h) := by kernel_rfl
theorem f18_1 (cs0CodeInstrs : List V) (n0CodeInstrs : Nat) (cs0CodeWatches : List V) (n0CodeWatches : Nat) (cs0Peers : List V) (n0Peers : Nat) (x0Latency : Int) (x0Match : Int) (x3 : Int) (v9 : V) (v14 : V) (v19 : V) (h : Heap) (K : Out → Nat → List V → Heap → Prop) : (codeP Tryz.Y (Tryz.Y.loc 18) 100 ((flat (loopB (post (flat (bodyOf Tryz.f18)))))) ⟨mk 46 (([1, 2, 3, 9, 14, 19] : List Nat).zip [V.lb [V.ts cs0CodeInstrs n0CodeInstrs none, V.ts cs0CodeWatches n0CodeWatches none, V.ts cs0Peers n0Peers none, V.i IntKind.i64 x0Latency, V.i IntKind.i64 x0Match], V.b false, V.i IntKind.i64 x3, v9, v14, v19]), [], h⟩ (VQ [1, 2, 3, 4, 9, 14, 19] K)) =
  (If (ltI x3 (↑n0Peers : Int))
  (If (ltI (7 : Int) x3)
 (K Out.ret 46
 [V.lb
 [V.ts cs0CodeInstrs n0CodeInstrs none, V.ts cs0CodeWatches n0CodeWatches none, V.ts cs0Peers n0Peers none,
 V.i IntKind.i64 x0Latency, V.i IntKind.i64 x0Match],
 V.b false, V.i IntKind.i64 x3, V.i IntKind.i64 x3, v9, V.tup [], V.tup []]
 h)
 (((0 : Int) ≤ x3 ∧ x3 < (↑n0Peers : Int)) ∧
 ∃ (n : Int),
 ∃ (cs : List V),
 ∃ (l : Nat),
 ∃ (c : Option Nat),
 takeX 2 (List.drop (x3.toNat * (2 : Nat)) cs0Peers) = some [V.i IntKind.i64 n, V.ts cs l c] ∧
 ∃ (b : Bool),
 (PCon Tryz.Y (23 : Nat) [V.agg [V.i IntKind.i64 n, V.ts cs l c]] fun (v : V) => v = V.b b) ∧
 If (!b)
 (K Out.ret 46
 [V.lb
 [V.ts cs0CodeInstrs n0CodeInstrs none, V.ts cs0CodeWatches n0CodeWatches none,
 V.ts cs0Peers n0Peers none, V.i IntKind.i64 x0Latency, V.i IntKind.i64 x0Match],
 V.b false, V.i IntKind.i64 x3, V.i IntKind.i64 x3, v9, V.rf, V.b b]
 h)
 (K Out.normal 46
 [V.lb
 [V.ts cs0CodeInstrs n0CodeInstrs none, V.ts cs0CodeWatches n0CodeWatches none,
 V.ts cs0Peers n0Peers none, V.i IntKind.i64 x0Latency, V.i IntKind.i64 x0Match],
 V.b false, V.i IntKind.i64 (IntKind.i64.wrap (x3 + (1 : Int))), V.i IntKind.i64 x3,
 V.i IntKind.i64 x3, V.rf, V.b b]
 h)))
  (K (Out.exit 0) 46
 [V.lb
 [V.ts cs0CodeInstrs n0CodeInstrs none, V.ts cs0CodeWatches n0CodeWatches none, V.ts cs0Peers n0Peers none,
 V.i IntKind.i64 x0Latency, V.i IntKind.i64 x0Match],
 V.b false, V.i IntKind.i64 x3, V.i IntKind.i64 x3, v9, v14, v19]
 h)) := by kernel_rfl
theorem f18_2 (cs0CodeInstrs : List V) (n0CodeInstrs : Nat) (cs0CodeWatches : List V) (n0CodeWatches : Nat) (cs0Peers : List V) (n0Peers : Nat) (x0Latency : Int) (x0Match : Int) (x3 : Int) (v9 : V) (v14 : V) (v19 : V) (h : Heap) (K : Out → Nat → List V → Heap → Prop) : (codeP Tryz.Y (Tryz.Y.loc 18) 100 (((post (flat (bodyOf Tryz.f18))).drop 1)) ⟨mk 46 (([1, 4, 9, 14, 19] : List Nat).zip [V.lb [V.ts cs0CodeInstrs n0CodeInstrs none, V.ts cs0CodeWatches n0CodeWatches none, V.ts cs0Peers n0Peers none, V.i IntKind.i64 x0Latency, V.i IntKind.i64 x0Match], V.i IntKind.i64 x3, v9, v14, v19]), [], h⟩ (VQ [2] K)) =
  (If (leI (1 : Int) (↑n0Peers : Int))
  (If (leI (0 : Int) x0Latency)
 (If (leI x0Latency (3 : Int))
 (If (leI (1 : Int) x0Match) (K Out.ret 46 [V.b (leI x0Match (64 : Int))] h)
 (K Out.ret 46 [V.b false] h))
 (K Out.ret 46 [V.b false] h))
 (K Out.ret 46 [V.b false] h))
  (K Out.ret 46 [V.b false] h)) := by kernel_rfl
theorem f6_0 (cs0CodeInstrs : List V) (n0CodeInstrs : Nat) (cs0CodeWatches : List V) (n0CodeWatches : Nat) (cs0Peers : List V) (n0Peers : Nat) (x0Latency : Int) (x0Match : Int) (h : Heap) (K : Out → Nat → List V → Heap → Prop) : (codeP Tryz.Y (Tryz.Y.loc 6) 100 (pre (flat (bodyOf Tryz.f6))) ⟨(V.agg [V.ts cs0CodeInstrs n0CodeInstrs none, V.ts cs0CodeWatches n0CodeWatches none, V.ts cs0Peers n0Peers none, V.i IntKind.i64 x0Latency, V.i IntKind.i64 x0Match] :: List.replicate 33 .undef), [], h⟩ (VQ [1, 2, 3, 4] K)) =
  (∃ (b : Bool),
  (PCon Tryz.Y (18 : Nat)
 [V.agg
 [V.ts cs0CodeInstrs n0CodeInstrs none, V.ts cs0CodeWatches n0CodeWatches none, V.ts cs0Peers n0Peers none,
 V.i IntKind.i64 x0Latency, V.i IntKind.i64 x0Match]]
 fun (v : V) => v = V.b b) ∧
 If (!b)
 (K Out.ret 34
 [V.lb
 [V.ts cs0CodeInstrs n0CodeInstrs none, V.ts cs0CodeWatches n0CodeWatches none, V.ts cs0Peers n0Peers none,
 V.i IntKind.i64 x0Latency, V.i IntKind.i64 x0Match],
 V.i IntKind.i64 (0 : Int), V.undef, V.undef]
 h)
 (∃ (n : Int),
 (PCon Tryz.Y (8 : Nat)
 [V.agg
 [V.ts cs0CodeInstrs n0CodeInstrs none, V.ts cs0CodeWatches n0CodeWatches none,
 V.ts cs0Peers n0Peers none, V.i IntKind.i64 x0Latency, V.i IntKind.i64 x0Match]]
 fun (v : V) => v = V.i IntKind.i64 n) ∧
 K Out.normal 34
 [V.lb
 [V.ts cs0CodeInstrs n0CodeInstrs none, V.ts cs0CodeWatches n0CodeWatches none,
 V.ts cs0Peers n0Peers none, V.i IntKind.i64 x0Latency, V.i IntKind.i64 x0Match],
 V.i IntKind.i64 (0 : Int),
 V.i IntKind.i64
 (IntKind.i64.wrap (IntKind.i64.wrap (IntKind.i64.wrap ((3 : Int) * n) + (640 : Int)) + (320 : Int))),
 V.i IntKind.i64 (0 : Int)]
 h)) := by kernel_rfl
theorem f6_1 (cs0CodeInstrs : List V) (n0CodeInstrs : Nat) (cs0CodeWatches : List V) (n0CodeWatches : Nat) (cs0Peers : List V) (n0Peers : Nat) (x0Latency : Int) (x0Match : Int) (x3 : Int) (x4 : Int) (h : Heap) (K : Out → Nat → List V → Heap → Prop) : (codeP Tryz.Y (Tryz.Y.loc 6) 100 ((flat (loopB (post (flat (bodyOf Tryz.f6)))))) ⟨mk 34 (([1, 3, 4] : List Nat).zip [V.lb [V.ts cs0CodeInstrs n0CodeInstrs none, V.ts cs0CodeWatches n0CodeWatches none, V.ts cs0Peers n0Peers none, V.i IntKind.i64 x0Latency, V.i IntKind.i64 x0Match], V.i IntKind.i64 x3, V.i IntKind.i64 x4]), [], h⟩ (VQ [1, 3, 4] K)) =
  (If (ltI x4 (↑n0Peers : Int))
  (((0 : Int) ≤ x4 ∧ x4 < (↑n0Peers : Int)) ∧
 ∃ (n : Int),
 takeX 1 (List.drop (0 : Nat) (List.drop (x4.toNat * (2 : Nat)) cs0Peers)) = some [V.i IntKind.i64 n] ∧
 K Out.normal 34
 [V.lb
 [V.ts cs0CodeInstrs n0CodeInstrs none, V.ts cs0CodeWatches n0CodeWatches none, V.ts cs0Peers n0Peers none,
 V.i IntKind.i64 x0Latency, V.i IntKind.i64 x0Match],
 V.i IntKind.i64
 (IntKind.i64.wrap
 (IntKind.i64.wrap (IntKind.i64.wrap (IntKind.i64.wrap (x3 + (1 : Int)) + (48 : Int)) + n) + x0Match)),
 V.i IntKind.i64 (IntKind.i64.wrap (x4 + (1 : Int)))]
 h)
  (K (Out.exit 0) 34
 [V.lb
 [V.ts cs0CodeInstrs n0CodeInstrs none, V.ts cs0CodeWatches n0CodeWatches none, V.ts cs0Peers n0Peers none,
 V.i IntKind.i64 x0Latency, V.i IntKind.i64 x0Match],
 V.i IntKind.i64 x3, V.i IntKind.i64 x4]
 h)) := by kernel_rfl
theorem f6_2 (x3 : Int) (h : Heap) (K : Out → Nat → List V → Heap → Prop) : (codeP Tryz.Y (Tryz.Y.loc 6) 100 (((post (flat (bodyOf Tryz.f6))).drop 1)) ⟨mk 34 (([3] : List Nat).zip [V.i IntKind.i64 x3]), [], h⟩ (VQ [2] K)) =
  (K Out.ret 34 [V.i IntKind.i64 x3] h) := by kernel_rfl
theorem f8_0 (cs0CodeInstrs : List V) (n0CodeInstrs : Nat) (cs0CodeWatches : List V) (n0CodeWatches : Nat) (cs0Peers : List V) (n0Peers : Nat) (x0Latency : Int) (x0Match : Int) (h : Heap) (K : Out → Nat → List V → Heap → Prop) : (codeP Tryz.Y (Tryz.Y.loc 8) 100 (pre (flat (bodyOf Tryz.f8))) ⟨(V.agg [V.ts cs0CodeInstrs n0CodeInstrs none, V.ts cs0CodeWatches n0CodeWatches none, V.ts cs0Peers n0Peers none, V.i IntKind.i64 x0Latency, V.i IntKind.i64 x0Match] :: List.replicate 36 .undef), [], h⟩ (VQ [1, 2, 3, 4] K)) =
  (∃ (b : Bool),
  (PCon Tryz.Y (18 : Nat)
 [V.agg
 [V.ts cs0CodeInstrs n0CodeInstrs none, V.ts cs0CodeWatches n0CodeWatches none, V.ts cs0Peers n0Peers none,
 V.i IntKind.i64 x0Latency, V.i IntKind.i64 x0Match]]
 fun (v : V) => v = V.b b) ∧
 If (!b)
 (K Out.ret 37
 [V.lb
 [V.ts cs0CodeInstrs n0CodeInstrs none, V.ts cs0CodeWatches n0CodeWatches none, V.ts cs0Peers n0Peers none,
 V.i IntKind.i64 x0Latency, V.i IntKind.i64 x0Match],
 V.i IntKind.i64 (0 : Int), V.undef, V.undef]
 h)
 (∃ (n : Int),
 (PCon Tryz.Y (12 : Nat)
 [V.agg [V.ts cs0CodeInstrs n0CodeInstrs none, V.ts cs0CodeWatches n0CodeWatches none],
 V.i IntKind.i64 (13 : Int)]
 fun (v : V) => v = V.i IntKind.i64 n) ∧
 ∃ (n_1 : Int),
 (PCon Tryz.Y (12 : Nat)
 [V.agg [V.ts cs0CodeInstrs n0CodeInstrs none, V.ts cs0CodeWatches n0CodeWatches none],
 V.i IntKind.i64 (14 : Int)]
 fun (v : V) => v = V.i IntKind.i64 n_1) ∧
 K Out.normal 37
 [V.lb
 [V.ts cs0CodeInstrs n0CodeInstrs none, V.ts cs0CodeWatches n0CodeWatches none,
 V.ts cs0Peers n0Peers none, V.i IntKind.i64 x0Latency, V.i IntKind.i64 x0Match],
 V.i IntKind.i64 (0 : Int),
 V.i IntKind.i64
 (IntKind.i64.wrap
 (IntKind.i64.wrap (IntKind.i64.wrap (IntKind.i64.wrap ((56 : Int) + n) + (1 : Int)) + n_1) +
 (1 : Int))),
 V.i IntKind.i64 (0 : Int)]
 h)) := by kernel_rfl
theorem f8_1 (cs0CodeInstrs : List V) (n0CodeInstrs : Nat) (cs0CodeWatches : List V) (n0CodeWatches : Nat) (cs0Peers : List V) (n0Peers : Nat) (x0Latency : Int) (x0Match : Int) (x3 : Int) (x4 : Int) (h : Heap) (K : Out → Nat → List V → Heap → Prop) : (codeP Tryz.Y (Tryz.Y.loc 8) 100 (pre (flat (loopB (post (flat (bodyOf Tryz.f8)))))) ⟨mk 37 (([1, 3, 4] : List Nat).zip [V.lb [V.ts cs0CodeInstrs n0CodeInstrs none, V.ts cs0CodeWatches n0CodeWatches none, V.ts cs0Peers n0Peers none, V.i IntKind.i64 x0Latency, V.i IntKind.i64 x0Match], V.i IntKind.i64 x3, V.i IntKind.i64 x4]), [], h⟩ (VQ [1, 3, 4] K)) =
  (If (ltI x4 (↑n0Peers : Int))
  (K Out.normal 37
 [V.lb
 [V.ts cs0CodeInstrs n0CodeInstrs none, V.ts cs0CodeWatches n0CodeWatches none, V.ts cs0Peers n0Peers none,
 V.i IntKind.i64 x0Latency, V.i IntKind.i64 x0Match],
 V.i IntKind.i64 x3, V.i IntKind.i64 x4]
 h)
  (K (Out.exit 0) 37
 [V.lb
 [V.ts cs0CodeInstrs n0CodeInstrs none, V.ts cs0CodeWatches n0CodeWatches none, V.ts cs0Peers n0Peers none,
 V.i IntKind.i64 x0Latency, V.i IntKind.i64 x0Match],
 V.i IntKind.i64 x3, V.i IntKind.i64 x4]
 h)) := by kernel_rfl
theorem f8_2 (cs0CodeInstrs : List V) (n0CodeInstrs : Nat) (cs0CodeWatches : List V) (n0CodeWatches : Nat) (cs0Peers : List V) (n0Peers : Nat) (x0Latency : Int) (x0Match : Int) (x3 : Int) (x4 : Int) (h : Heap) (K : Out → Nat → List V → Heap → Prop) : (codeP Tryz.Y (Tryz.Y.loc 8) 100 (pre (flat (blockB (post (flat (loopB (post (flat (bodyOf Tryz.f8))))))))) ⟨mk 37 (([1, 3, 4] : List Nat).zip [V.lb [V.ts cs0CodeInstrs n0CodeInstrs none, V.ts cs0CodeWatches n0CodeWatches none, V.ts cs0Peers n0Peers none, V.i IntKind.i64 x0Latency, V.i IntKind.i64 x0Match], V.i IntKind.i64 x3, V.i IntKind.i64 x4]), [], h⟩ (VQ [1, 3, 4, 5] K)) =
  (K Out.normal 37
  [V.lb
 [V.ts cs0CodeInstrs n0CodeInstrs none, V.ts cs0CodeWatches n0CodeWatches none, V.ts cs0Peers n0Peers none,
 V.i IntKind.i64 x0Latency, V.i IntKind.i64 x0Match],
 V.i IntKind.i64 (IntKind.i64.wrap (x3 + (11 : Int))), V.i IntKind.i64 x4, V.i IntKind.i64 (0 : Int)]
  h) := by kernel_rfl
theorem f8_3 (cs0CodeInstrs : List V) (n0CodeInstrs : Nat) (cs0CodeWatches : List V) (n0CodeWatches : Nat) (cs0Peers : List V) (n0Peers : Nat) (x0Latency : Int) (x0Match : Int) (x4 : Int) (x3z3 : Int) (x5z2 : Int) (h : Heap) (K : Out → Nat → List V → Heap → Prop) : (codeP Tryz.Y (Tryz.Y.loc 8) 100 ((flat (loopB (post (flat (blockB (post (flat (loopB (post (flat (bodyOf Tryz.f8)))))))))))) ⟨mk 37 (([1, 3, 4, 5] : List Nat).zip [V.lb [V.ts cs0CodeInstrs n0CodeInstrs none, V.ts cs0CodeWatches n0CodeWatches none, V.ts cs0Peers n0Peers none, V.i IntKind.i64 x0Latency, V.i IntKind.i64 x0Match], V.i IntKind.i64 x3z3, V.i IntKind.i64 x4, V.i IntKind.i64 x5z2]), [], h⟩ (VQ [1, 3, 4, 5] K)) =
  (If (leI x5z2 x0Latency)
  (K Out.normal 37
 [V.lb
 [V.ts cs0CodeInstrs n0CodeInstrs none, V.ts cs0CodeWatches n0CodeWatches none, V.ts cs0Peers n0Peers none,
 V.i IntKind.i64 x0Latency, V.i IntKind.i64 x0Match],
 V.i IntKind.i64 (IntKind.i64.wrap (x3z3 + (2 : Int))), V.i IntKind.i64 x4,
 V.i IntKind.i64 (IntKind.i64.wrap (x5z2 + (1 : Int)))]
 h)
  (K (Out.exit 2) 37
 [V.lb
 [V.ts cs0CodeInstrs n0CodeInstrs none, V.ts cs0CodeWatches n0CodeWatches none, V.ts cs0Peers n0Peers none,
 V.i IntKind.i64 x0Latency, V.i IntKind.i64 x0Match],
 V.i IntKind.i64 x3z3, V.i IntKind.i64 x4, V.i IntKind.i64 x5z2]
 h)) := by kernel_rfl
theorem f8_4 (cs0CodeInstrs : List V) (n0CodeInstrs : Nat) (cs0CodeWatches : List V) (n0CodeWatches : Nat) (cs0Peers : List V) (n0Peers : Nat) (x0Latency : Int) (x0Match : Int) (x4 : Int) (x3z3 : Int) (h : Heap) (K : Out → Nat → List V → Heap → Prop) : (codeP Tryz.Y (Tryz.Y.loc 8) 100 (((post (flat (loopB (post (flat (bodyOf Tryz.f8)))))).drop 1)) ⟨mk 37 (([1, 3, 4] : List Nat).zip [V.lb [V.ts cs0CodeInstrs n0CodeInstrs none, V.ts cs0CodeWatches n0CodeWatches none, V.ts cs0Peers n0Peers none, V.i IntKind.i64 x0Latency, V.i IntKind.i64 x0Match], V.i IntKind.i64 x3z3, V.i IntKind.i64 x4]), [], h⟩ (VQ [1, 3, 4] K)) =
  (K Out.normal 37
  [V.lb
 [V.ts cs0CodeInstrs n0CodeInstrs none, V.ts cs0CodeWatches n0CodeWatches none, V.ts cs0Peers n0Peers none,
 V.i IntKind.i64 x0Latency, V.i IntKind.i64 x0Match],
 V.i IntKind.i64 x3z3, V.i IntKind.i64 (IntKind.i64.wrap (x4 + (1 : Int)))]
  h) := by kernel_rfl
theorem f8_5 (x3 : Int) (h : Heap) (K : Out → Nat → List V → Heap → Prop) : (codeP Tryz.Y (Tryz.Y.loc 8) 100 (((post (flat (bodyOf Tryz.f8))).drop 1)) ⟨mk 37 (([3] : List Nat).zip [V.i IntKind.i64 x3]), [], h⟩ (VQ [2] K)) =
  (K Out.ret 37 [V.i IntKind.i64 x3] h) := by kernel_rfl
theorem f14_0 (cs0Instrs : List V) (n0Instrs : Nat) (cs0Watches : List V) (n0Watches : Nat) (cs1 : List V) (n1 : Nat) (h : Heap) (K : Out → Nat → List V → Heap → Prop) : (codeP Tryz.Y (Tryz.Y.loc 14) 100 (pre (flat (bodyOf Tryz.f14))) ⟨(V.agg [V.ts cs0Instrs n0Instrs none, V.ts cs0Watches n0Watches none] :: V.ts cs1 n1 none :: List.replicate 40 .undef), [], h⟩ (VQ [1, 4, 19, 20, 21] K)) =
  (If (ltI (12 : Int) (↑n0Watches : Int))
  (K Out.ret 42 [V.ts cs1 n1 none, V.b false, V.undef, V.undef, V.undef] h)
  (If (ltI (9 : Int) (↑n1 : Int)) (K Out.ret 42 [V.ts cs1 n1 none, V.b false, V.undef, V.undef, V.undef] h)
 (K Out.normal 42
 [V.ts cs1 n1 none, V.b false, V.ts cs0Watches n0Watches none, V.i IntKind.i64 (↑n0Watches : Int),
 V.i IntKind.i64 (0 : Int)]
 h))) := by kernel_rfl
theorem f14_1 (cs0Watches : List V) (n0Watches : Nat) (cs1 : List V) (n1 : Nat) (x21 : Int) (h : Heap) (K : Out → Nat → List V → Heap → Prop) : (codeP Tryz.Y (Tryz.Y.loc 14) 100 ((flat (loopB (post (flat (bodyOf Tryz.f14)))))) ⟨mk 42 (([1, 19, 20, 21] : List Nat).zip [V.ts cs1 n1 none, V.ts cs0Watches n0Watches none, V.i IntKind.i64 (↑n0Watches : Int), V.i IntKind.i64 x21]), [], h⟩ (VQ [1, 4, 19, 20, 21] K)) =
  (If (ltI x21 (↑n0Watches : Int))
  (((0 : Int) ≤ x21 ∧ x21 < (↑n0Watches : Int)) ∧
 ∃ (n : Int),
 ∃ (n_1 : Int),
 ∃ (n_2 : Int),
 ∃ (s : List UInt8),
 ∃ (n_3 : Int),
 ∃ (b : Bool),
 ∃ (n_4 : Int),
 takeX 7 (List.drop (x21.toNat * (7 : Nat)) cs0Watches) =
 some
 [V.i IntKind.i64 n, V.i IntKind.i64 n_1, V.i IntKind.i64 n_2, V.s s, V.i IntKind.i64 n_3, V.b b,
 V.i IntKind.i64 n_4] ∧
 If (ltI (40 : Int) (↑s.length : Int))
 (K Out.ret 42
 [V.ts cs1 n1 none, V.b false, V.ts cs0Watches n0Watches none,
 V.i IntKind.i64 (↑n0Watches : Int), V.i IntKind.i64 x21]
 h)
 (K Out.normal 42
 [V.ts cs1 n1 none, V.undef, V.ts cs0Watches n0Watches none, V.i IntKind.i64 (↑n0Watches : Int),
 V.i IntKind.i64 (IntKind.i64.wrap (x21 + (1 : Int)))]
 h))
  (K (Out.exit 0) 42
 [V.ts cs1 n1 none, V.undef, V.ts cs0Watches n0Watches none, V.i IntKind.i64 (↑n0Watches : Int), V.i IntKind.i64 x21]
 h)) := by kernel_rfl
theorem f14_2 (cs1 : List V) (n1 : Nat) (h : Heap) (K : Out → Nat → List V → Heap → Prop) : (codeP Tryz.Y (Tryz.Y.loc 14) 100 (pre ((post (flat (bodyOf Tryz.f14))).drop 1)) ⟨mk 42 (([1] : List Nat).zip [V.ts cs1 n1 none]), [], h⟩ (VQ [31, 32, 33] K)) =
  (K Out.normal 42 [V.ts cs1 n1 none, V.i IntKind.i64 (↑n1 : Int), V.i IntKind.i64 (0 : Int)] h) := by kernel_rfl
theorem f14_3 (cs1 : List V) (n1 : Nat) (x33 : Int) (h : Heap) (K : Out → Nat → List V → Heap → Prop) : (codeP Tryz.Y (Tryz.Y.loc 14) 100 ((flat (loopB (post ((post (flat (bodyOf Tryz.f14))).drop 1))))) ⟨mk 42 (([31, 32, 33] : List Nat).zip [V.ts cs1 n1 none, V.i IntKind.i64 (↑n1 : Int), V.i IntKind.i64 x33]), [], h⟩ (VQ [4, 31, 32, 33] K)) =
  (If (ltI x33 (↑n1 : Int))
  (((0 : Int) ≤ x33 ∧ x33 < (↑n1 : Int)) ∧
 ∃ (b : Bool),
 ∃ (b_1 : Bool),
 ∃ (b_2 : Bool),
 ∃ (n : Int),
 ∃ (n_1 : Int),
 ∃ (s : List UInt8),
 ∃ (cs : List V),
 ∃ (l : Nat),
 ∃ (c : Option Nat),
 ∃ (s_1 : List UInt8),
 ∃ (cs_1 : List V),
 ∃ (l_1 : Nat),
 ∃ (c_1 : Option Nat),
 ∃ (s_2 : List UInt8),
 ∃ (s_3 : List UInt8),
 takeX 11 (List.drop (x33.toNat * (11 : Nat)) cs1) =
 some
 [V.b b, V.b b_1, V.b b_2, V.i IntKind.i64 n, V.i IntKind.i64 n_1, V.s s,
 V.ts cs l c, V.s s_1, V.ts cs_1 l_1 c_1, V.s s_2, V.s s_3] ∧
 If (ltI (20 : Int) (↑s_3.length : Int))
 (K Out.ret 42
 [V.b false, V.ts cs1 n1 none, V.i IntKind.i64 (↑n1 : Int), V.i IntKind.i64 x33]
 h)
 (K Out.normal 42
 [V.undef, V.ts cs1 n1 none, V.i IntKind.i64 (↑n1 : Int),
 V.i IntKind.i64 (IntKind.i64.wrap (x33 + (1 : Int)))]
 h))
  (K (Out.exit 2) 42 [V.undef, V.ts cs1 n1 none, V.i IntKind.i64 (↑n1 : Int), V.i IntKind.i64 x33]
 h)) := by kernel_rfl
theorem f14_4  (h : Heap) (K : Out → Nat → List V → Heap → Prop) : (codeP Tryz.Y (Tryz.Y.loc 14) 100 (((post ((post (flat (bodyOf Tryz.f14))).drop 1)).drop 1)) ⟨mk 42 (([] : List Nat).zip []), [], h⟩ (VQ [4] K)) =
  (K Out.ret 42 [V.b true] h) := by kernel_rfl
theorem f15_0 (cs0 : List V) (n0 : Nat) (h : Heap) (K : Out → Nat → List V → Heap → Prop) : (codeP Tryz.Y (Tryz.Y.loc 15) 100 (pre (flat (bodyOf Tryz.f15))) ⟨(V.ts cs0 n0 none :: List.replicate 24 .undef), [], h⟩ (VQ [2, 8, 9, 10] K)) =
  (If (ltI (20 : Int) (↑n0 : Int)) (K Out.ret 25 [V.b false, V.undef, V.undef, V.undef] h)
  (K Out.normal 25 [V.b false, V.ts cs0 n0 none, V.i IntKind.i64 (↑n0 : Int), V.i IntKind.i64 (0 : Int)] h)) := by kernel_rfl
theorem f15_1 (cs0 : List V) (n0 : Nat) (x10 : Int) (h : Heap) (K : Out → Nat → List V → Heap → Prop) : (codeP Tryz.Y (Tryz.Y.loc 15) 100 ((flat (loopB (post (flat (bodyOf Tryz.f15)))))) ⟨mk 25 (([8, 9, 10] : List Nat).zip [V.ts cs0 n0 none, V.i IntKind.i64 (↑n0 : Int), V.i IntKind.i64 x10]), [], h⟩ (VQ [2, 8, 9, 10] K)) =
  (If (ltI x10 (↑n0 : Int))
  (((0 : Int) ≤ x10 ∧ x10 < (↑n0 : Int)) ∧
 ∃ (s : List UInt8),
 ∃ (s_1 : List UInt8),
 takeX 2 (List.drop (x10.toNat * (2 : Nat)) cs0) = some [V.s s, V.s s_1] ∧
 If (ltI (60 : Int) (↑s.length : Int))
 (K Out.ret 25 [V.b false, V.ts cs0 n0 none, V.i IntKind.i64 (↑n0 : Int), V.i IntKind.i64 x10] h)
 (If (ltI (60 : Int) (↑s_1.length : Int))
 (K Out.ret 25 [V.b false, V.ts cs0 n0 none, V.i IntKind.i64 (↑n0 : Int), V.i IntKind.i64 x10] h)
 (K Out.normal 25
 [V.undef, V.ts cs0 n0 none, V.i IntKind.i64 (↑n0 : Int),
 V.i IntKind.i64 (IntKind.i64.wrap (x10 + (1 : Int)))]
 h)))
  (K (Out.exit 0) 25 [V.undef, V.ts cs0 n0 none, V.i IntKind.i64 (↑n0 : Int), V.i IntKind.i64 x10]
 h)) := by kernel_rfl
theorem f15_2  (h : Heap) (K : Out → Nat → List V → Heap → Prop) : (codeP Tryz.Y (Tryz.Y.loc 15) 100 (((post (flat (bodyOf Tryz.f15))).drop 1)) ⟨mk 25 (([] : List Nat).zip []), [], h⟩ (VQ [2] K)) =
  (K Out.ret 25 [V.b true] h) := by kernel_rfl
theorem f5_0 (cs0Instrs : List V) (n0Instrs : Nat) (cs0Watches : List V) (n0Watches : Nat) (cs0Peers : List V) (n0Peers : Nat) (x0Latency : Int) (x0Match : Int) (h : Heap) (K : Out → Nat → List V → Heap → Prop) : (codeP Tryz.Y (Tryz.Y.loc 5) 100 (pre (flat (bodyOf Tryz.f5))) ⟨(V.agg [V.ts cs0Instrs n0Instrs none, V.ts cs0Watches n0Watches none, V.ts cs0Peers n0Peers none, V.i IntKind.i64 x0Latency, V.i IntKind.i64 x0Match] :: V.agg [V.i IntKind.i64 0, V.ts [] 0 none, V.s [], V.s [], V.s [], V.s [], V.s [], V.s [], V.s [], V.s [], V.s [], V.s [], V.ts [] 0 none, V.i IntKind.i64 0, V.i IntKind.i64 0, V.i IntKind.i64 0, V.i IntKind.i64 0, V.i IntKind.i64 0, V.ts [] 0 none, V.ts [] 0 none, V.ts [] 0 none] :: List.replicate 154 .undef), [], h⟩ (VQ [2, 3, 4, 10, 16, 67, 68, 69] K)) =
  (If (ltI (40 : Int) (↑n0Instrs : Int))
  (K Out.ret 156
 [V.lb
 [V.ts cs0Instrs n0Instrs none, V.ts cs0Watches n0Watches none, V.ts cs0Peers n0Peers none,
 V.i IntKind.i64 x0Latency, V.i IntKind.i64 x0Match],
 V.lb
 [V.i IntKind.i64 (0 : Int), V.ts [] 0 none, V.s [], V.s [], V.s [], V.s [], V.s [], V.s [], V.s [],
 V.s [], V.s [], V.s [], V.ts [] 0 none, V.i IntKind.i64 (0 : Int), V.i IntKind.i64 (0 : Int),
 V.i IntKind.i64 (0 : Int), V.i IntKind.i64 (0 : Int), V.i IntKind.i64 (0 : Int), V.ts [] 0 none,
 V.ts [] 0 none, V.ts [] 0 none],
 V.b false, V.undef, V.rf, V.undef, V.undef, V.undef]
 h)
  (If (ltI (9 : Int) (↑n0Peers : Int))
 (K Out.ret 156
 [V.lb
 [V.ts cs0Instrs n0Instrs none, V.ts cs0Watches n0Watches none, V.ts cs0Peers n0Peers none,
 V.i IntKind.i64 x0Latency, V.i IntKind.i64 x0Match],
 V.lb
 [V.i IntKind.i64 (0 : Int), V.ts [] 0 none, V.s [], V.s [], V.s [], V.s [], V.s [], V.s [], V.s [],
 V.s [], V.s [], V.s [], V.ts [] 0 none, V.i IntKind.i64 (0 : Int), V.i IntKind.i64 (0 : Int),
 V.i IntKind.i64 (0 : Int), V.i IntKind.i64 (0 : Int), V.i IntKind.i64 (0 : Int), V.ts [] 0 none,
 V.ts [] 0 none, V.ts [] 0 none],
 V.b false, V.undef, V.rf, V.undef, V.undef, V.undef]
 h)
 (∃ (b : Bool),
 (PCon Tryz.Y (14 : Nat)
 [V.agg [V.ts cs0Instrs n0Instrs none, V.ts cs0Watches n0Watches none],
 V.sl none 0 (some 0) 0]
 fun (v : V) => v = V.b b) ∧
 If (!b)
 (K Out.ret 156
 [V.lb
 [V.ts cs0Instrs n0Instrs none, V.ts cs0Watches n0Watches none, V.ts cs0Peers n0Peers none,
 V.i IntKind.i64 x0Latency, V.i IntKind.i64 x0Match],
 V.lb
 [V.i IntKind.i64 (0 : Int), V.ts [] 0 none, V.s [], V.s [], V.s [], V.s [], V.s [], V.s [],
 V.s [], V.s [], V.s [], V.s [], V.ts [] 0 none, V.i IntKind.i64 (0 : Int),
 V.i IntKind.i64 (0 : Int), V.i IntKind.i64 (0 : Int), V.i IntKind.i64 (0 : Int),
 V.i IntKind.i64 (0 : Int), V.ts [] 0 none, V.ts [] 0 none,
 V.ts [] 0 none],
 V.b false, V.undef, V.rf, V.undef, V.undef, V.undef]
 h)
 (∃ (b : Bool),
 (PCon Tryz.Y (15 : Nat) [V.ts [] 0 none] fun (v : V) => v = V.b b) ∧
 If (!b)
 (K Out.ret 156
 [V.lb
 [V.ts cs0Instrs n0Instrs none, V.ts cs0Watches n0Watches none, V.ts cs0Peers n0Peers none,
 V.i IntKind.i64 x0Latency, V.i IntKind.i64 x0Match],
 V.lb
 [V.i IntKind.i64 (0 : Int), V.ts [] 0 none, V.s [], V.s [], V.s [], V.s [], V.s [],
 V.s [], V.s [], V.s [], V.s [], V.s [], V.ts [] 0 none, V.i IntKind.i64 (0 : Int),
 V.i IntKind.i64 (0 : Int), V.i IntKind.i64 (0 : Int), V.i IntKind.i64 (0 : Int),
 V.i IntKind.i64 (0 : Int), V.ts [] 0 none, V.ts [] 0 none,
 V.ts [] 0 none],
 V.b false, V.undef, V.rf, V.undef, V.undef, V.undef]
 h)
 (K Out.normal 156
 [V.lb
 [V.ts cs0Instrs n0Instrs none, V.ts cs0Watches n0Watches none, V.ts cs0Peers n0Peers none,
 V.i IntKind.i64 x0Latency, V.i IntKind.i64 x0Match],
 V.lb
 [V.i IntKind.i64 (0 : Int), V.ts [] 0 none, V.s [], V.s [], V.s [], V.s [], V.s [],
 V.s [], V.s [], V.s [], V.s [], V.s [], V.ts [] 0 none, V.i IntKind.i64 (0 : Int),
 V.i IntKind.i64 (0 : Int), V.i IntKind.i64 (0 : Int), V.i IntKind.i64 (0 : Int),
 V.i IntKind.i64 (0 : Int), V.ts [] 0 none, V.ts [] 0 none,
 V.ts [] 0 none],
 V.b false, V.undef, V.rf, V.ts cs0Instrs n0Instrs none, V.i IntKind.i64 (↑n0Instrs : Int),
 V.i IntKind.i64 (0 : Int)]
 h))))) := by kernel_rfl
theorem f5_1 (cs0Instrs : List V) (n0Instrs : Nat) (cs0Watches : List V) (n0Watches : Nat) (cs0Peers : List V) (n0Peers : Nat) (x0Latency : Int) (x0Match : Int) (b4 : Bool) (s3_2z5 : List UInt8) (s3_3z5 : List UInt8) (s3_4z5 : List UInt8) (s3_5z5 : List UInt8) (s3_6z5 : List UInt8) (s3_7z5 : List UInt8) (s3_8z5 : List UInt8) (s3_9z5 : List UInt8) (s3_10z5 : List UInt8) (s3_11z5 : List UInt8) (v10z2 : V) (x69 : Int) (h : Heap) (K : Out → Nat → List V → Heap → Prop) : (codeP Tryz.Y (Tryz.Y.loc 5) 100 (pre (flat (loopB (post (flat (bodyOf Tryz.f5)))))) ⟨mk 156 (([2, 3, 4, 10, 16, 67, 68, 69] : List Nat).zip [V.lb [V.ts cs0Instrs n0Instrs none, V.ts cs0Watches n0Watches none, V.ts cs0Peers n0Peers none, V.i IntKind.i64 x0Latency, V.i IntKind.i64 x0Match], V.lb [V.i IntKind.i64 0, V.ts [] 0 none, V.s s3_2z5, V.s s3_3z5, V.s s3_4z5, V.s s3_5z5, V.s s3_6z5, V.s s3_7z5, V.s s3_8z5, V.s s3_9z5, V.s s3_10z5, V.s s3_11z5, V.ts [] 0 none, V.i IntKind.i64 0, V.i IntKind.i64 0, V.i IntKind.i64 0, V.i IntKind.i64 0, V.i IntKind.i64 0, V.ts [] 0 none, V.ts [] 0 none, V.ts [] 0 none], V.b b4, v10z2, V.rf, V.ts cs0Instrs n0Instrs none, V.i IntKind.i64 (↑n0Instrs : Int), V.i IntKind.i64 x69]), [], h⟩ (VQ [2, 3, 4, 10, 16, 67, 68, 69] K)) =
  (If (ltI x69 (↑n0Instrs : Int))
  (K Out.normal 156
 [V.lb
 [V.ts cs0Instrs n0Instrs none, V.ts cs0Watches n0Watches none, V.ts cs0Peers n0Peers none,
 V.i IntKind.i64 x0Latency, V.i IntKind.i64 x0Match],
 V.lb
 [V.i IntKind.i64 (0 : Int), V.ts [] 0 none, V.s s3_2z5, V.s s3_3z5, V.s s3_4z5, V.s s3_5z5,
 V.s s3_6z5, V.s s3_7z5, V.s s3_8z5, V.s s3_9z5, V.s s3_10z5, V.s s3_11z5, V.ts [] 0 none,
 V.i IntKind.i64 (0 : Int), V.i IntKind.i64 (0 : Int), V.i IntKind.i64 (0 : Int), V.i IntKind.i64 (0 : Int),
 V.i IntKind.i64 (0 : Int), V.ts [] 0 none, V.ts [] 0 none, V.ts [] 0 none],
 V.b b4, v10z2, V.rf, V.ts cs0Instrs n0Instrs none, V.i IntKind.i64 (↑n0Instrs : Int), V.i IntKind.i64 x69]
 h)
  (K (Out.exit 0) 156
 [V.lb
 [V.ts cs0Instrs n0Instrs none, V.ts cs0Watches n0Watches none, V.ts cs0Peers n0Peers none,
 V.i IntKind.i64 x0Latency, V.i IntKind.i64 x0Match],
 V.lb
 [V.i IntKind.i64 (0 : Int), V.ts [] 0 none, V.s s3_2z5, V.s s3_3z5, V.s s3_4z5, V.s s3_5z5,
 V.s s3_6z5, V.s s3_7z5, V.s s3_8z5, V.s s3_9z5, V.s s3_10z5, V.s s3_11z5, V.ts [] 0 none,
 V.i IntKind.i64 (0 : Int), V.i IntKind.i64 (0 : Int), V.i IntKind.i64 (0 : Int), V.i IntKind.i64 (0 : Int),
 V.i IntKind.i64 (0 : Int), V.ts [] 0 none, V.ts [] 0 none, V.ts [] 0 none],
 V.b b4, v10z2, V.rf, V.ts cs0Instrs n0Instrs none, V.i IntKind.i64 (↑n0Instrs : Int), V.i IntKind.i64 x69]
 h)) := by kernel_rfl
theorem f5_2 (cs0Instrs : List V) (n0Instrs : Nat) (cs0Watches : List V) (n0Watches : Nat) (cs0Peers : List V) (n0Peers : Nat) (x0Latency : Int) (x0Match : Int) (b4 : Bool) (s3_2z5 : List UInt8) (s3_3z5 : List UInt8) (s3_4z5 : List UInt8) (s3_5z5 : List UInt8) (s3_6z5 : List UInt8) (s3_7z5 : List UInt8) (s3_8z5 : List UInt8) (s3_9z5 : List UInt8) (s3_10z5 : List UInt8) (s3_11z5 : List UInt8) (v10z2 : V) (x69 : Int) (h : Heap) (K : Out → Nat → List V → Heap → Prop) : (codeP Tryz.Y (Tryz.Y.loc 5) 100 (pre (flat (blockB (post (flat (loopB (post (flat (bodyOf Tryz.f5))))))))) ⟨mk 156 (([2, 3, 4, 10, 16, 67, 68, 69] : List Nat).zip [V.lb [V.ts cs0Instrs n0Instrs none, V.ts cs0Watches n0Watches none, V.ts cs0Peers n0Peers none, V.i IntKind.i64 x0Latency, V.i IntKind.i64 x0Match], V.lb [V.i IntKind.i64 0, V.ts [] 0 none, V.s s3_2z5, V.s s3_3z5, V.s s3_4z5, V.s s3_5z5, V.s s3_6z5, V.s s3_7z5, V.s s3_8z5, V.s s3_9z5, V.s s3_10z5, V.s s3_11z5, V.ts [] 0 none, V.i IntKind.i64 0, V.i IntKind.i64 0, V.i IntKind.i64 0, V.i IntKind.i64 0, V.i IntKind.i64 0, V.ts [] 0 none, V.ts [] 0 none, V.ts [] 0 none], V.b b4, v10z2, V.rf, V.ts cs0Instrs n0Instrs none, V.i IntKind.i64 (↑n0Instrs : Int), V.i IntKind.i64 x69]), [], h⟩ (VQ [2, 3, 4, 6, 10, 16, 67, 68, 69, 98, 99, 100] K)) =
  (((0 : Int) ≤ x69 ∧ x69 < (↑n0Instrs : Int)) ∧
  ∃ (n : Int),
 ∃ (n_1 : Int),
 ∃ (s : List UInt8),
 ∃ (n_2 : Int),
 ∃ (cs : List V),
 ∃ (l : Nat),
 ∃ (c : Option Nat),
 ∃ (n_3 : Int),
 ∃ (n_4 : Int),
 ∃ (s_1 : List UInt8),
 ∃ (s_2 : List UInt8),
 ∃ (cs_1 : List V),
 ∃ (l_1 : Nat),
 ∃ (c_1 : Option Nat),
 ∃ (cs_2 : List V),
 ∃ (l_2 : Nat),
 ∃ (c_2 : Option Nat),
 takeX 11 (List.drop (x69.toNat * (11 : Nat)) cs0Instrs) =
 some
 [V.i IntKind.i64 n, V.i IntKind.i64 n_1, V.s s, V.i IntKind.i64 n_2,
 V.ts cs l c, V.i IntKind.i64 n_3, V.i IntKind.i64 n_4, V.s s_1, V.s s_2,
 V.ts cs_1 l_1 c_1, V.ts cs_2 l_2 c_2] ∧
 If (ltI (6 : Int) (↑l : Int))
 (K Out.ret 156
 [V.lb
 [V.ts cs0Instrs n0Instrs none, V.ts cs0Watches n0Watches none,
 V.ts cs0Peers n0Peers none, V.i IntKind.i64 x0Latency,
 V.i IntKind.i64 x0Match],
 V.lb
 [V.i IntKind.i64 (0 : Int), V.ts [] 0 none, V.s s3_2z5,
 V.s s3_3z5, V.s s3_4z5, V.s s3_5z5, V.s s3_6z5, V.s s3_7z5, V.s s3_8z5,
 V.s s3_9z5, V.s s3_10z5, V.s s3_11z5, V.ts [] 0 none,
 V.i IntKind.i64 (0 : Int), V.i IntKind.i64 (0 : Int),
 V.i IntKind.i64 (0 : Int), V.i IntKind.i64 (0 : Int),
 V.i IntKind.i64 (0 : Int), V.ts [] 0 none,
 V.ts [] 0 none, V.ts [] 0 none],
 V.b false,
 V.lb
 [V.i IntKind.i64 n, V.i IntKind.i64 n_1, V.s s, V.i IntKind.i64 n_2,
 V.ts cs l c, V.i IntKind.i64 n_3, V.i IntKind.i64 n_4, V.s s_1, V.s s_2,
 V.ts cs_1 l_1 c_1, V.ts cs_2 l_2 c_2],
 v10z2, V.rf, V.ts cs0Instrs n0Instrs none,
 V.i IntKind.i64 (↑n0Instrs : Int), V.i IntKind.i64 x69, V.undef, V.undef,
 V.undef]
 h)
 (If (ltI (12 : Int) (↑l_2 : Int))
 (K Out.ret 156
 [V.lb
 [V.ts cs0Instrs n0Instrs none, V.ts cs0Watches n0Watches none,
 V.ts cs0Peers n0Peers none, V.i IntKind.i64 x0Latency,
 V.i IntKind.i64 x0Match],
 V.lb
 [V.i IntKind.i64 (0 : Int), V.ts [] 0 none, V.s s3_2z5,
 V.s s3_3z5, V.s s3_4z5, V.s s3_5z5, V.s s3_6z5, V.s s3_7z5,
 V.s s3_8z5, V.s s3_9z5, V.s s3_10z5, V.s s3_11z5,
 V.ts [] 0 none, V.i IntKind.i64 (0 : Int),
 V.i IntKind.i64 (0 : Int), V.i IntKind.i64 (0 : Int),
 V.i IntKind.i64 (0 : Int), V.i IntKind.i64 (0 : Int),
 V.ts [] 0 none, V.ts [] 0 none,
 V.ts [] 0 none],
 V.b false,
 V.lb
 [V.i IntKind.i64 n, V.i IntKind.i64 n_1, V.s s, V.i IntKind.i64 n_2,
 V.ts cs l c, V.i IntKind.i64 n_3, V.i IntKind.i64 n_4, V.s s_1,
 V.s s_2, V.ts cs_1 l_1 c_1, V.ts cs_2 l_2 c_2],
 v10z2, V.rf, V.ts cs0Instrs n0Instrs none,
 V.i IntKind.i64 (↑n0Instrs : Int), V.i IntKind.i64 x69, V.undef, V.undef,
 V.undef]
 h)
 (If (ltI (60 : Int) (↑s.length : Int))
 (K Out.ret 156
 [V.lb
 [V.ts cs0Instrs n0Instrs none, V.ts cs0Watches n0Watches none,
 V.ts cs0Peers n0Peers none, V.i IntKind.i64 x0Latency,
 V.i IntKind.i64 x0Match],
 V.lb
 [V.i IntKind.i64 (0 : Int), V.ts [] 0 none, V.s s3_2z5,
 V.s s3_3z5, V.s s3_4z5, V.s s3_5z5, V.s s3_6z5, V.s s3_7z5,
 V.s s3_8z5, V.s s3_9z5, V.s s3_10z5, V.s s3_11z5,
 V.ts [] 0 none, V.i IntKind.i64 (0 : Int),
 V.i IntKind.i64 (0 : Int), V.i IntKind.i64 (0 : Int),
 V.i IntKind.i64 (0 : Int), V.i IntKind.i64 (0 : Int),
 V.ts [] 0 none, V.ts [] 0 none,
 V.ts [] 0 none],
 V.b false,
 V.lb
 [V.i IntKind.i64 n, V.i IntKind.i64 n_1, V.s s, V.i IntKind.i64 n_2,
 V.ts cs l c, V.i IntKind.i64 n_3, V.i IntKind.i64 n_4, V.s s_1,
 V.s s_2, V.ts cs_1 l_1 c_1, V.ts cs_2 l_2 c_2],
 v10z2, V.rf, V.ts cs0Instrs n0Instrs none,
 V.i IntKind.i64 (↑n0Instrs : Int), V.i IntKind.i64 x69, V.undef,
 V.undef, V.undef]
 h)
 (If (ltI (2 : Int) (↑l_1 : Int))
 (K Out.ret 156
 [V.lb
 [V.ts cs0Instrs n0Instrs none, V.ts cs0Watches n0Watches none,
 V.ts cs0Peers n0Peers none, V.i IntKind.i64 x0Latency,
 V.i IntKind.i64 x0Match],
 V.lb
 [V.i IntKind.i64 (0 : Int), V.ts [] 0 none, V.s s3_2z5,
 V.s s3_3z5, V.s s3_4z5, V.s s3_5z5, V.s s3_6z5, V.s s3_7z5,
 V.s s3_8z5, V.s s3_9z5, V.s s3_10z5, V.s s3_11z5,
 V.ts [] 0 none, V.i IntKind.i64 (0 : Int),
 V.i IntKind.i64 (0 : Int), V.i IntKind.i64 (0 : Int),
 V.i IntKind.i64 (0 : Int), V.i IntKind.i64 (0 : Int),
 V.ts [] 0 none, V.ts [] 0 none,
 V.ts [] 0 none],
 V.b false,
 V.lb
 [V.i IntKind.i64 n, V.i IntKind.i64 n_1, V.s s, V.i IntKind.i64 n_2,
 V.ts cs l c, V.i IntKind.i64 n_3, V.i IntKind.i64 n_4, V.s s_1,
 V.s s_2, V.ts cs_1 l_1 c_1, V.ts cs_2 l_2 c_2],
 v10z2, V.rf, V.ts cs0Instrs n0Instrs none,
 V.i IntKind.i64 (↑n0Instrs : Int), V.i IntKind.i64 x69, V.undef,
 V.undef, V.undef]
 h)
 (K Out.normal 156
 [V.lb
 [V.ts cs0Instrs n0Instrs none, V.ts cs0Watches n0Watches none,
 V.ts cs0Peers n0Peers none, V.i IntKind.i64 x0Latency,
 V.i IntKind.i64 x0Match],
 V.lb
 [V.i IntKind.i64 (0 : Int), V.ts [] 0 none, V.s s3_2z5,
 V.s s3_3z5, V.s s3_4z5, V.s s3_5z5, V.s s3_6z5, V.s s3_7z5,
 V.s s3_8z5, V.s s3_9z5, V.s s3_10z5, V.s s3_11z5,
 V.ts [] 0 none, V.i IntKind.i64 (0 : Int),
 V.i IntKind.i64 (0 : Int), V.i IntKind.i64 (0 : Int),
 V.i IntKind.i64 (0 : Int), V.i IntKind.i64 (0 : Int),
 V.ts [] 0 none, V.ts [] 0 none,
 V.ts [] 0 none],
 V.b b4,
 V.lb
 [V.i IntKind.i64 n, V.i IntKind.i64 n_1, V.s s, V.i IntKind.i64 n_2,
 V.ts cs l c, V.i IntKind.i64 n_3, V.i IntKind.i64 n_4, V.s s_1,
 V.s s_2, V.ts cs_1 l_1 c_1, V.ts cs_2 l_2 c_2],
 v10z2, V.rf, V.ts cs0Instrs n0Instrs none,
 V.i IntKind.i64 (↑n0Instrs : Int), V.i IntKind.i64 x69,
 V.ts cs_1 l_1 c_1, V.i IntKind.i64 (↑l_1 : Int),
 V.i IntKind.i64 (0 : Int)]
 h))))) := by kernel_rfl
theorem f5_3 (cs0Instrs : List V) (n0Instrs : Nat) (cs0Watches : List V) (n0Watches : Nat) (cs0Peers : List V) (n0Peers : Nat) (x0Latency : Int) (x0Match : Int) (b4 : Bool) (v10z2 : V) (x69 : Int) (s3_2z6 : List UInt8) (s3_3z6 : List UInt8) (s3_4z6 : List UInt8) (s3_5z6 : List UInt8) (s3_6z6 : List UInt8) (s3_7z6 : List UInt8) (s3_8z6 : List UInt8) (s3_9z6 : List UInt8) (s3_10z6 : List UInt8) (s3_11z6 : List UInt8) (x6_0z2 : Int) (x6_1z2 : Int) (s6_2z3 : List UInt8) (x6_3z2 : Int) (c6_4z2 : Option Nat) (cs6_4z2 : List V) (n6_4z2 : Nat) (x6_5z2 : Int) (x6_6z2 : Int) (s6_7z3 : List UInt8) (s6_8z3 : List UInt8) (c6_9z2 : Option Nat) (cs6_9z2 : List V) (n6_9z2 : Nat) (c6_10z2 : Option Nat) (cs6_10z2 : List V) (n6_10z2 : Nat) (c98z2 : Option Nat) (cs98z2 : List V) (n98z2 : Nat) (x99z2 : Int) (x100z2 : Int) (h : Heap) (K : Out → Nat → List V → Heap → Prop) : (codeP Tryz.Y (Tryz.Y.loc 5) 100 ((flat (loopB (post (flat (blockB (post (flat (loopB (post (flat (bodyOf Tryz.f5)))))))))))) ⟨mk 156 (([2, 3, 4, 6, 10, 16, 67, 68, 69, 98, 99, 100] : List Nat).zip [V.lb [V.ts cs0Instrs n0Instrs none, V.ts cs0Watches n0Watches none, V.ts cs0Peers n0Peers none, V.i IntKind.i64 x0Latency, V.i IntKind.i64 x0Match], V.lb [V.i IntKind.i64 0, V.ts [] 0 none, V.s s3_2z6, V.s s3_3z6, V.s s3_4z6, V.s s3_5z6, V.s s3_6z6, V.s s3_7z6, V.s s3_8z6, V.s s3_9z6, V.s s3_10z6, V.s s3_11z6, V.ts [] 0 none, V.i IntKind.i64 0, V.i IntKind.i64 0, V.i IntKind.i64 0, V.i IntKind.i64 0, V.i IntKind.i64 0, V.ts [] 0 none, V.ts [] 0 none, V.ts [] 0 none], V.b b4, V.lb [V.i IntKind.i64 x6_0z2, V.i IntKind.i64 x6_1z2, V.s s6_2z3, V.i IntKind.i64 x6_3z2, V.ts cs6_4z2 n6_4z2 c6_4z2, V.i IntKind.i64 x6_5z2, V.i IntKind.i64 x6_6z2, V.s s6_7z3, V.s s6_8z3, V.ts cs6_9z2 n6_9z2 c6_9z2, V.ts cs6_10z2 n6_10z2 c6_10z2], v10z2, V.rf, V.ts cs0Instrs n0Instrs none, V.i IntKind.i64 (↑n0Instrs : Int), V.i IntKind.i64 x69, V.ts cs98z2 n98z2 c98z2, V.i IntKind.i64 x99z2, V.i IntKind.i64 x100z2]), [], h⟩ (VQ [2, 3, 4, 6, 10, 16, 67, 68, 69, 98, 99, 100] K)) =
  (If (ltI x100z2 x99z2)
  (((0 : Int) ≤ x100z2 ∧ x100z2 < (↑n98z2 : Int)) ∧
 ∃ (n : Int),
 ∃ (n_1 : Int),
 ∃ (s : List UInt8),
 ∃ (s_1 : List UInt8),
 ∃ (cs : List V),
 ∃ (l : Nat),
 ∃ (c : Option Nat),
 takeX 5 (List.drop (x100z2.toNat * (5 : Nat)) cs98z2) =
 some [V.i IntKind.i64 n, V.i IntKind.i64 n_1, V.s s, V.s s_1, V.ts cs l c] ∧
 If (ltI (0 : Int) (↑l : Int))
 (K Out.ret 156
 [V.lb
 [V.ts cs0Instrs n0Instrs none, V.ts cs0Watches n0Watches none, V.ts cs0Peers n0Peers none,
 V.i IntKind.i64 x0Latency, V.i IntKind.i64 x0Match],
 V.lb
 [V.i IntKind.i64 (0 : Int), V.ts [] 0 none, V.s s3_2z6, V.s s3_3z6, V.s s3_4z6,
 V.s s3_5z6, V.s s3_6z6, V.s s3_7z6, V.s s3_8z6, V.s s3_9z6, V.s s3_10z6, V.s s3_11z6,
 V.ts [] 0 none, V.i IntKind.i64 (0 : Int), V.i IntKind.i64 (0 : Int),
 V.i IntKind.i64 (0 : Int), V.i IntKind.i64 (0 : Int), V.i IntKind.i64 (0 : Int),
 V.ts [] 0 none, V.ts [] 0 none, V.ts [] 0 none],
 V.b false,
 V.lb
 [V.i IntKind.i64 x6_0z2, V.i IntKind.i64 x6_1z2, V.s s6_2z3, V.i IntKind.i64 x6_3z2,
 V.ts cs6_4z2 n6_4z2 c6_4z2, V.i IntKind.i64 x6_5z2, V.i IntKind.i64 x6_6z2, V.s s6_7z3,
 V.s s6_8z3, V.ts cs6_9z2 n6_9z2 c6_9z2, V.ts cs6_10z2 n6_10z2 c6_10z2],
 v10z2, V.rf, V.ts cs0Instrs n0Instrs none, V.i IntKind.i64 (↑n0Instrs : Int),
 V.i IntKind.i64 x69, V.ts cs98z2 n98z2 c98z2, V.i IntKind.i64 x99z2, V.i IntKind.i64 x100z2]
 h)
 (K Out.normal 156
 [V.lb
 [V.ts cs0Instrs n0Instrs none, V.ts cs0Watches n0Watches none, V.ts cs0Peers n0Peers none,
 V.i IntKind.i64 x0Latency, V.i IntKind.i64 x0Match],
 V.lb
 [V.i IntKind.i64 (0 : Int), V.ts [] 0 none, V.s s3_2z6, V.s s3_3z6, V.s s3_4z6,
 V.s s3_5z6, V.s s3_6z6, V.s s3_7z6, V.s s3_8z6, V.s s3_9z6, V.s s3_10z6, V.s s3_11z6,
 V.ts [] 0 none, V.i IntKind.i64 (0 : Int), V.i IntKind.i64 (0 : Int),
 V.i IntKind.i64 (0 : Int), V.i IntKind.i64 (0 : Int), V.i IntKind.i64 (0 : Int),
 V.ts [] 0 none, V.ts [] 0 none, V.ts [] 0 none],
 V.b b4,
 V.lb
 [V.i IntKind.i64 x6_0z2, V.i IntKind.i64 x6_1z2, V.s s6_2z3, V.i IntKind.i64 x6_3z2,
 V.ts cs6_4z2 n6_4z2 c6_4z2, V.i IntKind.i64 x6_5z2, V.i IntKind.i64 x6_6z2, V.s s6_7z3,
 V.s s6_8z3, V.ts cs6_9z2 n6_9z2 c6_9z2, V.ts cs6_10z2 n6_10z2 c6_10z2],
 v10z2, V.rf, V.ts cs0Instrs n0Instrs none, V.i IntKind.i64 (↑n0Instrs : Int),
 V.i IntKind.i64 x69, V.ts cs98z2 n98z2 c98z2, V.i IntKind.i64 x99z2,
 V.i IntKind.i64 (IntKind.i64.wrap (x100z2 + (1 : Int)))]
 h))
  (K (Out.exit 2) 156
 [V.lb
 [V.ts cs0Instrs n0Instrs none, V.ts cs0Watches n0Watches none, V.ts cs0Peers n0Peers none,
 V.i IntKind.i64 x0Latency, V.i IntKind.i64 x0Match],
 V.lb
 [V.i IntKind.i64 (0 : Int), V.ts [] 0 none, V.s s3_2z6, V.s s3_3z6, V.s s3_4z6, V.s s3_5z6,
 V.s s3_6z6, V.s s3_7z6, V.s s3_8z6, V.s s3_9z6, V.s s3_10z6, V.s s3_11z6, V.ts [] 0 none,
 V.i IntKind.i64 (0 : Int), V.i IntKind.i64 (0 : Int), V.i IntKind.i64 (0 : Int), V.i IntKind.i64 (0 : Int),
 V.i IntKind.i64 (0 : Int), V.ts [] 0 none, V.ts [] 0 none, V.ts [] 0 none],
 V.b b4,
 V.lb
 [V.i IntKind.i64 x6_0z2, V.i IntKind.i64 x6_1z2, V.s s6_2z3, V.i IntKind.i64 x6_3z2, V.ts cs6_4z2 n6_4z2 c6_4z2,
 V.i IntKind.i64 x6_5z2, V.i IntKind.i64 x6_6z2, V.s s6_7z3, V.s s6_8z3, V.ts cs6_9z2 n6_9z2 c6_9z2,
 V.ts cs6_10z2 n6_10z2 c6_10z2],
 v10z2, V.rf, V.ts cs0Instrs n0Instrs none, V.i IntKind.i64 (↑n0Instrs : Int), V.i IntKind.i64 x69,
 V.ts cs98z2 n98z2 c98z2, V.i IntKind.i64 x99z2, V.i IntKind.i64 x100z2]
 h)) := by kernel_rfl
theorem f5_4 (cs0Instrs : List V) (n0Instrs : Nat) (cs0Watches : List V) (n0Watches : Nat) (cs0Peers : List V) (n0Peers : Nat) (x0Latency : Int) (x0Match : Int) (b4 : Bool) (v10z2 : V) (x69 : Int) (x6_0z2 : Int) (x6_1z2 : Int) (x6_3z2 : Int) (c6_4z2 : Option Nat) (cs6_4z2 : List V) (n6_4z2 : Nat) (x6_5z2 : Int) (x6_6z2 : Int) (c6_9z2 : Option Nat) (cs6_9z2 : List V) (n6_9z2 : Nat) (c6_10z2 : Option Nat) (cs6_10z2 : List V) (n6_10z2 : Nat) (s3_2z7 : List UInt8) (s3_3z7 : List UInt8) (s3_4z7 : List UInt8) (s3_5z7 : List UInt8) (s3_6z7 : List UInt8) (s3_7z7 : List UInt8) (s3_8z7 : List UInt8) (s3_9z7 : List UInt8) (s3_10z7 : List UInt8) (s3_11z7 : List UInt8) (s6_2z4 : List UInt8) (s6_7z4 : List UInt8) (s6_8z4 : List UInt8) (h : Heap) (K : Out → Nat → List V → Heap → Prop) : (codeP Tryz.Y (Tryz.Y.loc 5) 100 (pre ((post (flat (blockB (post (flat (loopB (post (flat (bodyOf Tryz.f5))))))))).drop 1)) ⟨mk 156 (([2, 3, 4, 6, 10, 16, 67, 68, 69] : List Nat).zip [V.lb [V.ts cs0Instrs n0Instrs none, V.ts cs0Watches n0Watches none, V.ts cs0Peers n0Peers none, V.i IntKind.i64 x0Latency, V.i IntKind.i64 x0Match], V.lb [V.i IntKind.i64 0, V.ts [] 0 none, V.s s3_2z7, V.s s3_3z7, V.s s3_4z7, V.s s3_5z7, V.s s3_6z7, V.s s3_7z7, V.s s3_8z7, V.s s3_9z7, V.s s3_10z7, V.s s3_11z7, V.ts [] 0 none, V.i IntKind.i64 0, V.i IntKind.i64 0, V.i IntKind.i64 0, V.i IntKind.i64 0, V.i IntKind.i64 0, V.ts [] 0 none, V.ts [] 0 none, V.ts [] 0 none], V.b b4, V.lb [V.i IntKind.i64 x6_0z2, V.i IntKind.i64 x6_1z2, V.s s6_2z4, V.i IntKind.i64 x6_3z2, V.ts cs6_4z2 n6_4z2 c6_4z2, V.i IntKind.i64 x6_5z2, V.i IntKind.i64 x6_6z2, V.s s6_7z4, V.s s6_8z4, V.ts cs6_9z2 n6_9z2 c6_9z2, V.ts cs6_10z2 n6_10z2 c6_10z2], v10z2, V.rf, V.ts cs0Instrs n0Instrs none, V.i IntKind.i64 (↑n0Instrs : Int), V.i IntKind.i64 x69]), [], h⟩ (VQ [2, 3, 4, 10, 16, 67, 68, 69, 110, 111, 112] K)) =
  (K Out.normal 156
  [V.lb
 [V.ts cs0Instrs n0Instrs none, V.ts cs0Watches n0Watches none, V.ts cs0Peers n0Peers none,
 V.i IntKind.i64 x0Latency, V.i IntKind.i64 x0Match],
 V.lb
 [V.i IntKind.i64 (0 : Int), V.ts [] 0 none, V.s s3_2z7, V.s s3_3z7, V.s s3_4z7, V.s s3_5z7, V.s s3_6z7,
 V.s s3_7z7, V.s s3_8z7, V.s s3_9z7, V.s s3_10z7, V.s s3_11z7, V.ts [] 0 none,
 V.i IntKind.i64 (0 : Int), V.i IntKind.i64 (0 : Int), V.i IntKind.i64 (0 : Int), V.i IntKind.i64 (0 : Int),
 V.i IntKind.i64 (0 : Int), V.ts [] 0 none, V.ts [] 0 none, V.ts [] 0 none],
 V.b b4, v10z2, V.rf, V.ts cs0Instrs n0Instrs none, V.i IntKind.i64 (↑n0Instrs : Int), V.i IntKind.i64 x69,
 V.ts cs6_4z2 n6_4z2 c6_4z2, V.i IntKind.i64 (↑n6_4z2 : Int), V.i IntKind.i64 (0 : Int)]
  h) := by kernel_rfl
theorem f5_5 (cs0Instrs : List V) (n0Instrs : Nat) (cs0Watches : List V) (n0Watches : Nat) (cs0Peers : List V) (n0Peers : Nat) (x0Latency : Int) (x0Match : Int) (b4 : Bool) (v10z2 : V) (x69 : Int) (c6_4z2 : Option Nat) (cs6_4z2 : List V) (n6_4z2 : Nat) (s3_2z8 : List UInt8) (s3_3z8 : List UInt8) (s3_4z8 : List UInt8) (s3_5z8 : List UInt8) (s3_6z8 : List UInt8) (s3_7z8 : List UInt8) (s3_8z8 : List UInt8) (s3_9z8 : List UInt8) (s3_10z8 : List UInt8) (s3_11z8 : List UInt8) (x112z2 : Int) (h : Heap) (K : Out → Nat → List V → Heap → Prop) : (codeP Tryz.Y (Tryz.Y.loc 5) 100 ((flat (loopB (post ((post (flat (blockB (post (flat (loopB (post (flat (bodyOf Tryz.f5))))))))).drop 1))))) ⟨mk 156 (([2, 3, 4, 10, 16, 67, 68, 69, 110, 111, 112] : List Nat).zip [V.lb [V.ts cs0Instrs n0Instrs none, V.ts cs0Watches n0Watches none, V.ts cs0Peers n0Peers none, V.i IntKind.i64 x0Latency, V.i IntKind.i64 x0Match], V.lb [V.i IntKind.i64 0, V.ts [] 0 none, V.s s3_2z8, V.s s3_3z8, V.s s3_4z8, V.s s3_5z8, V.s s3_6z8, V.s s3_7z8, V.s s3_8z8, V.s s3_9z8, V.s s3_10z8, V.s s3_11z8, V.ts [] 0 none, V.i IntKind.i64 0, V.i IntKind.i64 0, V.i IntKind.i64 0, V.i IntKind.i64 0, V.i IntKind.i64 0, V.ts [] 0 none, V.ts [] 0 none, V.ts [] 0 none], V.b b4, v10z2, V.rf, V.ts cs0Instrs n0Instrs none, V.i IntKind.i64 (↑n0Instrs : Int), V.i IntKind.i64 x69, V.ts cs6_4z2 n6_4z2 c6_4z2, V.i IntKind.i64 (↑n6_4z2 : Int), V.i IntKind.i64 x112z2]), [], h⟩ (VQ [2, 3, 4, 10, 16, 67, 68, 69, 110, 111, 112] K)) =
  (If (ltI x112z2 (↑n6_4z2 : Int))
  (((0 : Int) ≤ x112z2 ∧ x112z2 < (↑n6_4z2 : Int)) ∧
 ∃ (s : List UInt8),
 ∃ (s_1 : List UInt8),
 takeX 2 (List.drop (x112z2.toNat * (2 : Nat)) cs6_4z2) = some [V.s s, V.s s_1] ∧
 If (ltI (60 : Int) (↑s.length : Int))
 (K Out.ret 156
 [V.lb
 [V.ts cs0Instrs n0Instrs none, V.ts cs0Watches n0Watches none, V.ts cs0Peers n0Peers none,
 V.i IntKind.i64 x0Latency, V.i IntKind.i64 x0Match],
 V.lb
 [V.i IntKind.i64 (0 : Int), V.ts [] 0 none, V.s s3_2z8, V.s s3_3z8, V.s s3_4z8, V.s s3_5z8,
 V.s s3_6z8, V.s s3_7z8, V.s s3_8z8, V.s s3_9z8, V.s s3_10z8, V.s s3_11z8, V.ts [] 0 none,
 V.i IntKind.i64 (0 : Int), V.i IntKind.i64 (0 : Int), V.i IntKind.i64 (0 : Int),
 V.i IntKind.i64 (0 : Int), V.i IntKind.i64 (0 : Int), V.ts [] 0 none,
 V.ts [] 0 none, V.ts [] 0 none],
 V.b false, V.lb [V.s s, V.s s_1], V.rf, V.ts cs0Instrs n0Instrs none, V.i IntKind.i64 (↑n0Instrs : Int),
 V.i IntKind.i64 x69, V.ts cs6_4z2 n6_4z2 c6_4z2, V.i IntKind.i64 (↑n6_4z2 : Int),
 V.i IntKind.i64 x112z2]
 h)
 (If (ltI (60 : Int) (↑s_1.length : Int))
 (K Out.ret 156
 [V.lb
 [V.ts cs0Instrs n0Instrs none, V.ts cs0Watches n0Watches none, V.ts cs0Peers n0Peers none,
 V.i IntKind.i64 x0Latency, V.i IntKind.i64 x0Match],
 V.lb
 [V.i IntKind.i64 (0 : Int), V.ts [] 0 none, V.s s3_2z8, V.s s3_3z8, V.s s3_4z8,
 V.s s3_5z8, V.s s3_6z8, V.s s3_7z8, V.s s3_8z8, V.s s3_9z8, V.s s3_10z8, V.s s3_11z8,
 V.ts [] 0 none, V.i IntKind.i64 (0 : Int), V.i IntKind.i64 (0 : Int),
 V.i IntKind.i64 (0 : Int), V.i IntKind.i64 (0 : Int), V.i IntKind.i64 (0 : Int),
 V.ts [] 0 none, V.ts [] 0 none, V.ts [] 0 none],
 V.b false, V.lb [V.s s, V.s s_1], V.rf, V.ts cs0Instrs n0Instrs none,
 V.i IntKind.i64 (↑n0Instrs : Int), V.i IntKind.i64 x69, V.ts cs6_4z2 n6_4z2 c6_4z2,
 V.i IntKind.i64 (↑n6_4z2 : Int), V.i IntKind.i64 x112z2]
 h)
 (K Out.normal 156
 [V.lb
 [V.ts cs0Instrs n0Instrs none, V.ts cs0Watches n0Watches none, V.ts cs0Peers n0Peers none,
 V.i IntKind.i64 x0Latency, V.i IntKind.i64 x0Match],
 V.lb
 [V.i IntKind.i64 (0 : Int), V.ts [] 0 none, V.s s3_2z8, V.s s3_3z8, V.s s3_4z8,
 V.s s3_5z8, V.s s3_6z8, V.s s3_7z8, V.s s3_8z8, V.s s3_9z8, V.s s3_10z8, V.s s3_11z8,
 V.ts [] 0 none, V.i IntKind.i64 (0 : Int), V.i IntKind.i64 (0 : Int),
 V.i IntKind.i64 (0 : Int), V.i IntKind.i64 (0 : Int), V.i IntKind.i64 (0 : Int),
 V.ts [] 0 none, V.ts [] 0 none, V.ts [] 0 none],
 V.b b4, V.lb [V.s s, V.s s_1], V.rf, V.ts cs0Instrs n0Instrs none, V.i IntKind.i64 (↑n0Instrs : Int),
 V.i IntKind.i64 x69, V.ts cs6_4z2 n6_4z2 c6_4z2, V.i IntKind.i64 (↑n6_4z2 : Int),
 V.i IntKind.i64 (IntKind.i64.wrap (x112z2 + (1 : Int)))]
 h)))
  (K (Out.exit 4) 156
 [V.lb
 [V.ts cs0Instrs n0Instrs none, V.ts cs0Watches n0Watches none, V.ts cs0Peers n0Peers none,
 V.i IntKind.i64 x0Latency, V.i IntKind.i64 x0Match],
 V.lb
 [V.i IntKind.i64 (0 : Int), V.ts [] 0 none, V.s s3_2z8, V.s s3_3z8, V.s s3_4z8, V.s s3_5z8,
 V.s s3_6z8, V.s s3_7z8, V.s s3_8z8, V.s s3_9z8, V.s s3_10z8, V.s s3_11z8, V.ts [] 0 none,
 V.i IntKind.i64 (0 : Int), V.i IntKind.i64 (0 : Int), V.i IntKind.i64 (0 : Int), V.i IntKind.i64 (0 : Int),
 V.i IntKind.i64 (0 : Int), V.ts [] 0 none, V.ts [] 0 none, V.ts [] 0 none],
 V.b b4, v10z2, V.rf, V.ts cs0Instrs n0Instrs none, V.i IntKind.i64 (↑n0Instrs : Int), V.i IntKind.i64 x69,
 V.ts cs6_4z2 n6_4z2 c6_4z2, V.i IntKind.i64 (↑n6_4z2 : Int), V.i IntKind.i64 x112z2]
 h)) := by kernel_rfl
theorem f5_6 (cs0Instrs : List V) (n0Instrs : Nat) (cs0Watches : List V) (n0Watches : Nat) (cs0Peers : List V) (n0Peers : Nat) (x0Latency : Int) (x0Match : Int) (b4 : Bool) (v10z2 : V) (x69 : Int) (s3_2z9 : List UInt8) (s3_3z9 : List UInt8) (s3_4z9 : List UInt8) (s3_5z9 : List UInt8) (s3_6z9 : List UInt8) (s3_7z9 : List UInt8) (s3_8z9 : List UInt8) (s3_9z9 : List UInt8) (s3_10z9 : List UInt8) (s3_11z9 : List UInt8) (h : Heap) (K : Out → Nat → List V → Heap → Prop) : (codeP Tryz.Y (Tryz.Y.loc 5) 100 (((post (flat (loopB (post (flat (bodyOf Tryz.f5)))))).drop 1)) ⟨mk 156 (([2, 3, 4, 10, 16, 67, 68, 69] : List Nat).zip [V.lb [V.ts cs0Instrs n0Instrs none, V.ts cs0Watches n0Watches none, V.ts cs0Peers n0Peers none, V.i IntKind.i64 x0Latency, V.i IntKind.i64 x0Match], V.lb [V.i IntKind.i64 0, V.ts [] 0 none, V.s s3_2z9, V.s s3_3z9, V.s s3_4z9, V.s s3_5z9, V.s s3_6z9, V.s s3_7z9, V.s s3_8z9, V.s s3_9z9, V.s s3_10z9, V.s s3_11z9, V.ts [] 0 none, V.i IntKind.i64 0, V.i IntKind.i64 0, V.i IntKind.i64 0, V.i IntKind.i64 0, V.i IntKind.i64 0, V.ts [] 0 none, V.ts [] 0 none, V.ts [] 0 none], V.b b4, v10z2, V.rf, V.ts cs0Instrs n0Instrs none, V.i IntKind.i64 (↑n0Instrs : Int), V.i IntKind.i64 x69]), [], h⟩ (VQ [2, 3, 4, 10, 16, 67, 68, 69] K)) =
  (K Out.normal 156
  [V.lb
 [V.ts cs0Instrs n0Instrs none, V.ts cs0Watches n0Watches none, V.ts cs0Peers n0Peers none,
 V.i IntKind.i64 x0Latency, V.i IntKind.i64 x0Match],
 V.lb
 [V.i IntKind.i64 (0 : Int), V.ts [] 0 none, V.s s3_2z9, V.s s3_3z9, V.s s3_4z9, V.s s3_5z9, V.s s3_6z9,
 V.s s3_7z9, V.s s3_8z9, V.s s3_9z9, V.s s3_10z9, V.s s3_11z9, V.ts [] 0 none,
 V.i IntKind.i64 (0 : Int), V.i IntKind.i64 (0 : Int), V.i IntKind.i64 (0 : Int), V.i IntKind.i64 (0 : Int),
 V.i IntKind.i64 (0 : Int), V.ts [] 0 none, V.ts [] 0 none, V.ts [] 0 none],
 V.b b4, v10z2, V.rf, V.ts cs0Instrs n0Instrs none, V.i IntKind.i64 (↑n0Instrs : Int),
 V.i IntKind.i64 (IntKind.i64.wrap (x69 + (1 : Int)))]
  h) := by kernel_rfl
theorem f5_7 (cs0Instrs : List V) (n0Instrs : Nat) (cs0Watches : List V) (n0Watches : Nat) (cs0Peers : List V) (n0Peers : Nat) (x0Latency : Int) (x0Match : Int) (s3_2z10 : List UInt8) (s3_3z10 : List UInt8) (s3_4z10 : List UInt8) (s3_5z10 : List UInt8) (s3_6z10 : List UInt8) (s3_7z10 : List UInt8) (s3_8z10 : List UInt8) (s3_9z10 : List UInt8) (s3_10z10 : List UInt8) (s3_11z10 : List UInt8) (h : Heap) (K : Out → Nat → List V → Heap → Prop) : (codeP Tryz.Y (Tryz.Y.loc 5) 100 (pre ((post (flat (bodyOf Tryz.f5))).drop 1)) ⟨mk 156 (([2, 3] : List Nat).zip [V.lb [V.ts cs0Instrs n0Instrs none, V.ts cs0Watches n0Watches none, V.ts cs0Peers n0Peers none, V.i IntKind.i64 x0Latency, V.i IntKind.i64 x0Match], V.lb [V.i IntKind.i64 0, V.ts [] 0 none, V.s s3_2z10, V.s s3_3z10, V.s s3_4z10, V.s s3_5z10, V.s s3_6z10, V.s s3_7z10, V.s s3_8z10, V.s s3_9z10, V.s s3_10z10, V.s s3_11z10, V.ts [] 0 none, V.i IntKind.i64 0, V.i IntKind.i64 0, V.i IntKind.i64 0, V.i IntKind.i64 0, V.i IntKind.i64 0, V.ts [] 0 none, V.ts [] 0 none, V.ts [] 0 none]]), [], h⟩ (VQ [3, 129, 130, 131] K)) =
  (K Out.normal 156
  [V.lb
 [V.i IntKind.i64 (0 : Int), V.ts [] 0 none, V.s s3_2z10, V.s s3_3z10, V.s s3_4z10, V.s s3_5z10,
 V.s s3_6z10, V.s s3_7z10, V.s s3_8z10, V.s s3_9z10, V.s s3_10z10, V.s s3_11z10, V.ts [] 0 none,
 V.i IntKind.i64 (0 : Int), V.i IntKind.i64 (0 : Int), V.i IntKind.i64 (0 : Int), V.i IntKind.i64 (0 : Int),
 V.i IntKind.i64 (0 : Int), V.ts [] 0 none, V.ts [] 0 none, V.ts [] 0 none],
 V.ts cs0Peers n0Peers none, V.i IntKind.i64 (↑n0Peers : Int), V.i IntKind.i64 (0 : Int)]
  h) := by kernel_rfl
theorem f5_8 (cs0Peers : List V) (n0Peers : Nat) (s3_2z11 : List UInt8) (s3_3z11 : List UInt8) (s3_4z11 : List UInt8) (s3_5z11 : List UInt8) (s3_6z11 : List UInt8) (s3_7z11 : List UInt8) (s3_8z11 : List UInt8) (s3_9z11 : List UInt8) (s3_10z11 : List UInt8) (s3_11z11 : List UInt8) (x131 : Int) (h : Heap) (K : Out → Nat → List V → Heap → Prop) : (codeP Tryz.Y (Tryz.Y.loc 5) 100 ((flat (loopB (post ((post (flat (bodyOf Tryz.f5))).drop 1))))) ⟨mk 156 (([3, 129, 130, 131] : List Nat).zip [V.lb [V.i IntKind.i64 0, V.ts [] 0 none, V.s s3_2z11, V.s s3_3z11, V.s s3_4z11, V.s s3_5z11, V.s s3_6z11, V.s s3_7z11, V.s s3_8z11, V.s s3_9z11, V.s s3_10z11, V.s s3_11z11, V.ts [] 0 none, V.i IntKind.i64 0, V.i IntKind.i64 0, V.i IntKind.i64 0, V.i IntKind.i64 0, V.i IntKind.i64 0, V.ts [] 0 none, V.ts [] 0 none, V.ts [] 0 none], V.ts cs0Peers n0Peers none, V.i IntKind.i64 (↑n0Peers : Int), V.i IntKind.i64 x131]), [], h⟩ (VQ [3, 4, 129, 130, 131] K)) =
  (If (ltI x131 (↑n0Peers : Int))
  (((0 : Int) ≤ x131 ∧ x131 < (↑n0Peers : Int)) ∧
 ∃ (n : Int),
 ∃ (cs : List V),
 ∃ (l : Nat),
 ∃ (c : Option Nat),
 takeX 2 (List.drop (x131.toNat * (2 : Nat)) cs0Peers) = some [V.i IntKind.i64 n, V.ts cs l c] ∧
 ∃ (b : Bool),
 (PCon Tryz.Y (16 : Nat) [V.agg [V.i IntKind.i64 n, V.ts cs l c]] fun (v : V) => v = V.b b) ∧
 If (!b)
 (K Out.ret 156
 [V.lb
 [V.i IntKind.i64 (0 : Int), V.ts [] 0 none, V.s s3_2z11, V.s s3_3z11, V.s s3_4z11,
 V.s s3_5z11, V.s s3_6z11, V.s s3_7z11, V.s s3_8z11, V.s s3_9z11, V.s s3_10z11, V.s s3_11z11,
 V.ts [] 0 none, V.i IntKind.i64 (0 : Int), V.i IntKind.i64 (0 : Int),
 V.i IntKind.i64 (0 : Int), V.i IntKind.i64 (0 : Int), V.i IntKind.i64 (0 : Int),
 V.ts [] 0 none, V.ts [] 0 none, V.ts [] 0 none],
 V.b false, V.ts cs0Peers n0Peers none, V.i IntKind.i64 (↑n0Peers : Int), V.i IntKind.i64 x131]
 h)
 (K Out.normal 156
 [V.lb
 [V.i IntKind.i64 (0 : Int), V.ts [] 0 none, V.s s3_2z11, V.s s3_3z11, V.s s3_4z11,
 V.s s3_5z11, V.s s3_6z11, V.s s3_7z11, V.s s3_8z11, V.s s3_9z11, V.s s3_10z11, V.s s3_11z11,
 V.ts [] 0 none, V.i IntKind.i64 (0 : Int), V.i IntKind.i64 (0 : Int),
 V.i IntKind.i64 (0 : Int), V.i IntKind.i64 (0 : Int), V.i IntKind.i64 (0 : Int),
 V.ts [] 0 none, V.ts [] 0 none, V.ts [] 0 none],
 V.undef, V.ts cs0Peers n0Peers none, V.i IntKind.i64 (↑n0Peers : Int),
 V.i IntKind.i64 (IntKind.i64.wrap (x131 + (1 : Int)))]
 h))
  (K (Out.exit 6) 156
 [V.lb
 [V.i IntKind.i64 (0 : Int), V.ts [] 0 none, V.s s3_2z11, V.s s3_3z11, V.s s3_4z11, V.s s3_5z11,
 V.s s3_6z11, V.s s3_7z11, V.s s3_8z11, V.s s3_9z11, V.s s3_10z11, V.s s3_11z11, V.ts [] 0 none,
 V.i IntKind.i64 (0 : Int), V.i IntKind.i64 (0 : Int), V.i IntKind.i64 (0 : Int), V.i IntKind.i64 (0 : Int),
 V.i IntKind.i64 (0 : Int), V.ts [] 0 none, V.ts [] 0 none, V.ts [] 0 none],
 V.undef, V.ts cs0Peers n0Peers none, V.i IntKind.i64 (↑n0Peers : Int), V.i IntKind.i64 x131]
 h)) := by kernel_rfl
theorem f5_9 (s3_2z12 : List UInt8) (s3_3z12 : List UInt8) (s3_4z12 : List UInt8) (s3_5z12 : List UInt8) (s3_6z12 : List UInt8) (s3_7z12 : List UInt8) (s3_8z12 : List UInt8) (s3_9z12 : List UInt8) (s3_10z12 : List UInt8) (s3_11z12 : List UInt8) (h : Heap) (K : Out → Nat → List V → Heap → Prop) : (codeP Tryz.Y (Tryz.Y.loc 5) 100 (pre ((post ((post (flat (bodyOf Tryz.f5))).drop 1)).drop 1)) ⟨mk 156 (([3] : List Nat).zip [V.lb [V.i IntKind.i64 0, V.ts [] 0 none, V.s s3_2z12, V.s s3_3z12, V.s s3_4z12, V.s s3_5z12, V.s s3_6z12, V.s s3_7z12, V.s s3_8z12, V.s s3_9z12, V.s s3_10z12, V.s s3_11z12, V.ts [] 0 none, V.i IntKind.i64 0, V.i IntKind.i64 0, V.i IntKind.i64 0, V.i IntKind.i64 0, V.i IntKind.i64 0, V.ts [] 0 none, V.ts [] 0 none, V.ts [] 0 none]]), [], h⟩ (VQ [3, 140, 141, 142] K)) =
  (K Out.normal 156
  [V.lb
 [V.i IntKind.i64 (0 : Int), V.ts [] 0 none, V.s s3_2z12, V.s s3_3z12, V.s s3_4z12, V.s s3_5z12,
 V.s s3_6z12, V.s s3_7z12, V.s s3_8z12, V.s s3_9z12, V.s s3_10z12, V.s s3_11z12, V.ts [] 0 none,
 V.i IntKind.i64 (0 : Int), V.i IntKind.i64 (0 : Int), V.i IntKind.i64 (0 : Int), V.i IntKind.i64 (0 : Int),
 V.i IntKind.i64 (0 : Int), V.ts [] 0 none, V.ts [] 0 none, V.ts [] 0 none],
 V.ts [] 0 none, V.i IntKind.i64 (↑(0 : Nat) : Int), V.i IntKind.i64 (0 : Int)]
  h) := by kernel_rfl
theorem f5_10 (s3_2z13 : List UInt8) (s3_3z13 : List UInt8) (s3_4z13 : List UInt8) (s3_5z13 : List UInt8) (s3_6z13 : List UInt8) (s3_7z13 : List UInt8) (s3_8z13 : List UInt8) (s3_9z13 : List UInt8) (s3_10z13 : List UInt8) (s3_11z13 : List UInt8) (h : Heap) (K : Out → Nat → List V → Heap → Prop) : (codeP Tryz.Y (Tryz.Y.loc 5) 100 ((flat (loopB (post ((post ((post (flat (bodyOf Tryz.f5))).drop 1)).drop 1))))) ⟨mk 156 (([3, 140, 141, 142] : List Nat).zip [V.lb [V.i IntKind.i64 0, V.ts [] 0 none, V.s s3_2z13, V.s s3_3z13, V.s s3_4z13, V.s s3_5z13, V.s s3_6z13, V.s s3_7z13, V.s s3_8z13, V.s s3_9z13, V.s s3_10z13, V.s s3_11z13, V.ts [] 0 none, V.i IntKind.i64 0, V.i IntKind.i64 0, V.i IntKind.i64 0, V.i IntKind.i64 0, V.i IntKind.i64 0, V.ts [] 0 none, V.ts [] 0 none, V.ts [] 0 none], V.ts [] 0 none, V.i IntKind.i64 (↑0 : Int), V.i IntKind.i64 0]), [], h⟩ (VQ [3, 4, 140, 141, 142] K)) =
  (K (Out.exit 8) 156
  [V.lb
 [V.i IntKind.i64 (0 : Int), V.ts [] 0 none, V.s s3_2z13, V.s s3_3z13, V.s s3_4z13, V.s s3_5z13,
 V.s s3_6z13, V.s s3_7z13, V.s s3_8z13, V.s s3_9z13, V.s s3_10z13, V.s s3_11z13, V.ts [] 0 none,
 V.i IntKind.i64 (0 : Int), V.i IntKind.i64 (0 : Int), V.i IntKind.i64 (0 : Int), V.i IntKind.i64 (0 : Int),
 V.i IntKind.i64 (0 : Int), V.ts [] 0 none, V.ts [] 0 none, V.ts [] 0 none],
 V.undef, V.ts [] 0 none, V.i IntKind.i64 (0 : Int), V.i IntKind.i64 (0 : Int)]
  h) := by kernel_rfl
theorem f5_11  (h : Heap) (K : Out → Nat → List V → Heap → Prop) : (codeP Tryz.Y (Tryz.Y.loc 5) 100 (((post ((post ((post (flat (bodyOf Tryz.f5))).drop 1)).drop 1)).drop 1)) ⟨mk 156 (([] : List Nat).zip []), [], h⟩ (VQ [4] K)) =
  (K Out.ret 156 [V.b true] h) := by kernel_rfl
theorem f3_0 (cs0CodeInstrs : List V) (n0CodeInstrs : Nat) (cs0CodeWatches : List V) (n0CodeWatches : Nat) (cs0Peers : List V) (n0Peers : Nat) (x0Latency : Int) (x0Match : Int) (x1 : Int) (h : Heap) (K : Out → Nat → List V → Heap → Prop) : (codeP Tryz.Y (Tryz.Y.loc 3) 100 ((flat (bodyOf Tryz.f3))) ⟨(V.agg [V.ts cs0CodeInstrs n0CodeInstrs none, V.ts cs0CodeWatches n0CodeWatches none, V.ts cs0Peers n0Peers none, V.i IntKind.i64 x0Latency, V.i IntKind.i64 x0Match] :: V.i IntKind.i64 x1 :: List.replicate 47 .undef), [], h⟩ (VQ [4] K)) =
  (∃ (b : Bool),
  (PCon Tryz.Y (4 : Nat) [] fun (v : V) => v = V.b b) ∧
 If (!b) (K Out.ret 49 [V.b false] h)
 (∃ (b : Bool),
 (PCon Tryz.Y (5 : Nat)
 [V.agg
 [V.ts cs0CodeInstrs n0CodeInstrs none, V.ts cs0CodeWatches n0CodeWatches none,
 V.ts cs0Peers n0Peers none, V.i IntKind.i64 x0Latency, V.i IntKind.i64 x0Match],
 V.agg
 [V.i IntKind.i64 (0 : Int), V.sl none 0 (some 0) 0, V.s [], V.s [],
 V.s [], V.s [], V.s [], V.s [], V.s [], V.s [], V.s [], V.s [],
 V.sl none 0 (some 0) 0, V.i IntKind.i64 (0 : Int),
 V.i IntKind.i64 (0 : Int), V.i IntKind.i64 (0 : Int), V.i IntKind.i64 (0 : Int),
 V.i IntKind.i64 (0 : Int), V.sl none 0 (some 0) 0,
 V.sl none 0 (some 0) 0,
 V.sl none 0 (some 0) 0]]
 fun (v : V) => v = V.b b) ∧
 If (!b) (K Out.ret 49 [V.b true] h)
 (∃ (n : Int),
 (PCon Tryz.Y (6 : Nat)
 [V.agg
 [V.ts cs0CodeInstrs n0CodeInstrs none, V.ts cs0CodeWatches n0CodeWatches none,
 V.ts cs0Peers n0Peers none, V.i IntKind.i64 x0Latency, V.i IntKind.i64 x0Match]]
 fun (v : V) => v = V.i IntKind.i64 n) ∧
 If (ltI (0 : Int) n)
 (∃ (n_1 : Int),
 (PCon Tryz.Y (7 : Nat)
 [V.agg
 [V.ts cs0CodeInstrs n0CodeInstrs none, V.ts cs0CodeWatches n0CodeWatches none,
 V.ts cs0Peers n0Peers none, V.i IntKind.i64 x0Latency, V.i IntKind.i64 x0Match]]
 fun (v : V) => v = V.i IntKind.i64 n_1) ∧
 ∃ (n_2 : Int),
 (PCon Tryz.Y (8 : Nat)
 [V.agg
 [V.ts cs0CodeInstrs n0CodeInstrs none, V.ts cs0CodeWatches n0CodeWatches none,
 V.ts cs0Peers n0Peers none, V.i IntKind.i64 x0Latency, V.i IntKind.i64 x0Match]]
 fun (v : V) => v = V.i IntKind.i64 n_2) ∧
 If (n_1 == n_2)
 (∃ (n_3 : Int),
 (PCon Tryz.Y (9 : Nat)
 [V.agg
 [V.ts cs0CodeInstrs n0CodeInstrs none, V.ts cs0CodeWatches n0CodeWatches none,
 V.ts cs0Peers n0Peers none, V.i IntKind.i64 x0Latency, V.i IntKind.i64 x0Match]]
 fun (v : V) => v = V.i IntKind.i64 n_3) ∧
 ∃ (n_4 : Int),
 (PCon Tryz.Y (6 : Nat)
 [V.agg
 [V.ts cs0CodeInstrs n0CodeInstrs none, V.ts cs0CodeWatches n0CodeWatches none,
 V.ts cs0Peers n0Peers none, V.i IntKind.i64 x0Latency,
 V.i IntKind.i64 x0Match]]
 fun (v : V) => v = V.i IntKind.i64 n_4) ∧
 If (n_3 == n_4)
 (∃ (n_5 : Int),
 (PCon Tryz.Y (10 : Nat)
 [V.agg
 [V.ts cs0CodeInstrs n0CodeInstrs none,
 V.ts cs0CodeWatches n0CodeWatches none, V.ts cs0Peers n0Peers none,
 V.i IntKind.i64 x0Latency, V.i IntKind.i64 x0Match]]
 fun (v : V) => v = V.i IntKind.i64 n_5) ∧
 If (n_5 == IntKind.i64.wrap ((8 : Int) * IntKind.i64.wrap (n + (1 : Int))))
 (∃ (n : Int),
 (PCon Tryz.Y (11 : Nat)
 [V.agg
 [V.ts cs0CodeInstrs n0CodeInstrs none,
 V.ts cs0CodeWatches n0CodeWatches none],
 V.i IntKind.i64 x1]
 fun (v : V) => v = V.i IntKind.i64 n) ∧
 ∃ (n_6 : Int),
 (PCon Tryz.Y (12 : Nat)
 [V.agg
 [V.ts cs0CodeInstrs n0CodeInstrs none,
 V.ts cs0CodeWatches n0CodeWatches none],
 V.i IntKind.i64 x1]
 fun (v : V) => v = V.i IntKind.i64 n_6) ∧
 K Out.ret 49 [V.b (n == n_6)] h)
 (K Out.ret 49 [V.b false] h))
 (K Out.ret 49 [V.b false] h))
 (K Out.ret 49 [V.b false] h))
 (∃ (n : Int),
 (PCon Tryz.Y (7 : Nat)
 [V.agg
 [V.ts cs0CodeInstrs n0CodeInstrs none, V.ts cs0CodeWatches n0CodeWatches none,
 V.ts cs0Peers n0Peers none, V.i IntKind.i64 x0Latency, V.i IntKind.i64 x0Match]]
 fun (v : V) => v = V.i IntKind.i64 n) ∧
 ∃ (n_1 : Int),
 (PCon Tryz.Y (8 : Nat)
 [V.agg
 [V.ts cs0CodeInstrs n0CodeInstrs none, V.ts cs0CodeWatches n0CodeWatches none,
 V.ts cs0Peers n0Peers none, V.i IntKind.i64 x0Latency, V.i IntKind.i64 x0Match]]
 fun (v : V) => v = V.i IntKind.i64 n_1) ∧
 If (n == n_1)
 (∃ (n : Int),
 (PCon Tryz.Y (9 : Nat)
 [V.agg
 [V.ts cs0CodeInstrs n0CodeInstrs none, V.ts cs0CodeWatches n0CodeWatches none,
 V.ts cs0Peers n0Peers none, V.i IntKind.i64 x0Latency, V.i IntKind.i64 x0Match]]
 fun (v : V) => v = V.i IntKind.i64 n) ∧
 ∃ (n_2 : Int),
 (PCon Tryz.Y (6 : Nat)
 [V.agg
 [V.ts cs0CodeInstrs n0CodeInstrs none, V.ts cs0CodeWatches n0CodeWatches none,
 V.ts cs0Peers n0Peers none, V.i IntKind.i64 x0Latency,
 V.i IntKind.i64 x0Match]]
 fun (v : V) => v = V.i IntKind.i64 n_2) ∧
 If (n == n_2)
 (∃ (n : Int),
 (PCon Tryz.Y (10 : Nat)
 [V.agg
 [V.ts cs0CodeInstrs n0CodeInstrs none,
 V.ts cs0CodeWatches n0CodeWatches none, V.ts cs0Peers n0Peers none,
 V.i IntKind.i64 x0Latency, V.i IntKind.i64 x0Match]]
 fun (v : V) => v = V.i IntKind.i64 n) ∧
 If (n == (0 : Int))
 (∃ (n : Int),
 (PCon Tryz.Y (11 : Nat)
 [V.agg
 [V.ts cs0CodeInstrs n0CodeInstrs none,
 V.ts cs0CodeWatches n0CodeWatches none],
 V.i IntKind.i64 x1]
 fun (v : V) => v = V.i IntKind.i64 n) ∧
 ∃ (n_3 : Int),
 (PCon Tryz.Y (12 : Nat)
 [V.agg
 [V.ts cs0CodeInstrs n0CodeInstrs none,
 V.ts cs0CodeWatches n0CodeWatches none],
 V.i IntKind.i64 x1]
 fun (v : V) => v = V.i IntKind.i64 n_3) ∧
 K Out.ret 49 [V.b (n == n_3)] h)
 (K Out.ret 49 [V.b false] h))
 (K Out.ret 49 [V.b false] h))
 (K Out.ret 49 [V.b false] h))))) := by kernel_rfl
end Go.Y
