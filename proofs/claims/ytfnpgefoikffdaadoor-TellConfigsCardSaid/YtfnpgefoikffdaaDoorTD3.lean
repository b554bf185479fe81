/- What the pieces of functions come to: printed by program. -/
import Derived.Test.YtfnpgefoikffdaaDoorYTrydP
import Derived.Test.YtfnpgefoikffdaaDoorYFun
namespace Go.Y
open Go.Proofs
set_option maxRecDepth 100000
set_option maxHeartbeats 0
theorem f8_0 (cs0CodeInstrs : List V) (n0CodeInstrs : Nat) (cs0CodeWatches : List V) (n0CodeWatches : Nat) (cs0Peers : List V) (n0Peers : Nat) (x0Latency : Int) (x0Match : Int) (x1PC : Int) (cs1Vars : List V) (n1Vars : Nat) (s1Cuts_0 : List UInt8) (s1Cuts_1 : List UInt8) (s1Cuts_2 : List UInt8) (s1Cuts_3 : List UInt8) (s1Cuts_4 : List UInt8) (s1Cuts_5 : List UInt8) (s1Cuts_6 : List UInt8) (s1Cuts_7 : List UInt8) (s1Cuts_8 : List UInt8) (s1Cuts_9 : List UInt8) (cs1Stack : List V) (n1Stack : Nat) (x1Mode : Int) (x1Err : Int) (x1Use : Int) (x1Timeout : Int) (x1Elapsed : Int) (cs1Before : List V) (n1Before : Nat) (cs1After : List V) (n1After : Nat) (cs1Sides : List V) (n1Sides : Nat) (h : Heap) (K : Out → Nat → List V → Heap → Prop) : (codeP Tryd.Y (Tryd.Y.loc 8) 100 (pre (flat (bodyOf Tryd.f8))) ⟨(V.agg [V.ts cs0CodeInstrs n0CodeInstrs none, V.ts cs0CodeWatches n0CodeWatches none, V.ts cs0Peers n0Peers none, V.i IntKind.i64 x0Latency, V.i IntKind.i64 x0Match] :: V.agg [V.i IntKind.i64 x1PC, V.ts cs1Vars n1Vars none, V.s s1Cuts_0, V.s s1Cuts_1, V.s s1Cuts_2, V.s s1Cuts_3, V.s s1Cuts_4, V.s s1Cuts_5, V.s s1Cuts_6, V.s s1Cuts_7, V.s s1Cuts_8, V.s s1Cuts_9, V.ts cs1Stack n1Stack none, V.i IntKind.i64 x1Mode, V.i IntKind.i64 x1Err, V.i IntKind.i64 x1Use, V.i IntKind.i64 x1Timeout, V.i IntKind.i64 x1Elapsed, V.ts cs1Before n1Before none, V.ts cs1After n1After none, V.ts cs1Sides n1Sides none] :: List.replicate 154 .undef), [], h⟩ (VQ [2, 3, 4, 10, 16, 67, 68, 69] K)) =
  (If (ltI (40 : Int) (↑n0CodeInstrs : Int))
  (K Out.ret 156
 [V.lb
 [V.ts cs0CodeInstrs n0CodeInstrs none, V.ts cs0CodeWatches n0CodeWatches none, V.ts cs0Peers n0Peers none,
 V.i IntKind.i64 x0Latency, V.i IntKind.i64 x0Match],
 V.lb
 [V.i IntKind.i64 x1PC, V.ts cs1Vars n1Vars none, V.s s1Cuts_0, V.s s1Cuts_1, V.s s1Cuts_2, V.s s1Cuts_3,
 V.s s1Cuts_4, V.s s1Cuts_5, V.s s1Cuts_6, V.s s1Cuts_7, V.s s1Cuts_8, V.s s1Cuts_9,
 V.ts cs1Stack n1Stack none, V.i IntKind.i64 x1Mode, V.i IntKind.i64 x1Err, V.i IntKind.i64 x1Use,
 V.i IntKind.i64 x1Timeout, V.i IntKind.i64 x1Elapsed, V.ts cs1Before n1Before none,
 V.ts cs1After n1After none, V.ts cs1Sides n1Sides none],
 V.b false, V.undef, V.rf, V.undef, V.undef, V.undef]
 h)
  (If (ltI (9 : Int) (↑n0Peers : Int))
 (K Out.ret 156
 [V.lb
 [V.ts cs0CodeInstrs n0CodeInstrs none, V.ts cs0CodeWatches n0CodeWatches none, V.ts cs0Peers n0Peers none,
 V.i IntKind.i64 x0Latency, V.i IntKind.i64 x0Match],
 V.lb
 [V.i IntKind.i64 x1PC, V.ts cs1Vars n1Vars none, V.s s1Cuts_0, V.s s1Cuts_1, V.s s1Cuts_2, V.s s1Cuts_3,
 V.s s1Cuts_4, V.s s1Cuts_5, V.s s1Cuts_6, V.s s1Cuts_7, V.s s1Cuts_8, V.s s1Cuts_9,
 V.ts cs1Stack n1Stack none, V.i IntKind.i64 x1Mode, V.i IntKind.i64 x1Err, V.i IntKind.i64 x1Use,
 V.i IntKind.i64 x1Timeout, V.i IntKind.i64 x1Elapsed, V.ts cs1Before n1Before none,
 V.ts cs1After n1After none, V.ts cs1Sides n1Sides none],
 V.b false, V.undef, V.rf, V.undef, V.undef, V.undef]
 h)
 (∃ (b : Bool),
 (PCon Tryd.Y (22 : Nat)
 [V.agg [V.ts cs0CodeInstrs n0CodeInstrs none, V.ts cs0CodeWatches n0CodeWatches none],
 V.sl none 0 (some 0) 0]
 fun (v : V) => v = V.b b) ∧
 If (!b)
 (K Out.ret 156
 [V.lb
 [V.ts cs0CodeInstrs n0CodeInstrs none, V.ts cs0CodeWatches n0CodeWatches none,
 V.ts cs0Peers n0Peers none, V.i IntKind.i64 x0Latency, V.i IntKind.i64 x0Match],
 V.lb
 [V.i IntKind.i64 x1PC, V.ts cs1Vars n1Vars none, V.s s1Cuts_0, V.s s1Cuts_1, V.s s1Cuts_2, V.s s1Cuts_3,
 V.s s1Cuts_4, V.s s1Cuts_5, V.s s1Cuts_6, V.s s1Cuts_7, V.s s1Cuts_8, V.s s1Cuts_9,
 V.ts cs1Stack n1Stack none, V.i IntKind.i64 x1Mode, V.i IntKind.i64 x1Err, V.i IntKind.i64 x1Use,
 V.i IntKind.i64 x1Timeout, V.i IntKind.i64 x1Elapsed, V.ts cs1Before n1Before none,
 V.ts cs1After n1After none, V.ts cs1Sides n1Sides none],
 V.b false, V.undef, V.rf, V.undef, V.undef, V.undef]
 h)
 (∃ (b : Bool),
 (PCon Tryd.Y (23 : Nat) [V.ts cs1Vars n1Vars none] fun (v : V) => v = V.b b) ∧
 If (!b)
 (K Out.ret 156
 [V.lb
 [V.ts cs0CodeInstrs n0CodeInstrs none, V.ts cs0CodeWatches n0CodeWatches none,
 V.ts cs0Peers n0Peers none, V.i IntKind.i64 x0Latency, V.i IntKind.i64 x0Match],
 V.lb
 [V.i IntKind.i64 x1PC, V.ts cs1Vars n1Vars none, V.s s1Cuts_0, V.s s1Cuts_1, V.s s1Cuts_2,
 V.s s1Cuts_3, V.s s1Cuts_4, V.s s1Cuts_5, V.s s1Cuts_6, V.s s1Cuts_7, V.s s1Cuts_8,
 V.s s1Cuts_9, V.ts cs1Stack n1Stack none, V.i IntKind.i64 x1Mode, V.i IntKind.i64 x1Err,
 V.i IntKind.i64 x1Use, V.i IntKind.i64 x1Timeout, V.i IntKind.i64 x1Elapsed,
 V.ts cs1Before n1Before none, V.ts cs1After n1After none, V.ts cs1Sides n1Sides none],
 V.b false, V.undef, V.rf, V.undef, V.undef, V.undef]
 h)
 (If (ltI (9 : Int) (↑n1Sides : Int))
 (K Out.ret 156
 [V.lb
 [V.ts cs0CodeInstrs n0CodeInstrs none, V.ts cs0CodeWatches n0CodeWatches none,
 V.ts cs0Peers n0Peers none, V.i IntKind.i64 x0Latency, V.i IntKind.i64 x0Match],
 V.lb
 [V.i IntKind.i64 x1PC, V.ts cs1Vars n1Vars none, V.s s1Cuts_0, V.s s1Cuts_1, V.s s1Cuts_2,
 V.s s1Cuts_3, V.s s1Cuts_4, V.s s1Cuts_5, V.s s1Cuts_6, V.s s1Cuts_7, V.s s1Cuts_8,
 V.s s1Cuts_9, V.ts cs1Stack n1Stack none, V.i IntKind.i64 x1Mode, V.i IntKind.i64 x1Err,
 V.i IntKind.i64 x1Use, V.i IntKind.i64 x1Timeout, V.i IntKind.i64 x1Elapsed,
 V.ts cs1Before n1Before none, V.ts cs1After n1After none, V.ts cs1Sides n1Sides none],
 V.b false, V.undef, V.rf, V.undef, V.undef, V.undef]
 h)
 (If (ltI (9 : Int) (↑n1Stack : Int))
 (K Out.ret 156
 [V.lb
 [V.ts cs0CodeInstrs n0CodeInstrs none, V.ts cs0CodeWatches n0CodeWatches none,
 V.ts cs0Peers n0Peers none, V.i IntKind.i64 x0Latency, V.i IntKind.i64 x0Match],
 V.lb
 [V.i IntKind.i64 x1PC, V.ts cs1Vars n1Vars none, V.s s1Cuts_0, V.s s1Cuts_1, V.s s1Cuts_2,
 V.s s1Cuts_3, V.s s1Cuts_4, V.s s1Cuts_5, V.s s1Cuts_6, V.s s1Cuts_7, V.s s1Cuts_8,
 V.s s1Cuts_9, V.ts cs1Stack n1Stack none, V.i IntKind.i64 x1Mode, V.i IntKind.i64 x1Err,
 V.i IntKind.i64 x1Use, V.i IntKind.i64 x1Timeout, V.i IntKind.i64 x1Elapsed,
 V.ts cs1Before n1Before none, V.ts cs1After n1After none, V.ts cs1Sides n1Sides none],
 V.b false, V.undef, V.rf, V.undef, V.undef, V.undef]
 h)
 (If (ltI (20 : Int) (IntKind.i64.wrap ((↑n1Before : Int) + (↑n1After : Int))))
 (K Out.ret 156
 [V.lb
 [V.ts cs0CodeInstrs n0CodeInstrs none, V.ts cs0CodeWatches n0CodeWatches none,
 V.ts cs0Peers n0Peers none, V.i IntKind.i64 x0Latency, V.i IntKind.i64 x0Match],
 V.lb
 [V.i IntKind.i64 x1PC, V.ts cs1Vars n1Vars none, V.s s1Cuts_0, V.s s1Cuts_1, V.s s1Cuts_2,
 V.s s1Cuts_3, V.s s1Cuts_4, V.s s1Cuts_5, V.s s1Cuts_6, V.s s1Cuts_7, V.s s1Cuts_8,
 V.s s1Cuts_9, V.ts cs1Stack n1Stack none, V.i IntKind.i64 x1Mode, V.i IntKind.i64 x1Err,
 V.i IntKind.i64 x1Use, V.i IntKind.i64 x1Timeout, V.i IntKind.i64 x1Elapsed,
 V.ts cs1Before n1Before none, V.ts cs1After n1After none, V.ts cs1Sides n1Sides none],
 V.b false, V.undef, V.rf, V.undef, V.undef, V.undef]
 h)
 (If (ltI (1152921504606846976 : Int) x1Elapsed)
 (K Out.ret 156
 [V.lb
 [V.ts cs0CodeInstrs n0CodeInstrs none, V.ts cs0CodeWatches n0CodeWatches none,
 V.ts cs0Peers n0Peers none, V.i IntKind.i64 x0Latency, V.i IntKind.i64 x0Match],
 V.lb
 [V.i IntKind.i64 x1PC, V.ts cs1Vars n1Vars none, V.s s1Cuts_0, V.s s1Cuts_1, V.s s1Cuts_2,
 V.s s1Cuts_3, V.s s1Cuts_4, V.s s1Cuts_5, V.s s1Cuts_6, V.s s1Cuts_7, V.s s1Cuts_8,
 V.s s1Cuts_9, V.ts cs1Stack n1Stack none, V.i IntKind.i64 x1Mode, V.i IntKind.i64 x1Err,
 V.i IntKind.i64 x1Use, V.i IntKind.i64 x1Timeout, V.i IntKind.i64 x1Elapsed,
 V.ts cs1Before n1Before none, V.ts cs1After n1After none, V.ts cs1Sides n1Sides none],
 V.b false, V.undef, V.rf, V.undef, V.undef, V.undef]
 h)
 (K Out.normal 156
 [V.lb
 [V.ts cs0CodeInstrs n0CodeInstrs none, V.ts cs0CodeWatches n0CodeWatches none,
 V.ts cs0Peers n0Peers none, V.i IntKind.i64 x0Latency, V.i IntKind.i64 x0Match],
 V.lb
 [V.i IntKind.i64 x1PC, V.ts cs1Vars n1Vars none, V.s s1Cuts_0, V.s s1Cuts_1, V.s s1Cuts_2,
 V.s s1Cuts_3, V.s s1Cuts_4, V.s s1Cuts_5, V.s s1Cuts_6, V.s s1Cuts_7, V.s s1Cuts_8,
 V.s s1Cuts_9, V.ts cs1Stack n1Stack none, V.i IntKind.i64 x1Mode, V.i IntKind.i64 x1Err,
 V.i IntKind.i64 x1Use, V.i IntKind.i64 x1Timeout, V.i IntKind.i64 x1Elapsed,
 V.ts cs1Before n1Before none, V.ts cs1After n1After none, V.ts cs1Sides n1Sides none],
 V.b false, V.undef, V.rf, V.ts cs0CodeInstrs n0CodeInstrs none,
 V.i IntKind.i64 (↑n0CodeInstrs : Int), V.i IntKind.i64 (0 : Int)]
 h))))))))) := by kernel_rfl
theorem f8_1 (cs0CodeInstrs : List V) (n0CodeInstrs : Nat) (cs0CodeWatches : List V) (n0CodeWatches : Nat) (cs0Peers : List V) (n0Peers : Nat) (x0Latency : Int) (x0Match : Int) (x1PC : Int) (cs1Vars : List V) (n1Vars : Nat) (s1Cuts_0 : List UInt8) (s1Cuts_1 : List UInt8) (s1Cuts_2 : List UInt8) (s1Cuts_3 : List UInt8) (s1Cuts_4 : List UInt8) (s1Cuts_5 : List UInt8) (s1Cuts_6 : List UInt8) (s1Cuts_7 : List UInt8) (s1Cuts_8 : List UInt8) (s1Cuts_9 : List UInt8) (cs1Stack : List V) (n1Stack : Nat) (x1Mode : Int) (x1Err : Int) (x1Use : Int) (x1Timeout : Int) (x1Elapsed : Int) (cs1Before : List V) (n1Before : Nat) (cs1After : List V) (n1After : Nat) (cs1Sides : List V) (n1Sides : Nat) (b4 : Bool) (v10z2 : V) (x69 : Int) (h : Heap) (K : Out → Nat → List V → Heap → Prop) : (codeP Tryd.Y (Tryd.Y.loc 8) 100 (pre (flat (loopB (post (flat (bodyOf Tryd.f8)))))) ⟨mk 156 (([2, 3, 4, 10, 16, 67, 68, 69] : List Nat).zip [V.lb [V.ts cs0CodeInstrs n0CodeInstrs none, V.ts cs0CodeWatches n0CodeWatches none, V.ts cs0Peers n0Peers none, V.i IntKind.i64 x0Latency, V.i IntKind.i64 x0Match], V.lb [V.i IntKind.i64 x1PC, V.ts cs1Vars n1Vars none, V.s s1Cuts_0, V.s s1Cuts_1, V.s s1Cuts_2, V.s s1Cuts_3, V.s s1Cuts_4, V.s s1Cuts_5, V.s s1Cuts_6, V.s s1Cuts_7, V.s s1Cuts_8, V.s s1Cuts_9, V.ts cs1Stack n1Stack none, V.i IntKind.i64 x1Mode, V.i IntKind.i64 x1Err, V.i IntKind.i64 x1Use, V.i IntKind.i64 x1Timeout, V.i IntKind.i64 x1Elapsed, V.ts cs1Before n1Before none, V.ts cs1After n1After none, V.ts cs1Sides n1Sides none], V.b b4, v10z2, V.rf, V.ts cs0CodeInstrs n0CodeInstrs none, V.i IntKind.i64 (↑n0CodeInstrs : Int), V.i IntKind.i64 x69]), [], h⟩ (VQ [2, 3, 4, 10, 16, 67, 68, 69] K)) =
  (If (ltI x69 (↑n0CodeInstrs : Int))
  (K Out.normal 156
 [V.lb
 [V.ts cs0CodeInstrs n0CodeInstrs none, V.ts cs0CodeWatches n0CodeWatches none, V.ts cs0Peers n0Peers none,
 V.i IntKind.i64 x0Latency, V.i IntKind.i64 x0Match],
 V.lb
 [V.i IntKind.i64 x1PC, V.ts cs1Vars n1Vars none, V.s s1Cuts_0, V.s s1Cuts_1, V.s s1Cuts_2, V.s s1Cuts_3,
 V.s s1Cuts_4, V.s s1Cuts_5, V.s s1Cuts_6, V.s s1Cuts_7, V.s s1Cuts_8, V.s s1Cuts_9,
 V.ts cs1Stack n1Stack none, V.i IntKind.i64 x1Mode, V.i IntKind.i64 x1Err, V.i IntKind.i64 x1Use,
 V.i IntKind.i64 x1Timeout, V.i IntKind.i64 x1Elapsed, V.ts cs1Before n1Before none,
 V.ts cs1After n1After none, V.ts cs1Sides n1Sides none],
 V.b b4, v10z2, V.rf, V.ts cs0CodeInstrs n0CodeInstrs none, V.i IntKind.i64 (↑n0CodeInstrs : Int),
 V.i IntKind.i64 x69]
 h)
  (K (Out.exit 0) 156
 [V.lb
 [V.ts cs0CodeInstrs n0CodeInstrs none, V.ts cs0CodeWatches n0CodeWatches none, V.ts cs0Peers n0Peers none,
 V.i IntKind.i64 x0Latency, V.i IntKind.i64 x0Match],
 V.lb
 [V.i IntKind.i64 x1PC, V.ts cs1Vars n1Vars none, V.s s1Cuts_0, V.s s1Cuts_1, V.s s1Cuts_2, V.s s1Cuts_3,
 V.s s1Cuts_4, V.s s1Cuts_5, V.s s1Cuts_6, V.s s1Cuts_7, V.s s1Cuts_8, V.s s1Cuts_9,
 V.ts cs1Stack n1Stack none, V.i IntKind.i64 x1Mode, V.i IntKind.i64 x1Err, V.i IntKind.i64 x1Use,
 V.i IntKind.i64 x1Timeout, V.i IntKind.i64 x1Elapsed, V.ts cs1Before n1Before none,
 V.ts cs1After n1After none, V.ts cs1Sides n1Sides none],
 V.b b4, v10z2, V.rf, V.ts cs0CodeInstrs n0CodeInstrs none, V.i IntKind.i64 (↑n0CodeInstrs : Int),
 V.i IntKind.i64 x69]
 h)) := by kernel_rfl
theorem f8_2 (cs0CodeInstrs : List V) (n0CodeInstrs : Nat) (cs0CodeWatches : List V) (n0CodeWatches : Nat) (cs0Peers : List V) (n0Peers : Nat) (x0Latency : Int) (x0Match : Int) (x1PC : Int) (cs1Vars : List V) (n1Vars : Nat) (s1Cuts_0 : List UInt8) (s1Cuts_1 : List UInt8) (s1Cuts_2 : List UInt8) (s1Cuts_3 : List UInt8) (s1Cuts_4 : List UInt8) (s1Cuts_5 : List UInt8) (s1Cuts_6 : List UInt8) (s1Cuts_7 : List UInt8) (s1Cuts_8 : List UInt8) (s1Cuts_9 : List UInt8) (cs1Stack : List V) (n1Stack : Nat) (x1Mode : Int) (x1Err : Int) (x1Use : Int) (x1Timeout : Int) (x1Elapsed : Int) (cs1Before : List V) (n1Before : Nat) (cs1After : List V) (n1After : Nat) (cs1Sides : List V) (n1Sides : Nat) (b4 : Bool) (v10z2 : V) (x69 : Int) (h : Heap) (K : Out → Nat → List V → Heap → Prop) : (codeP Tryd.Y (Tryd.Y.loc 8) 100 (pre (flat (blockB (post (flat (loopB (post (flat (bodyOf Tryd.f8))))))))) ⟨mk 156 (([2, 3, 4, 10, 16, 67, 68, 69] : List Nat).zip [V.lb [V.ts cs0CodeInstrs n0CodeInstrs none, V.ts cs0CodeWatches n0CodeWatches none, V.ts cs0Peers n0Peers none, V.i IntKind.i64 x0Latency, V.i IntKind.i64 x0Match], V.lb [V.i IntKind.i64 x1PC, V.ts cs1Vars n1Vars none, V.s s1Cuts_0, V.s s1Cuts_1, V.s s1Cuts_2, V.s s1Cuts_3, V.s s1Cuts_4, V.s s1Cuts_5, V.s s1Cuts_6, V.s s1Cuts_7, V.s s1Cuts_8, V.s s1Cuts_9, V.ts cs1Stack n1Stack none, V.i IntKind.i64 x1Mode, V.i IntKind.i64 x1Err, V.i IntKind.i64 x1Use, V.i IntKind.i64 x1Timeout, V.i IntKind.i64 x1Elapsed, V.ts cs1Before n1Before none, V.ts cs1After n1After none, V.ts cs1Sides n1Sides none], V.b b4, v10z2, V.rf, V.ts cs0CodeInstrs n0CodeInstrs none, V.i IntKind.i64 (↑n0CodeInstrs : Int), V.i IntKind.i64 x69]), [], h⟩ (VQ [2, 3, 4, 6, 10, 16, 67, 68, 69, 98, 99, 100] K)) =
  (((0 : Int) ≤ x69 ∧ x69 < (↑n0CodeInstrs : Int)) ∧
  ∃ (n : Int),
 ∃ (n_1 : Int),
 ∃ (s : List UInt8),
 ∃ (n_2 : Int),
 ∃ (cs : List V),
 ∃ (l : Nat),
 ∃ (c : Option Nat),
 ∃ (n_3 : Int),
 ∃ (n_4 : Int),
 ∃ (s_1 : List UInt8),
 ∃ (s_2 : List UInt8),
 ∃ (cs_1 : List V),
 ∃ (l_1 : Nat),
 ∃ (c_1 : Option Nat),
 ∃ (cs_2 : List V),
 ∃ (l_2 : Nat),
 ∃ (c_2 : Option Nat),
 takeX 11 (List.drop (x69.toNat * (11 : Nat)) cs0CodeInstrs) =
 some
 [V.i IntKind.i64 n, V.i IntKind.i64 n_1, V.s s, V.i IntKind.i64 n_2,
 V.ts cs l c, V.i IntKind.i64 n_3, V.i IntKind.i64 n_4, V.s s_1, V.s s_2,
 V.ts cs_1 l_1 c_1, V.ts cs_2 l_2 c_2] ∧
 If (ltI (6 : Int) (↑l : Int))
 (K Out.ret 156
 [V.lb
 [V.ts cs0CodeInstrs n0CodeInstrs none,
 V.ts cs0CodeWatches n0CodeWatches none, V.ts cs0Peers n0Peers none,
 V.i IntKind.i64 x0Latency, V.i IntKind.i64 x0Match],
 V.lb
 [V.i IntKind.i64 x1PC, V.ts cs1Vars n1Vars none, V.s s1Cuts_0,
 V.s s1Cuts_1, V.s s1Cuts_2, V.s s1Cuts_3, V.s s1Cuts_4, V.s s1Cuts_5,
 V.s s1Cuts_6, V.s s1Cuts_7, V.s s1Cuts_8, V.s s1Cuts_9,
 V.ts cs1Stack n1Stack none, V.i IntKind.i64 x1Mode,
 V.i IntKind.i64 x1Err, V.i IntKind.i64 x1Use, V.i IntKind.i64 x1Timeout,
 V.i IntKind.i64 x1Elapsed, V.ts cs1Before n1Before none,
 V.ts cs1After n1After none, V.ts cs1Sides n1Sides none],
 V.b false,
 V.lb
 [V.i IntKind.i64 n, V.i IntKind.i64 n_1, V.s s, V.i IntKind.i64 n_2,
 V.ts cs l c, V.i IntKind.i64 n_3, V.i IntKind.i64 n_4, V.s s_1, V.s s_2,
 V.ts cs_1 l_1 c_1, V.ts cs_2 l_2 c_2],
 v10z2, V.rf, V.ts cs0CodeInstrs n0CodeInstrs none,
 V.i IntKind.i64 (↑n0CodeInstrs : Int), V.i IntKind.i64 x69, V.undef,
 V.undef, V.undef]
 h)
 (If (ltI (12 : Int) (↑l_2 : Int))
 (K Out.ret 156
 [V.lb
 [V.ts cs0CodeInstrs n0CodeInstrs none,
 V.ts cs0CodeWatches n0CodeWatches none, V.ts cs0Peers n0Peers none,
 V.i IntKind.i64 x0Latency, V.i IntKind.i64 x0Match],
 V.lb
 [V.i IntKind.i64 x1PC, V.ts cs1Vars n1Vars none, V.s s1Cuts_0,
 V.s s1Cuts_1, V.s s1Cuts_2, V.s s1Cuts_3, V.s s1Cuts_4, V.s s1Cuts_5,
 V.s s1Cuts_6, V.s s1Cuts_7, V.s s1Cuts_8, V.s s1Cuts_9,
 V.ts cs1Stack n1Stack none, V.i IntKind.i64 x1Mode,
 V.i IntKind.i64 x1Err, V.i IntKind.i64 x1Use,
 V.i IntKind.i64 x1Timeout, V.i IntKind.i64 x1Elapsed,
 V.ts cs1Before n1Before none, V.ts cs1After n1After none,
 V.ts cs1Sides n1Sides none],
 V.b false,
 V.lb
 [V.i IntKind.i64 n, V.i IntKind.i64 n_1, V.s s, V.i IntKind.i64 n_2,
 V.ts cs l c, V.i IntKind.i64 n_3, V.i IntKind.i64 n_4, V.s s_1,
 V.s s_2, V.ts cs_1 l_1 c_1, V.ts cs_2 l_2 c_2],
 v10z2, V.rf, V.ts cs0CodeInstrs n0CodeInstrs none,
 V.i IntKind.i64 (↑n0CodeInstrs : Int), V.i IntKind.i64 x69, V.undef,
 V.undef, V.undef]
 h)
 (If (ltI (60 : Int) (↑s.length : Int))
 (K Out.ret 156
 [V.lb
 [V.ts cs0CodeInstrs n0CodeInstrs none,
 V.ts cs0CodeWatches n0CodeWatches none, V.ts cs0Peers n0Peers none,
 V.i IntKind.i64 x0Latency, V.i IntKind.i64 x0Match],
 V.lb
 [V.i IntKind.i64 x1PC, V.ts cs1Vars n1Vars none, V.s s1Cuts_0,
 V.s s1Cuts_1, V.s s1Cuts_2, V.s s1Cuts_3, V.s s1Cuts_4,
 V.s s1Cuts_5, V.s s1Cuts_6, V.s s1Cuts_7, V.s s1Cuts_8,
 V.s s1Cuts_9, V.ts cs1Stack n1Stack none, V.i IntKind.i64 x1Mode,
 V.i IntKind.i64 x1Err, V.i IntKind.i64 x1Use,
 V.i IntKind.i64 x1Timeout, V.i IntKind.i64 x1Elapsed,
 V.ts cs1Before n1Before none, V.ts cs1After n1After none,
 V.ts cs1Sides n1Sides none],
 V.b false,
 V.lb
 [V.i IntKind.i64 n, V.i IntKind.i64 n_1, V.s s, V.i IntKind.i64 n_2,
 V.ts cs l c, V.i IntKind.i64 n_3, V.i IntKind.i64 n_4, V.s s_1,
 V.s s_2, V.ts cs_1 l_1 c_1, V.ts cs_2 l_2 c_2],
 v10z2, V.rf, V.ts cs0CodeInstrs n0CodeInstrs none,
 V.i IntKind.i64 (↑n0CodeInstrs : Int), V.i IntKind.i64 x69, V.undef,
 V.undef, V.undef]
 h)
 (If (ltI (2 : Int) (↑l_1 : Int))
 (K Out.ret 156
 [V.lb
 [V.ts cs0CodeInstrs n0CodeInstrs none,
 V.ts cs0CodeWatches n0CodeWatches none,
 V.ts cs0Peers n0Peers none, V.i IntKind.i64 x0Latency,
 V.i IntKind.i64 x0Match],
 V.lb
 [V.i IntKind.i64 x1PC, V.ts cs1Vars n1Vars none, V.s s1Cuts_0,
 V.s s1Cuts_1, V.s s1Cuts_2, V.s s1Cuts_3, V.s s1Cuts_4,
 V.s s1Cuts_5, V.s s1Cuts_6, V.s s1Cuts_7, V.s s1Cuts_8,
 V.s s1Cuts_9, V.ts cs1Stack n1Stack none, V.i IntKind.i64 x1Mode,
 V.i IntKind.i64 x1Err, V.i IntKind.i64 x1Use,
 V.i IntKind.i64 x1Timeout, V.i IntKind.i64 x1Elapsed,
 V.ts cs1Before n1Before none, V.ts cs1After n1After none,
 V.ts cs1Sides n1Sides none],
 V.b false,
 V.lb
 [V.i IntKind.i64 n, V.i IntKind.i64 n_1, V.s s, V.i IntKind.i64 n_2,
 V.ts cs l c, V.i IntKind.i64 n_3, V.i IntKind.i64 n_4, V.s s_1,
 V.s s_2, V.ts cs_1 l_1 c_1, V.ts cs_2 l_2 c_2],
 v10z2, V.rf, V.ts cs0CodeInstrs n0CodeInstrs none,
 V.i IntKind.i64 (↑n0CodeInstrs : Int), V.i IntKind.i64 x69, V.undef,
 V.undef, V.undef]
 h)
 (K Out.normal 156
 [V.lb
 [V.ts cs0CodeInstrs n0CodeInstrs none,
 V.ts cs0CodeWatches n0CodeWatches none,
 V.ts cs0Peers n0Peers none, V.i IntKind.i64 x0Latency,
 V.i IntKind.i64 x0Match],
 V.lb
 [V.i IntKind.i64 x1PC, V.ts cs1Vars n1Vars none, V.s s1Cuts_0,
 V.s s1Cuts_1, V.s s1Cuts_2, V.s s1Cuts_3, V.s s1Cuts_4,
 V.s s1Cuts_5, V.s s1Cuts_6, V.s s1Cuts_7, V.s s1Cuts_8,
 V.s s1Cuts_9, V.ts cs1Stack n1Stack none, V.i IntKind.i64 x1Mode,
 V.i IntKind.i64 x1Err, V.i IntKind.i64 x1Use,
 V.i IntKind.i64 x1Timeout, V.i IntKind.i64 x1Elapsed,
 V.ts cs1Before n1Before none, V.ts cs1After n1After none,
 V.ts cs1Sides n1Sides none],
 V.b b4,
 V.lb
 [V.i IntKind.i64 n, V.i IntKind.i64 n_1, V.s s, V.i IntKind.i64 n_2,
 V.ts cs l c, V.i IntKind.i64 n_3, V.i IntKind.i64 n_4, V.s s_1,
 V.s s_2, V.ts cs_1 l_1 c_1, V.ts cs_2 l_2 c_2],
 v10z2, V.rf, V.ts cs0CodeInstrs n0CodeInstrs none,
 V.i IntKind.i64 (↑n0CodeInstrs : Int), V.i IntKind.i64 x69,
 V.ts cs_1 l_1 c_1, V.i IntKind.i64 (↑l_1 : Int),
 V.i IntKind.i64 (0 : Int)]
 h))))) := by kernel_rfl
theorem f8_3 (cs0CodeInstrs : List V) (n0CodeInstrs : Nat) (cs0CodeWatches : List V) (n0CodeWatches : Nat) (cs0Peers : List V) (n0Peers : Nat) (x0Latency : Int) (x0Match : Int) (x1PC : Int) (cs1Vars : List V) (n1Vars : Nat) (cs1Stack : List V) (n1Stack : Nat) (x1Mode : Int) (x1Err : Int) (x1Use : Int) (x1Timeout : Int) (x1Elapsed : Int) (cs1Before : List V) (n1Before : Nat) (cs1After : List V) (n1After : Nat) (cs1Sides : List V) (n1Sides : Nat) (b4 : Bool) (v10z2 : V) (x69 : Int) (s3_2z5 : List UInt8) (s3_3z5 : List UInt8) (s3_4z5 : List UInt8) (s3_5z5 : List UInt8) (s3_6z5 : List UInt8) (s3_7z5 : List UInt8) (s3_8z5 : List UInt8) (s3_9z5 : List UInt8) (s3_10z5 : List UInt8) (s3_11z5 : List UInt8) (x6_0z2 : Int) (x6_1z2 : Int) (s6_2z3 : List UInt8) (x6_3z2 : Int) (c6_4z2 : Option Nat) (cs6_4z2 : List V) (n6_4z2 : Nat) (x6_5z2 : Int) (x6_6z2 : Int) (s6_7z3 : List UInt8) (s6_8z3 : List UInt8) (c6_9z2 : Option Nat) (cs6_9z2 : List V) (n6_9z2 : Nat) (c6_10z2 : Option Nat) (cs6_10z2 : List V) (n6_10z2 : Nat) (c98z2 : Option Nat) (cs98z2 : List V) (n98z2 : Nat) (x99z2 : Int) (x100z2 : Int) (h : Heap) (K : Out → Nat → List V → Heap → Prop) : (codeP Tryd.Y (Tryd.Y.loc 8) 100 ((flat (loopB (post (flat (blockB (post (flat (loopB (post (flat (bodyOf Tryd.f8)))))))))))) ⟨mk 156 (([2, 3, 4, 6, 10, 16, 67, 68, 69, 98, 99, 100] : List Nat).zip [V.lb [V.ts cs0CodeInstrs n0CodeInstrs none, V.ts cs0CodeWatches n0CodeWatches none, V.ts cs0Peers n0Peers none, V.i IntKind.i64 x0Latency, V.i IntKind.i64 x0Match], V.lb [V.i IntKind.i64 x1PC, V.ts cs1Vars n1Vars none, V.s s3_2z5, V.s s3_3z5, V.s s3_4z5, V.s s3_5z5, V.s s3_6z5, V.s s3_7z5, V.s s3_8z5, V.s s3_9z5, V.s s3_10z5, V.s s3_11z5, V.ts cs1Stack n1Stack none, V.i IntKind.i64 x1Mode, V.i IntKind.i64 x1Err, V.i IntKind.i64 x1Use, V.i IntKind.i64 x1Timeout, V.i IntKind.i64 x1Elapsed, V.ts cs1Before n1Before none, V.ts cs1After n1After none, V.ts cs1Sides n1Sides none], V.b b4, V.lb [V.i IntKind.i64 x6_0z2, V.i IntKind.i64 x6_1z2, V.s s6_2z3, V.i IntKind.i64 x6_3z2, V.ts cs6_4z2 n6_4z2 c6_4z2, V.i IntKind.i64 x6_5z2, V.i IntKind.i64 x6_6z2, V.s s6_7z3, V.s s6_8z3, V.ts cs6_9z2 n6_9z2 c6_9z2, V.ts cs6_10z2 n6_10z2 c6_10z2], v10z2, V.rf, V.ts cs0CodeInstrs n0CodeInstrs none, V.i IntKind.i64 (↑n0CodeInstrs : Int), V.i IntKind.i64 x69, V.ts cs98z2 n98z2 c98z2, V.i IntKind.i64 x99z2, V.i IntKind.i64 x100z2]), [], h⟩ (VQ [2, 3, 4, 6, 10, 16, 67, 68, 69, 98, 99, 100] K)) =
  (If (ltI x100z2 x99z2)
  (((0 : Int) ≤ x100z2 ∧ x100z2 < (↑n98z2 : Int)) ∧
 ∃ (n : Int),
 ∃ (n_1 : Int),
 ∃ (s : List UInt8),
 ∃ (s_1 : List UInt8),
 ∃ (cs : List V),
 ∃ (l : Nat),
 ∃ (c : Option Nat),
 takeX 5 (List.drop (x100z2.toNat * (5 : Nat)) cs98z2) =
 some [V.i IntKind.i64 n, V.i IntKind.i64 n_1, V.s s, V.s s_1, V.ts cs l c] ∧
 If (ltI (0 : Int) (↑l : Int))
 (K Out.ret 156
 [V.lb
 [V.ts cs0CodeInstrs n0CodeInstrs none, V.ts cs0CodeWatches n0CodeWatches none,
 V.ts cs0Peers n0Peers none, V.i IntKind.i64 x0Latency, V.i IntKind.i64 x0Match],
 V.lb
 [V.i IntKind.i64 x1PC, V.ts cs1Vars n1Vars none, V.s s3_2z5, V.s s3_3z5, V.s s3_4z5,
 V.s s3_5z5, V.s s3_6z5, V.s s3_7z5, V.s s3_8z5, V.s s3_9z5, V.s s3_10z5, V.s s3_11z5,
 V.ts cs1Stack n1Stack none, V.i IntKind.i64 x1Mode, V.i IntKind.i64 x1Err,
 V.i IntKind.i64 x1Use, V.i IntKind.i64 x1Timeout, V.i IntKind.i64 x1Elapsed,
 V.ts cs1Before n1Before none, V.ts cs1After n1After none, V.ts cs1Sides n1Sides none],
 V.b false,
 V.lb
 [V.i IntKind.i64 x6_0z2, V.i IntKind.i64 x6_1z2, V.s s6_2z3, V.i IntKind.i64 x6_3z2,
 V.ts cs6_4z2 n6_4z2 c6_4z2, V.i IntKind.i64 x6_5z2, V.i IntKind.i64 x6_6z2, V.s s6_7z3,
 V.s s6_8z3, V.ts cs6_9z2 n6_9z2 c6_9z2, V.ts cs6_10z2 n6_10z2 c6_10z2],
 v10z2, V.rf, V.ts cs0CodeInstrs n0CodeInstrs none, V.i IntKind.i64 (↑n0CodeInstrs : Int),
 V.i IntKind.i64 x69, V.ts cs98z2 n98z2 c98z2, V.i IntKind.i64 x99z2, V.i IntKind.i64 x100z2]
 h)
 (K Out.normal 156
 [V.lb
 [V.ts cs0CodeInstrs n0CodeInstrs none, V.ts cs0CodeWatches n0CodeWatches none,
 V.ts cs0Peers n0Peers none, V.i IntKind.i64 x0Latency, V.i IntKind.i64 x0Match],
 V.lb
 [V.i IntKind.i64 x1PC, V.ts cs1Vars n1Vars none, V.s s3_2z5, V.s s3_3z5, V.s s3_4z5,
 V.s s3_5z5, V.s s3_6z5, V.s s3_7z5, V.s s3_8z5, V.s s3_9z5, V.s s3_10z5, V.s s3_11z5,
 V.ts cs1Stack n1Stack none, V.i IntKind.i64 x1Mode, V.i IntKind.i64 x1Err,
 V.i IntKind.i64 x1Use, V.i IntKind.i64 x1Timeout, V.i IntKind.i64 x1Elapsed,
 V.ts cs1Before n1Before none, V.ts cs1After n1After none, V.ts cs1Sides n1Sides none],
 V.b b4,
 V.lb
 [V.i IntKind.i64 x6_0z2, V.i IntKind.i64 x6_1z2, V.s s6_2z3, V.i IntKind.i64 x6_3z2,
 V.ts cs6_4z2 n6_4z2 c6_4z2, V.i IntKind.i64 x6_5z2, V.i IntKind.i64 x6_6z2, V.s s6_7z3,
 V.s s6_8z3, V.ts cs6_9z2 n6_9z2 c6_9z2, V.ts cs6_10z2 n6_10z2 c6_10z2],
 v10z2, V.rf, V.ts cs0CodeInstrs n0CodeInstrs none, V.i IntKind.i64 (↑n0CodeInstrs : Int),
 V.i IntKind.i64 x69, V.ts cs98z2 n98z2 c98z2, V.i IntKind.i64 x99z2,
 V.i IntKind.i64 (IntKind.i64.wrap (x100z2 + (1 : Int)))]
 h))
  (K (Out.exit 2) 156
 [V.lb
 [V.ts cs0CodeInstrs n0CodeInstrs none, V.ts cs0CodeWatches n0CodeWatches none, V.ts cs0Peers n0Peers none,
 V.i IntKind.i64 x0Latency, V.i IntKind.i64 x0Match],
 V.lb
 [V.i IntKind.i64 x1PC, V.ts cs1Vars n1Vars none, V.s s3_2z5, V.s s3_3z5, V.s s3_4z5, V.s s3_5z5, V.s s3_6z5,
 V.s s3_7z5, V.s s3_8z5, V.s s3_9z5, V.s s3_10z5, V.s s3_11z5, V.ts cs1Stack n1Stack none,
 V.i IntKind.i64 x1Mode, V.i IntKind.i64 x1Err, V.i IntKind.i64 x1Use, V.i IntKind.i64 x1Timeout,
 V.i IntKind.i64 x1Elapsed, V.ts cs1Before n1Before none, V.ts cs1After n1After none,
 V.ts cs1Sides n1Sides none],
 V.b b4,
 V.lb
 [V.i IntKind.i64 x6_0z2, V.i IntKind.i64 x6_1z2, V.s s6_2z3, V.i IntKind.i64 x6_3z2, V.ts cs6_4z2 n6_4z2 c6_4z2,
 V.i IntKind.i64 x6_5z2, V.i IntKind.i64 x6_6z2, V.s s6_7z3, V.s s6_8z3, V.ts cs6_9z2 n6_9z2 c6_9z2,
 V.ts cs6_10z2 n6_10z2 c6_10z2],
 v10z2, V.rf, V.ts cs0CodeInstrs n0CodeInstrs none, V.i IntKind.i64 (↑n0CodeInstrs : Int), V.i IntKind.i64 x69,
 V.ts cs98z2 n98z2 c98z2, V.i IntKind.i64 x99z2, V.i IntKind.i64 x100z2]
 h)) := by kernel_rfl
theorem f8_4 (cs0CodeInstrs : List V) (n0CodeInstrs : Nat) (cs0CodeWatches : List V) (n0CodeWatches : Nat) (cs0Peers : List V) (n0Peers : Nat) (x0Latency : Int) (x0Match : Int) (x1PC : Int) (cs1Vars : List V) (n1Vars : Nat) (cs1Stack : List V) (n1Stack : Nat) (x1Mode : Int) (x1Err : Int) (x1Use : Int) (x1Timeout : Int) (x1Elapsed : Int) (cs1Before : List V) (n1Before : Nat) (cs1After : List V) (n1After : Nat) (cs1Sides : List V) (n1Sides : Nat) (b4 : Bool) (v10z2 : V) (x69 : Int) (x6_0z2 : Int) (x6_1z2 : Int) (x6_3z2 : Int) (c6_4z2 : Option Nat) (cs6_4z2 : List V) (n6_4z2 : Nat) (x6_5z2 : Int) (x6_6z2 : Int) (c6_9z2 : Option Nat) (cs6_9z2 : List V) (n6_9z2 : Nat) (c6_10z2 : Option Nat) (cs6_10z2 : List V) (n6_10z2 : Nat) (s3_2z6 : List UInt8) (s3_3z6 : List UInt8) (s3_4z6 : List UInt8) (s3_5z6 : List UInt8) (s3_6z6 : List UInt8) (s3_7z6 : List UInt8) (s3_8z6 : List UInt8) (s3_9z6 : List UInt8) (s3_10z6 : List UInt8) (s3_11z6 : List UInt8) (s6_2z4 : List UInt8) (s6_7z4 : List UInt8) (s6_8z4 : List UInt8) (h : Heap) (K : Out → Nat → List V → Heap → Prop) : (codeP Tryd.Y (Tryd.Y.loc 8) 100 (pre ((post (flat (blockB (post (flat (loopB (post (flat (bodyOf Tryd.f8))))))))).drop 1)) ⟨mk 156 (([2, 3, 4, 6, 10, 16, 67, 68, 69] : List Nat).zip [V.lb [V.ts cs0CodeInstrs n0CodeInstrs none, V.ts cs0CodeWatches n0CodeWatches none, V.ts cs0Peers n0Peers none, V.i IntKind.i64 x0Latency, V.i IntKind.i64 x0Match], V.lb [V.i IntKind.i64 x1PC, V.ts cs1Vars n1Vars none, V.s s3_2z6, V.s s3_3z6, V.s s3_4z6, V.s s3_5z6, V.s s3_6z6, V.s s3_7z6, V.s s3_8z6, V.s s3_9z6, V.s s3_10z6, V.s s3_11z6, V.ts cs1Stack n1Stack none, V.i IntKind.i64 x1Mode, V.i IntKind.i64 x1Err, V.i IntKind.i64 x1Use, V.i IntKind.i64 x1Timeout, V.i IntKind.i64 x1Elapsed, V.ts cs1Before n1Before none, V.ts cs1After n1After none, V.ts cs1Sides n1Sides none], V.b b4, V.lb [V.i IntKind.i64 x6_0z2, V.i IntKind.i64 x6_1z2, V.s s6_2z4, V.i IntKind.i64 x6_3z2, V.ts cs6_4z2 n6_4z2 c6_4z2, V.i IntKind.i64 x6_5z2, V.i IntKind.i64 x6_6z2, V.s s6_7z4, V.s s6_8z4, V.ts cs6_9z2 n6_9z2 c6_9z2, V.ts cs6_10z2 n6_10z2 c6_10z2], v10z2, V.rf, V.ts cs0CodeInstrs n0CodeInstrs none, V.i IntKind.i64 (↑n0CodeInstrs : Int), V.i IntKind.i64 x69]), [], h⟩ (VQ [2, 3, 4, 10, 16, 67, 68, 69, 110, 111, 112] K)) =
  (K Out.normal 156
  [V.lb
 [V.ts cs0CodeInstrs n0CodeInstrs none, V.ts cs0CodeWatches n0CodeWatches none, V.ts cs0Peers n0Peers none,
 V.i IntKind.i64 x0Latency, V.i IntKind.i64 x0Match],
 V.lb
 [V.i IntKind.i64 x1PC, V.ts cs1Vars n1Vars none, V.s s3_2z6, V.s s3_3z6, V.s s3_4z6, V.s s3_5z6, V.s s3_6z6,
 V.s s3_7z6, V.s s3_8z6, V.s s3_9z6, V.s s3_10z6, V.s s3_11z6, V.ts cs1Stack n1Stack none,
 V.i IntKind.i64 x1Mode, V.i IntKind.i64 x1Err, V.i IntKind.i64 x1Use, V.i IntKind.i64 x1Timeout,
 V.i IntKind.i64 x1Elapsed, V.ts cs1Before n1Before none, V.ts cs1After n1After none,
 V.ts cs1Sides n1Sides none],
 V.b b4, v10z2, V.rf, V.ts cs0CodeInstrs n0CodeInstrs none, V.i IntKind.i64 (↑n0CodeInstrs : Int),
 V.i IntKind.i64 x69, V.ts cs6_4z2 n6_4z2 c6_4z2, V.i IntKind.i64 (↑n6_4z2 : Int), V.i IntKind.i64 (0 : Int)]
  h) := by kernel_rfl
theorem f8_5 (cs0CodeInstrs : List V) (n0CodeInstrs : Nat) (cs0CodeWatches : List V) (n0CodeWatches : Nat) (cs0Peers : List V) (n0Peers : Nat) (x0Latency : Int) (x0Match : Int) (x1PC : Int) (cs1Vars : List V) (n1Vars : Nat) (cs1Stack : List V) (n1Stack : Nat) (x1Mode : Int) (x1Err : Int) (x1Use : Int) (x1Timeout : Int) (x1Elapsed : Int) (cs1Before : List V) (n1Before : Nat) (cs1After : List V) (n1After : Nat) (cs1Sides : List V) (n1Sides : Nat) (b4 : Bool) (v10z2 : V) (x69 : Int) (c6_4z2 : Option Nat) (cs6_4z2 : List V) (n6_4z2 : Nat) (s3_2z7 : List UInt8) (s3_3z7 : List UInt8) (s3_4z7 : List UInt8) (s3_5z7 : List UInt8) (s3_6z7 : List UInt8) (s3_7z7 : List UInt8) (s3_8z7 : List UInt8) (s3_9z7 : List UInt8) (s3_10z7 : List UInt8) (s3_11z7 : List UInt8) (x112z2 : Int) (h : Heap) (K : Out → Nat → List V → Heap → Prop) : (codeP Tryd.Y (Tryd.Y.loc 8) 100 ((flat (loopB (post ((post (flat (blockB (post (flat (loopB (post (flat (bodyOf Tryd.f8))))))))).drop 1))))) ⟨mk 156 (([2, 3, 4, 10, 16, 67, 68, 69, 110, 111, 112] : List Nat).zip [V.lb [V.ts cs0CodeInstrs n0CodeInstrs none, V.ts cs0CodeWatches n0CodeWatches none, V.ts cs0Peers n0Peers none, V.i IntKind.i64 x0Latency, V.i IntKind.i64 x0Match], V.lb [V.i IntKind.i64 x1PC, V.ts cs1Vars n1Vars none, V.s s3_2z7, V.s s3_3z7, V.s s3_4z7, V.s s3_5z7, V.s s3_6z7, V.s s3_7z7, V.s s3_8z7, V.s s3_9z7, V.s s3_10z7, V.s s3_11z7, V.ts cs1Stack n1Stack none, V.i IntKind.i64 x1Mode, V.i IntKind.i64 x1Err, V.i IntKind.i64 x1Use, V.i IntKind.i64 x1Timeout, V.i IntKind.i64 x1Elapsed, V.ts cs1Before n1Before none, V.ts cs1After n1After none, V.ts cs1Sides n1Sides none], V.b b4, v10z2, V.rf, V.ts cs0CodeInstrs n0CodeInstrs none, V.i IntKind.i64 (↑n0CodeInstrs : Int), V.i IntKind.i64 x69, V.ts cs6_4z2 n6_4z2 c6_4z2, V.i IntKind.i64 (↑n6_4z2 : Int), V.i IntKind.i64 x112z2]), [], h⟩ (VQ [2, 3, 4, 10, 16, 67, 68, 69, 110, 111, 112] K)) =
  (If (ltI x112z2 (↑n6_4z2 : Int))
  (((0 : Int) ≤ x112z2 ∧ x112z2 < (↑n6_4z2 : Int)) ∧
 ∃ (s : List UInt8),
 ∃ (s_1 : List UInt8),
 takeX 2 (List.drop (x112z2.toNat * (2 : Nat)) cs6_4z2) = some [V.s s, V.s s_1] ∧
 If (ltI (60 : Int) (↑s.length : Int))
 (K Out.ret 156
 [V.lb
 [V.ts cs0CodeInstrs n0CodeInstrs none, V.ts cs0CodeWatches n0CodeWatches none,
 V.ts cs0Peers n0Peers none, V.i IntKind.i64 x0Latency, V.i IntKind.i64 x0Match],
 V.lb
 [V.i IntKind.i64 x1PC, V.ts cs1Vars n1Vars none, V.s s3_2z7, V.s s3_3z7, V.s s3_4z7, V.s s3_5z7,
 V.s s3_6z7, V.s s3_7z7, V.s s3_8z7, V.s s3_9z7, V.s s3_10z7, V.s s3_11z7,
 V.ts cs1Stack n1Stack none, V.i IntKind.i64 x1Mode, V.i IntKind.i64 x1Err, V.i IntKind.i64 x1Use,
 V.i IntKind.i64 x1Timeout, V.i IntKind.i64 x1Elapsed, V.ts cs1Before n1Before none,
 V.ts cs1After n1After none, V.ts cs1Sides n1Sides none],
 V.b false, V.lb [V.s s, V.s s_1], V.rf, V.ts cs0CodeInstrs n0CodeInstrs none,
 V.i IntKind.i64 (↑n0CodeInstrs : Int), V.i IntKind.i64 x69, V.ts cs6_4z2 n6_4z2 c6_4z2,
 V.i IntKind.i64 (↑n6_4z2 : Int), V.i IntKind.i64 x112z2]
 h)
 (If (ltI (60 : Int) (↑s_1.length : Int))
 (K Out.ret 156
 [V.lb
 [V.ts cs0CodeInstrs n0CodeInstrs none, V.ts cs0CodeWatches n0CodeWatches none,
 V.ts cs0Peers n0Peers none, V.i IntKind.i64 x0Latency, V.i IntKind.i64 x0Match],
 V.lb
 [V.i IntKind.i64 x1PC, V.ts cs1Vars n1Vars none, V.s s3_2z7, V.s s3_3z7, V.s s3_4z7, V.s s3_5z7,
 V.s s3_6z7, V.s s3_7z7, V.s s3_8z7, V.s s3_9z7, V.s s3_10z7, V.s s3_11z7,
 V.ts cs1Stack n1Stack none, V.i IntKind.i64 x1Mode, V.i IntKind.i64 x1Err, V.i IntKind.i64 x1Use,
 V.i IntKind.i64 x1Timeout, V.i IntKind.i64 x1Elapsed, V.ts cs1Before n1Before none,
 V.ts cs1After n1After none, V.ts cs1Sides n1Sides none],
 V.b false, V.lb [V.s s, V.s s_1], V.rf, V.ts cs0CodeInstrs n0CodeInstrs none,
 V.i IntKind.i64 (↑n0CodeInstrs : Int), V.i IntKind.i64 x69, V.ts cs6_4z2 n6_4z2 c6_4z2,
 V.i IntKind.i64 (↑n6_4z2 : Int), V.i IntKind.i64 x112z2]
 h)
 (K Out.normal 156
 [V.lb
 [V.ts cs0CodeInstrs n0CodeInstrs none, V.ts cs0CodeWatches n0CodeWatches none,
 V.ts cs0Peers n0Peers none, V.i IntKind.i64 x0Latency, V.i IntKind.i64 x0Match],
 V.lb
 [V.i IntKind.i64 x1PC, V.ts cs1Vars n1Vars none, V.s s3_2z7, V.s s3_3z7, V.s s3_4z7, V.s s3_5z7,
 V.s s3_6z7, V.s s3_7z7, V.s s3_8z7, V.s s3_9z7, V.s s3_10z7, V.s s3_11z7,
 V.ts cs1Stack n1Stack none, V.i IntKind.i64 x1Mode, V.i IntKind.i64 x1Err, V.i IntKind.i64 x1Use,
 V.i IntKind.i64 x1Timeout, V.i IntKind.i64 x1Elapsed, V.ts cs1Before n1Before none,
 V.ts cs1After n1After none, V.ts cs1Sides n1Sides none],
 V.b b4, V.lb [V.s s, V.s s_1], V.rf, V.ts cs0CodeInstrs n0CodeInstrs none,
 V.i IntKind.i64 (↑n0CodeInstrs : Int), V.i IntKind.i64 x69, V.ts cs6_4z2 n6_4z2 c6_4z2,
 V.i IntKind.i64 (↑n6_4z2 : Int), V.i IntKind.i64 (IntKind.i64.wrap (x112z2 + (1 : Int)))]
 h)))
  (K (Out.exit 4) 156
 [V.lb
 [V.ts cs0CodeInstrs n0CodeInstrs none, V.ts cs0CodeWatches n0CodeWatches none, V.ts cs0Peers n0Peers none,
 V.i IntKind.i64 x0Latency, V.i IntKind.i64 x0Match],
 V.lb
 [V.i IntKind.i64 x1PC, V.ts cs1Vars n1Vars none, V.s s3_2z7, V.s s3_3z7, V.s s3_4z7, V.s s3_5z7, V.s s3_6z7,
 V.s s3_7z7, V.s s3_8z7, V.s s3_9z7, V.s s3_10z7, V.s s3_11z7, V.ts cs1Stack n1Stack none,
 V.i IntKind.i64 x1Mode, V.i IntKind.i64 x1Err, V.i IntKind.i64 x1Use, V.i IntKind.i64 x1Timeout,
 V.i IntKind.i64 x1Elapsed, V.ts cs1Before n1Before none, V.ts cs1After n1After none,
 V.ts cs1Sides n1Sides none],
 V.b b4, v10z2, V.rf, V.ts cs0CodeInstrs n0CodeInstrs none, V.i IntKind.i64 (↑n0CodeInstrs : Int),
 V.i IntKind.i64 x69, V.ts cs6_4z2 n6_4z2 c6_4z2, V.i IntKind.i64 (↑n6_4z2 : Int), V.i IntKind.i64 x112z2]
 h)) := by kernel_rfl
theorem f8_6 (cs0CodeInstrs : List V) (n0CodeInstrs : Nat) (cs0CodeWatches : List V) (n0CodeWatches : Nat) (cs0Peers : List V) (n0Peers : Nat) (x0Latency : Int) (x0Match : Int) (x1PC : Int) (cs1Vars : List V) (n1Vars : Nat) (cs1Stack : List V) (n1Stack : Nat) (x1Mode : Int) (x1Err : Int) (x1Use : Int) (x1Timeout : Int) (x1Elapsed : Int) (cs1Before : List V) (n1Before : Nat) (cs1After : List V) (n1After : Nat) (cs1Sides : List V) (n1Sides : Nat) (b4 : Bool) (v10z2 : V) (x69 : Int) (s3_2z8 : List UInt8) (s3_3z8 : List UInt8) (s3_4z8 : List UInt8) (s3_5z8 : List UInt8) (s3_6z8 : List UInt8) (s3_7z8 : List UInt8) (s3_8z8 : List UInt8) (s3_9z8 : List UInt8) (s3_10z8 : List UInt8) (s3_11z8 : List UInt8) (h : Heap) (K : Out → Nat → List V → Heap → Prop) : (codeP Tryd.Y (Tryd.Y.loc 8) 100 (((post (flat (loopB (post (flat (bodyOf Tryd.f8)))))).drop 1)) ⟨mk 156 (([2, 3, 4, 10, 16, 67, 68, 69] : List Nat).zip [V.lb [V.ts cs0CodeInstrs n0CodeInstrs none, V.ts cs0CodeWatches n0CodeWatches none, V.ts cs0Peers n0Peers none, V.i IntKind.i64 x0Latency, V.i IntKind.i64 x0Match], V.lb [V.i IntKind.i64 x1PC, V.ts cs1Vars n1Vars none, V.s s3_2z8, V.s s3_3z8, V.s s3_4z8, V.s s3_5z8, V.s s3_6z8, V.s s3_7z8, V.s s3_8z8, V.s s3_9z8, V.s s3_10z8, V.s s3_11z8, V.ts cs1Stack n1Stack none, V.i IntKind.i64 x1Mode, V.i IntKind.i64 x1Err, V.i IntKind.i64 x1Use, V.i IntKind.i64 x1Timeout, V.i IntKind.i64 x1Elapsed, V.ts cs1Before n1Before none, V.ts cs1After n1After none, V.ts cs1Sides n1Sides none], V.b b4, v10z2, V.rf, V.ts cs0CodeInstrs n0CodeInstrs none, V.i IntKind.i64 (↑n0CodeInstrs : Int), V.i IntKind.i64 x69]), [], h⟩ (VQ [2, 3, 4, 10, 16, 67, 68, 69] K)) =
  (K Out.normal 156
  [V.lb
 [V.ts cs0CodeInstrs n0CodeInstrs none, V.ts cs0CodeWatches n0CodeWatches none, V.ts cs0Peers n0Peers none,
 V.i IntKind.i64 x0Latency, V.i IntKind.i64 x0Match],
 V.lb
 [V.i IntKind.i64 x1PC, V.ts cs1Vars n1Vars none, V.s s3_2z8, V.s s3_3z8, V.s s3_4z8, V.s s3_5z8, V.s s3_6z8,
 V.s s3_7z8, V.s s3_8z8, V.s s3_9z8, V.s s3_10z8, V.s s3_11z8, V.ts cs1Stack n1Stack none,
 V.i IntKind.i64 x1Mode, V.i IntKind.i64 x1Err, V.i IntKind.i64 x1Use, V.i IntKind.i64 x1Timeout,
 V.i IntKind.i64 x1Elapsed, V.ts cs1Before n1Before none, V.ts cs1After n1After none,
 V.ts cs1Sides n1Sides none],
 V.b b4, v10z2, V.rf, V.ts cs0CodeInstrs n0CodeInstrs none, V.i IntKind.i64 (↑n0CodeInstrs : Int),
 V.i IntKind.i64 (IntKind.i64.wrap (x69 + (1 : Int)))]
  h) := by kernel_rfl
theorem f8_7 (cs0CodeInstrs : List V) (n0CodeInstrs : Nat) (cs0CodeWatches : List V) (n0CodeWatches : Nat) (cs0Peers : List V) (n0Peers : Nat) (x0Latency : Int) (x0Match : Int) (x1PC : Int) (cs1Vars : List V) (n1Vars : Nat) (cs1Stack : List V) (n1Stack : Nat) (x1Mode : Int) (x1Err : Int) (x1Use : Int) (x1Timeout : Int) (x1Elapsed : Int) (cs1Before : List V) (n1Before : Nat) (cs1After : List V) (n1After : Nat) (cs1Sides : List V) (n1Sides : Nat) (s3_2z9 : List UInt8) (s3_3z9 : List UInt8) (s3_4z9 : List UInt8) (s3_5z9 : List UInt8) (s3_6z9 : List UInt8) (s3_7z9 : List UInt8) (s3_8z9 : List UInt8) (s3_9z9 : List UInt8) (s3_10z9 : List UInt8) (s3_11z9 : List UInt8) (h : Heap) (K : Out → Nat → List V → Heap → Prop) : (codeP Tryd.Y (Tryd.Y.loc 8) 100 (pre ((post (flat (bodyOf Tryd.f8))).drop 1)) ⟨mk 156 (([2, 3] : List Nat).zip [V.lb [V.ts cs0CodeInstrs n0CodeInstrs none, V.ts cs0CodeWatches n0CodeWatches none, V.ts cs0Peers n0Peers none, V.i IntKind.i64 x0Latency, V.i IntKind.i64 x0Match], V.lb [V.i IntKind.i64 x1PC, V.ts cs1Vars n1Vars none, V.s s3_2z9, V.s s3_3z9, V.s s3_4z9, V.s s3_5z9, V.s s3_6z9, V.s s3_7z9, V.s s3_8z9, V.s s3_9z9, V.s s3_10z9, V.s s3_11z9, V.ts cs1Stack n1Stack none, V.i IntKind.i64 x1Mode, V.i IntKind.i64 x1Err, V.i IntKind.i64 x1Use, V.i IntKind.i64 x1Timeout, V.i IntKind.i64 x1Elapsed, V.ts cs1Before n1Before none, V.ts cs1After n1After none, V.ts cs1Sides n1Sides none]]), [], h⟩ (VQ [3, 129, 130, 131] K)) =
  (K Out.normal 156
  [V.lb
 [V.i IntKind.i64 x1PC, V.ts cs1Vars n1Vars none, V.s s3_2z9, V.s s3_3z9, V.s s3_4z9, V.s s3_5z9, V.s s3_6z9,
 V.s s3_7z9, V.s s3_8z9, V.s s3_9z9, V.s s3_10z9, V.s s3_11z9, V.ts cs1Stack n1Stack none,
 V.i IntKind.i64 x1Mode, V.i IntKind.i64 x1Err, V.i IntKind.i64 x1Use, V.i IntKind.i64 x1Timeout,
 V.i IntKind.i64 x1Elapsed, V.ts cs1Before n1Before none, V.ts cs1After n1After none,
 V.ts cs1Sides n1Sides none],
 V.ts cs0Peers n0Peers none, V.i IntKind.i64 (↑n0Peers : Int), V.i IntKind.i64 (0 : Int)]
  h) := by kernel_rfl
theorem f8_8 (cs0Peers : List V) (n0Peers : Nat) (x1PC : Int) (cs1Vars : List V) (n1Vars : Nat) (cs1Stack : List V) (n1Stack : Nat) (x1Mode : Int) (x1Err : Int) (x1Use : Int) (x1Timeout : Int) (x1Elapsed : Int) (cs1Before : List V) (n1Before : Nat) (cs1After : List V) (n1After : Nat) (cs1Sides : List V) (n1Sides : Nat) (s3_2z10 : List UInt8) (s3_3z10 : List UInt8) (s3_4z10 : List UInt8) (s3_5z10 : List UInt8) (s3_6z10 : List UInt8) (s3_7z10 : List UInt8) (s3_8z10 : List UInt8) (s3_9z10 : List UInt8) (s3_10z10 : List UInt8) (s3_11z10 : List UInt8) (x131 : Int) (h : Heap) (K : Out → Nat → List V → Heap → Prop) : (codeP Tryd.Y (Tryd.Y.loc 8) 100 ((flat (loopB (post ((post (flat (bodyOf Tryd.f8))).drop 1))))) ⟨mk 156 (([3, 129, 130, 131] : List Nat).zip [V.lb [V.i IntKind.i64 x1PC, V.ts cs1Vars n1Vars none, V.s s3_2z10, V.s s3_3z10, V.s s3_4z10, V.s s3_5z10, V.s s3_6z10, V.s s3_7z10, V.s s3_8z10, V.s s3_9z10, V.s s3_10z10, V.s s3_11z10, V.ts cs1Stack n1Stack none, V.i IntKind.i64 x1Mode, V.i IntKind.i64 x1Err, V.i IntKind.i64 x1Use, V.i IntKind.i64 x1Timeout, V.i IntKind.i64 x1Elapsed, V.ts cs1Before n1Before none, V.ts cs1After n1After none, V.ts cs1Sides n1Sides none], V.ts cs0Peers n0Peers none, V.i IntKind.i64 (↑n0Peers : Int), V.i IntKind.i64 x131]), [], h⟩ (VQ [3, 4, 129, 130, 131] K)) =
  (If (ltI x131 (↑n0Peers : Int))
  (((0 : Int) ≤ x131 ∧ x131 < (↑n0Peers : Int)) ∧
 ∃ (n : Int),
 ∃ (cs : List V),
 ∃ (l : Nat),
 ∃ (c : Option Nat),
 takeX 2 (List.drop (x131.toNat * (2 : Nat)) cs0Peers) = some [V.i IntKind.i64 n, V.ts cs l c] ∧
 ∃ (b : Bool),
 (PCon Tryd.Y (24 : Nat) [V.agg [V.i IntKind.i64 n, V.ts cs l c]] fun (v : V) => v = V.b b) ∧
 If (!b)
 (K Out.ret 156
 [V.lb
 [V.i IntKind.i64 x1PC, V.ts cs1Vars n1Vars none, V.s s3_2z10, V.s s3_3z10, V.s s3_4z10,
 V.s s3_5z10, V.s s3_6z10, V.s s3_7z10, V.s s3_8z10, V.s s3_9z10, V.s s3_10z10, V.s s3_11z10,
 V.ts cs1Stack n1Stack none, V.i IntKind.i64 x1Mode, V.i IntKind.i64 x1Err,
 V.i IntKind.i64 x1Use, V.i IntKind.i64 x1Timeout, V.i IntKind.i64 x1Elapsed,
 V.ts cs1Before n1Before none, V.ts cs1After n1After none, V.ts cs1Sides n1Sides none],
 V.b false, V.ts cs0Peers n0Peers none, V.i IntKind.i64 (↑n0Peers : Int), V.i IntKind.i64 x131]
 h)
 (K Out.normal 156
 [V.lb
 [V.i IntKind.i64 x1PC, V.ts cs1Vars n1Vars none, V.s s3_2z10, V.s s3_3z10, V.s s3_4z10,
 V.s s3_5z10, V.s s3_6z10, V.s s3_7z10, V.s s3_8z10, V.s s3_9z10, V.s s3_10z10, V.s s3_11z10,
 V.ts cs1Stack n1Stack none, V.i IntKind.i64 x1Mode, V.i IntKind.i64 x1Err,
 V.i IntKind.i64 x1Use, V.i IntKind.i64 x1Timeout, V.i IntKind.i64 x1Elapsed,
 V.ts cs1Before n1Before none, V.ts cs1After n1After none, V.ts cs1Sides n1Sides none],
 V.undef, V.ts cs0Peers n0Peers none, V.i IntKind.i64 (↑n0Peers : Int),
 V.i IntKind.i64 (IntKind.i64.wrap (x131 + (1 : Int)))]
 h))
  (K (Out.exit 6) 156
 [V.lb
 [V.i IntKind.i64 x1PC, V.ts cs1Vars n1Vars none, V.s s3_2z10, V.s s3_3z10, V.s s3_4z10, V.s s3_5z10,
 V.s s3_6z10, V.s s3_7z10, V.s s3_8z10, V.s s3_9z10, V.s s3_10z10, V.s s3_11z10, V.ts cs1Stack n1Stack none,
 V.i IntKind.i64 x1Mode, V.i IntKind.i64 x1Err, V.i IntKind.i64 x1Use, V.i IntKind.i64 x1Timeout,
 V.i IntKind.i64 x1Elapsed, V.ts cs1Before n1Before none, V.ts cs1After n1After none,
 V.ts cs1Sides n1Sides none],
 V.undef, V.ts cs0Peers n0Peers none, V.i IntKind.i64 (↑n0Peers : Int), V.i IntKind.i64 x131]
 h)) := by kernel_rfl
theorem f8_9 (x1PC : Int) (cs1Vars : List V) (n1Vars : Nat) (cs1Stack : List V) (n1Stack : Nat) (x1Mode : Int) (x1Err : Int) (x1Use : Int) (x1Timeout : Int) (x1Elapsed : Int) (cs1Before : List V) (n1Before : Nat) (cs1After : List V) (n1After : Nat) (cs1Sides : List V) (n1Sides : Nat) (s3_2z11 : List UInt8) (s3_3z11 : List UInt8) (s3_4z11 : List UInt8) (s3_5z11 : List UInt8) (s3_6z11 : List UInt8) (s3_7z11 : List UInt8) (s3_8z11 : List UInt8) (s3_9z11 : List UInt8) (s3_10z11 : List UInt8) (s3_11z11 : List UInt8) (h : Heap) (K : Out → Nat → List V → Heap → Prop) : (codeP Tryd.Y (Tryd.Y.loc 8) 100 (pre ((post ((post (flat (bodyOf Tryd.f8))).drop 1)).drop 1)) ⟨mk 156 (([3] : List Nat).zip [V.lb [V.i IntKind.i64 x1PC, V.ts cs1Vars n1Vars none, V.s s3_2z11, V.s s3_3z11, V.s s3_4z11, V.s s3_5z11, V.s s3_6z11, V.s s3_7z11, V.s s3_8z11, V.s s3_9z11, V.s s3_10z11, V.s s3_11z11, V.ts cs1Stack n1Stack none, V.i IntKind.i64 x1Mode, V.i IntKind.i64 x1Err, V.i IntKind.i64 x1Use, V.i IntKind.i64 x1Timeout, V.i IntKind.i64 x1Elapsed, V.ts cs1Before n1Before none, V.ts cs1After n1After none, V.ts cs1Sides n1Sides none]]), [], h⟩ (VQ [3, 140, 141, 142] K)) =
  (K Out.normal 156
  [V.lb
 [V.i IntKind.i64 x1PC, V.ts cs1Vars n1Vars none, V.s s3_2z11, V.s s3_3z11, V.s s3_4z11, V.s s3_5z11, V.s s3_6z11,
 V.s s3_7z11, V.s s3_8z11, V.s s3_9z11, V.s s3_10z11, V.s s3_11z11, V.ts cs1Stack n1Stack none,
 V.i IntKind.i64 x1Mode, V.i IntKind.i64 x1Err, V.i IntKind.i64 x1Use, V.i IntKind.i64 x1Timeout,
 V.i IntKind.i64 x1Elapsed, V.ts cs1Before n1Before none, V.ts cs1After n1After none,
 V.ts cs1Sides n1Sides none],
 V.ts cs1Sides n1Sides none, V.i IntKind.i64 (↑n1Sides : Int), V.i IntKind.i64 (0 : Int)]
  h) := by kernel_rfl
theorem f8_10 (x1PC : Int) (cs1Vars : List V) (n1Vars : Nat) (cs1Stack : List V) (n1Stack : Nat) (x1Mode : Int) (x1Err : Int) (x1Use : Int) (x1Timeout : Int) (x1Elapsed : Int) (cs1Before : List V) (n1Before : Nat) (cs1After : List V) (n1After : Nat) (cs1Sides : List V) (n1Sides : Nat) (s3_2z12 : List UInt8) (s3_3z12 : List UInt8) (s3_4z12 : List UInt8) (s3_5z12 : List UInt8) (s3_6z12 : List UInt8) (s3_7z12 : List UInt8) (s3_8z12 : List UInt8) (s3_9z12 : List UInt8) (s3_10z12 : List UInt8) (s3_11z12 : List UInt8) (x142 : Int) (h : Heap) (K : Out → Nat → List V → Heap → Prop) : (codeP Tryd.Y (Tryd.Y.loc 8) 100 ((flat (loopB (post ((post ((post (flat (bodyOf Tryd.f8))).drop 1)).drop 1))))) ⟨mk 156 (([3, 140, 141, 142] : List Nat).zip [V.lb [V.i IntKind.i64 x1PC, V.ts cs1Vars n1Vars none, V.s s3_2z12, V.s s3_3z12, V.s s3_4z12, V.s s3_5z12, V.s s3_6z12, V.s s3_7z12, V.s s3_8z12, V.s s3_9z12, V.s s3_10z12, V.s s3_11z12, V.ts cs1Stack n1Stack none, V.i IntKind.i64 x1Mode, V.i IntKind.i64 x1Err, V.i IntKind.i64 x1Use, V.i IntKind.i64 x1Timeout, V.i IntKind.i64 x1Elapsed, V.ts cs1Before n1Before none, V.ts cs1After n1After none, V.ts cs1Sides n1Sides none], V.ts cs1Sides n1Sides none, V.i IntKind.i64 (↑n1Sides : Int), V.i IntKind.i64 x142]), [], h⟩ (VQ [3, 4, 140, 141, 142] K)) =
  (If (ltI x142 (↑n1Sides : Int))
  (((0 : Int) ≤ x142 ∧ x142 < (↑n1Sides : Int)) ∧
 ∃ (b : Bool),
 ∃ (b_1 : Bool),
 ∃ (b_2 : Bool),
 ∃ (n : Int),
 ∃ (n_1 : Int),
 ∃ (s : List UInt8),
 ∃ (cs : List V),
 ∃ (l : Nat),
 ∃ (c : Option Nat),
 ∃ (s_1 : List UInt8),
 ∃ (cs_1 : List V),
 ∃ (l_1 : Nat),
 ∃ (c_1 : Option Nat),
 ∃ (s_2 : List UInt8),
 ∃ (s_3 : List UInt8),
 takeX 11 (List.drop (x142.toNat * (11 : Nat)) cs1Sides) =
 some
 [V.b b, V.b b_1, V.b b_2, V.i IntKind.i64 n, V.i IntKind.i64 n_1, V.s s,
 V.ts cs l c, V.s s_1, V.ts cs_1 l_1 c_1, V.s s_2, V.s s_3] ∧
 ∃ (b_3 : Bool),
 (PCon Tryd.Y (25 : Nat)
 [V.agg
 [V.b b, V.b b_1, V.b b_2, V.i IntKind.i64 n, V.i IntKind.i64 n_1, V.s s,
 V.ts cs l c, V.s s_1, V.ts cs_1 l_1 c_1, V.s s_2, V.s s_3]]
 fun (v : V) => v = V.b b_3) ∧
 If (!b_3)
 (K Out.ret 156
 [V.lb
 [V.i IntKind.i64 x1PC, V.ts cs1Vars n1Vars none, V.s s3_2z12,
 V.s s3_3z12, V.s s3_4z12, V.s s3_5z12, V.s s3_6z12, V.s s3_7z12,
 V.s s3_8z12, V.s s3_9z12, V.s s3_10z12, V.s s3_11z12,
 V.ts cs1Stack n1Stack none, V.i IntKind.i64 x1Mode,
 V.i IntKind.i64 x1Err, V.i IntKind.i64 x1Use,
 V.i IntKind.i64 x1Timeout, V.i IntKind.i64 x1Elapsed,
 V.ts cs1Before n1Before none, V.ts cs1After n1After none,
 V.ts cs1Sides n1Sides none],
 V.b false, V.ts cs1Sides n1Sides none, V.i IntKind.i64 (↑n1Sides : Int),
 V.i IntKind.i64 x142]
 h)
 (If (ltI (70 : Int) (↑s_3.length : Int))
 (K Out.ret 156
 [V.lb
 [V.i IntKind.i64 x1PC, V.ts cs1Vars n1Vars none, V.s s3_2z12,
 V.s s3_3z12, V.s s3_4z12, V.s s3_5z12, V.s s3_6z12, V.s s3_7z12,
 V.s s3_8z12, V.s s3_9z12, V.s s3_10z12, V.s s3_11z12,
 V.ts cs1Stack n1Stack none, V.i IntKind.i64 x1Mode,
 V.i IntKind.i64 x1Err, V.i IntKind.i64 x1Use,
 V.i IntKind.i64 x1Timeout, V.i IntKind.i64 x1Elapsed,
 V.ts cs1Before n1Before none, V.ts cs1After n1After none,
 V.ts cs1Sides n1Sides none],
 V.b false, V.ts cs1Sides n1Sides none, V.i IntKind.i64 (↑n1Sides : Int),
 V.i IntKind.i64 x142]
 h)
 (K Out.normal 156
 [V.lb
 [V.i IntKind.i64 x1PC, V.ts cs1Vars n1Vars none, V.s s3_2z12,
 V.s s3_3z12, V.s s3_4z12, V.s s3_5z12, V.s s3_6z12, V.s s3_7z12,
 V.s s3_8z12, V.s s3_9z12, V.s s3_10z12, V.s s3_11z12,
 V.ts cs1Stack n1Stack none, V.i IntKind.i64 x1Mode,
 V.i IntKind.i64 x1Err, V.i IntKind.i64 x1Use,
 V.i IntKind.i64 x1Timeout, V.i IntKind.i64 x1Elapsed,
 V.ts cs1Before n1Before none, V.ts cs1After n1After none,
 V.ts cs1Sides n1Sides none],
 V.undef, V.ts cs1Sides n1Sides none, V.i IntKind.i64 (↑n1Sides : Int),
 V.i IntKind.i64 (IntKind.i64.wrap (x142 + (1 : Int)))]
 h)))
  (K (Out.exit 8) 156
 [V.lb
 [V.i IntKind.i64 x1PC, V.ts cs1Vars n1Vars none, V.s s3_2z12, V.s s3_3z12, V.s s3_4z12, V.s s3_5z12,
 V.s s3_6z12, V.s s3_7z12, V.s s3_8z12, V.s s3_9z12, V.s s3_10z12, V.s s3_11z12, V.ts cs1Stack n1Stack none,
 V.i IntKind.i64 x1Mode, V.i IntKind.i64 x1Err, V.i IntKind.i64 x1Use, V.i IntKind.i64 x1Timeout,
 V.i IntKind.i64 x1Elapsed, V.ts cs1Before n1Before none, V.ts cs1After n1After none,
 V.ts cs1Sides n1Sides none],
 V.undef, V.ts cs1Sides n1Sides none, V.i IntKind.i64 (↑n1Sides : Int), V.i IntKind.i64 x142]
 h)) := by kernel_rfl
theorem f8_11  (h : Heap) (K : Out → Nat → List V → Heap → Prop) : (codeP Tryd.Y (Tryd.Y.loc 8) 100 (((post ((post ((post (flat (bodyOf Tryd.f8))).drop 1)).drop 1)).drop 1)) ⟨mk 156 (([] : List Nat).zip []), [], h⟩ (VQ [4] K)) =
  (K Out.ret 156 [V.b true] h) := by kernel_rfl
theorem f22_0 (cs0Instrs : List V) (n0Instrs : Nat) (cs0Watches : List V) (n0Watches : Nat) (cs1 : List V) (n1 : Nat) (h : Heap) (K : Out → Nat → List V → Heap → Prop) : (codeP Tryd.Y (Tryd.Y.loc 22) 100 (pre (flat (bodyOf Tryd.f22))) ⟨(V.agg [V.ts cs0Instrs n0Instrs none, V.ts cs0Watches n0Watches none] :: V.ts cs1 n1 none :: List.replicate 40 .undef), [], h⟩ (VQ [1, 4, 19, 20, 21] K)) =
  (If (ltI (12 : Int) (↑n0Watches : Int))
  (K Out.ret 42 [V.ts cs1 n1 none, V.b false, V.undef, V.undef, V.undef] h)
  (If (ltI (9 : Int) (↑n1 : Int)) (K Out.ret 42 [V.ts cs1 n1 none, V.b false, V.undef, V.undef, V.undef] h)
 (K Out.normal 42
 [V.ts cs1 n1 none, V.b false, V.ts cs0Watches n0Watches none, V.i IntKind.i64 (↑n0Watches : Int),
 V.i IntKind.i64 (0 : Int)]
 h))) := by kernel_rfl
theorem f22_1 (cs0Watches : List V) (n0Watches : Nat) (cs1 : List V) (n1 : Nat) (x21 : Int) (h : Heap) (K : Out → Nat → List V → Heap → Prop) : (codeP Tryd.Y (Tryd.Y.loc 22) 100 ((flat (loopB (post (flat (bodyOf Tryd.f22)))))) ⟨mk 42 (([1, 19, 20, 21] : List Nat).zip [V.ts cs1 n1 none, V.ts cs0Watches n0Watches none, V.i IntKind.i64 (↑n0Watches : Int), V.i IntKind.i64 x21]), [], h⟩ (VQ [1, 4, 19, 20, 21] K)) =
  (If (ltI x21 (↑n0Watches : Int))
  (((0 : Int) ≤ x21 ∧ x21 < (↑n0Watches : Int)) ∧
 ∃ (n : Int),
 ∃ (n_1 : Int),
 ∃ (n_2 : Int),
 ∃ (s : List UInt8),
 ∃ (n_3 : Int),
 ∃ (b : Bool),
 ∃ (n_4 : Int),
 takeX 7 (List.drop (x21.toNat * (7 : Nat)) cs0Watches) =
 some
 [V.i IntKind.i64 n, V.i IntKind.i64 n_1, V.i IntKind.i64 n_2, V.s s, V.i IntKind.i64 n_3, V.b b,
 V.i IntKind.i64 n_4] ∧
 If (ltI (40 : Int) (↑s.length : Int))
 (K Out.ret 42
 [V.ts cs1 n1 none, V.b false, V.ts cs0Watches n0Watches none,
 V.i IntKind.i64 (↑n0Watches : Int), V.i IntKind.i64 x21]
 h)
 (K Out.normal 42
 [V.ts cs1 n1 none, V.undef, V.ts cs0Watches n0Watches none, V.i IntKind.i64 (↑n0Watches : Int),
 V.i IntKind.i64 (IntKind.i64.wrap (x21 + (1 : Int)))]
 h))
  (K (Out.exit 0) 42
 [V.ts cs1 n1 none, V.undef, V.ts cs0Watches n0Watches none, V.i IntKind.i64 (↑n0Watches : Int), V.i IntKind.i64 x21]
 h)) := by kernel_rfl
theorem f22_2 (cs1 : List V) (n1 : Nat) (h : Heap) (K : Out → Nat → List V → Heap → Prop) : (codeP Tryd.Y (Tryd.Y.loc 22) 100 (pre ((post (flat (bodyOf Tryd.f22))).drop 1)) ⟨mk 42 (([1] : List Nat).zip [V.ts cs1 n1 none]), [], h⟩ (VQ [31, 32, 33] K)) =
  (K Out.normal 42 [V.ts cs1 n1 none, V.i IntKind.i64 (↑n1 : Int), V.i IntKind.i64 (0 : Int)] h) := by kernel_rfl
theorem f22_3 (cs1 : List V) (n1 : Nat) (x33 : Int) (h : Heap) (K : Out → Nat → List V → Heap → Prop) : (codeP Tryd.Y (Tryd.Y.loc 22) 100 ((flat (loopB (post ((post (flat (bodyOf Tryd.f22))).drop 1))))) ⟨mk 42 (([31, 32, 33] : List Nat).zip [V.ts cs1 n1 none, V.i IntKind.i64 (↑n1 : Int), V.i IntKind.i64 x33]), [], h⟩ (VQ [4, 31, 32, 33] K)) =
  (If (ltI x33 (↑n1 : Int))
  (((0 : Int) ≤ x33 ∧ x33 < (↑n1 : Int)) ∧
 ∃ (b : Bool),
 ∃ (b_1 : Bool),
 ∃ (b_2 : Bool),
 ∃ (n : Int),
 ∃ (n_1 : Int),
 ∃ (s : List UInt8),
 ∃ (cs : List V),
 ∃ (l : Nat),
 ∃ (c : Option Nat),
 ∃ (s_1 : List UInt8),
 ∃ (cs_1 : List V),
 ∃ (l_1 : Nat),
 ∃ (c_1 : Option Nat),
 ∃ (s_2 : List UInt8),
 ∃ (s_3 : List UInt8),
 takeX 11 (List.drop (x33.toNat * (11 : Nat)) cs1) =
 some
 [V.b b, V.b b_1, V.b b_2, V.i IntKind.i64 n, V.i IntKind.i64 n_1, V.s s,
 V.ts cs l c, V.s s_1, V.ts cs_1 l_1 c_1, V.s s_2, V.s s_3] ∧
 If (ltI (20 : Int) (↑s_3.length : Int))
 (K Out.ret 42
 [V.b false, V.ts cs1 n1 none, V.i IntKind.i64 (↑n1 : Int), V.i IntKind.i64 x33]
 h)
 (K Out.normal 42
 [V.undef, V.ts cs1 n1 none, V.i IntKind.i64 (↑n1 : Int),
 V.i IntKind.i64 (IntKind.i64.wrap (x33 + (1 : Int)))]
 h))
  (K (Out.exit 2) 42 [V.undef, V.ts cs1 n1 none, V.i IntKind.i64 (↑n1 : Int), V.i IntKind.i64 x33]
 h)) := by kernel_rfl
theorem f22_4  (h : Heap) (K : Out → Nat → List V → Heap → Prop) : (codeP Tryd.Y (Tryd.Y.loc 22) 100 (((post ((post (flat (bodyOf Tryd.f22))).drop 1)).drop 1)) ⟨mk 42 (([] : List Nat).zip []), [], h⟩ (VQ [4] K)) =
  (K Out.ret 42 [V.b true] h) := by kernel_rfl
theorem f23_0 (cs0 : List V) (n0 : Nat) (h : Heap) (K : Out → Nat → List V → Heap → Prop) : (codeP Tryd.Y (Tryd.Y.loc 23) 100 (pre (flat (bodyOf Tryd.f23))) ⟨(V.ts cs0 n0 none :: List.replicate 24 .undef), [], h⟩ (VQ [2, 8, 9, 10] K)) =
  (If (ltI (20 : Int) (↑n0 : Int)) (K Out.ret 25 [V.b false, V.undef, V.undef, V.undef] h)
  (K Out.normal 25 [V.b false, V.ts cs0 n0 none, V.i IntKind.i64 (↑n0 : Int), V.i IntKind.i64 (0 : Int)] h)) := by kernel_rfl
theorem f23_1 (cs0 : List V) (n0 : Nat) (x10 : Int) (h : Heap) (K : Out → Nat → List V → Heap → Prop) : (codeP Tryd.Y (Tryd.Y.loc 23) 100 ((flat (loopB (post (flat (bodyOf Tryd.f23)))))) ⟨mk 25 (([8, 9, 10] : List Nat).zip [V.ts cs0 n0 none, V.i IntKind.i64 (↑n0 : Int), V.i IntKind.i64 x10]), [], h⟩ (VQ [2, 8, 9, 10] K)) =
  (If (ltI x10 (↑n0 : Int))
  (((0 : Int) ≤ x10 ∧ x10 < (↑n0 : Int)) ∧
 ∃ (s : List UInt8),
 ∃ (s_1 : List UInt8),
 takeX 2 (List.drop (x10.toNat * (2 : Nat)) cs0) = some [V.s s, V.s s_1] ∧
 If (ltI (60 : Int) (↑s.length : Int))
 (K Out.ret 25 [V.b false, V.ts cs0 n0 none, V.i IntKind.i64 (↑n0 : Int), V.i IntKind.i64 x10] h)
 (If (ltI (60 : Int) (↑s_1.length : Int))
 (K Out.ret 25 [V.b false, V.ts cs0 n0 none, V.i IntKind.i64 (↑n0 : Int), V.i IntKind.i64 x10] h)
 (K Out.normal 25
 [V.undef, V.ts cs0 n0 none, V.i IntKind.i64 (↑n0 : Int),
 V.i IntKind.i64 (IntKind.i64.wrap (x10 + (1 : Int)))]
 h)))
  (K (Out.exit 0) 25 [V.undef, V.ts cs0 n0 none, V.i IntKind.i64 (↑n0 : Int), V.i IntKind.i64 x10]
 h)) := by kernel_rfl
theorem f23_2  (h : Heap) (K : Out → Nat → List V → Heap → Prop) : (codeP Tryd.Y (Tryd.Y.loc 23) 100 (((post (flat (bodyOf Tryd.f23))).drop 1)) ⟨mk 25 (([] : List Nat).zip []), [], h⟩ (VQ [2] K)) =
  (K Out.ret 25 [V.b true] h) := by kernel_rfl
theorem f25_0 (b0On : Bool) (b0Shut : Bool) (b0Eof : Bool) (x0Place : Int) (x0Clock : Int) (s0Typed : List UInt8) (cs0Lines : List V) (n0Lines : Nat) (s0Fly : List UInt8) (cs0Ages : List V) (n0Ages : Nat) (s0Ready : List UInt8) (s0Buffer : List UInt8) (h : Heap) (K : Out → Nat → List V → Heap → Prop) : (codeP Tryd.Y (Tryd.Y.loc 25) 100 (pre (flat (bodyOf Tryd.f25))) ⟨(V.agg [V.b b0On, V.b b0Shut, V.b b0Eof, V.i IntKind.i64 x0Place, V.i IntKind.i64 x0Clock, V.s s0Typed, V.ts cs0Lines n0Lines none, V.s s0Fly, V.ts cs0Ages n0Ages none, V.s s0Ready, V.s s0Buffer] :: List.replicate 66 .undef), [], h⟩ (VQ [1, 2, 47, 48, 49] K)) =
  (If (ltI (100 : Int) (↑s0Typed.length : Int))
  (K Out.ret 67
 [V.lb
 [V.b b0On, V.b b0Shut, V.b b0Eof, V.i IntKind.i64 x0Place, V.i IntKind.i64 x0Clock, V.s s0Typed,
 V.ts cs0Lines n0Lines none, V.s s0Fly, V.ts cs0Ages n0Ages none, V.s s0Ready, V.s s0Buffer],
 V.b false, V.undef, V.undef, V.undef]
 h)
  (If (ltI (40 : Int) (↑s0Fly.length : Int))
 (K Out.ret 67
 [V.lb
 [V.b b0On, V.b b0Shut, V.b b0Eof, V.i IntKind.i64 x0Place, V.i IntKind.i64 x0Clock, V.s s0Typed,
 V.ts cs0Lines n0Lines none, V.s s0Fly, V.ts cs0Ages n0Ages none, V.s s0Ready, V.s s0Buffer],
 V.b false, V.undef, V.undef, V.undef]
 h)
 (If (ltI (100 : Int) (↑s0Ready.length : Int))
 (K Out.ret 67
 [V.lb
 [V.b b0On, V.b b0Shut, V.b b0Eof, V.i IntKind.i64 x0Place, V.i IntKind.i64 x0Clock, V.s s0Typed,
 V.ts cs0Lines n0Lines none, V.s s0Fly, V.ts cs0Ages n0Ages none, V.s s0Ready, V.s s0Buffer],
 V.b false, V.undef, V.undef, V.undef]
 h)
 (If (ltI (100 : Int) (↑s0Buffer.length : Int))
 (K Out.ret 67
 [V.lb
 [V.b b0On, V.b b0Shut, V.b b0Eof, V.i IntKind.i64 x0Place, V.i IntKind.i64 x0Clock, V.s s0Typed,
 V.ts cs0Lines n0Lines none, V.s s0Fly, V.ts cs0Ages n0Ages none, V.s s0Ready, V.s s0Buffer],
 V.b false, V.undef, V.undef, V.undef]
 h)
 (If (ltI (6 : Int) (↑n0Lines : Int))
 (K Out.ret 67
 [V.lb
 [V.b b0On, V.b b0Shut, V.b b0Eof, V.i IntKind.i64 x0Place, V.i IntKind.i64 x0Clock, V.s s0Typed,
 V.ts cs0Lines n0Lines none, V.s s0Fly, V.ts cs0Ages n0Ages none, V.s s0Ready, V.s s0Buffer],
 V.b false, V.undef, V.undef, V.undef]
 h)
 (If (ltI (40 : Int) (↑n0Ages : Int))
 (K Out.ret 67
 [V.lb
 [V.b b0On, V.b b0Shut, V.b b0Eof, V.i IntKind.i64 x0Place, V.i IntKind.i64 x0Clock, V.s s0Typed,
 V.ts cs0Lines n0Lines none, V.s s0Fly, V.ts cs0Ages n0Ages none, V.s s0Ready, V.s s0Buffer],
 V.b false, V.undef, V.undef, V.undef]
 h)
 (If (ltI (1152921504606846976 : Int) x0Clock)
 (K Out.ret 67
 [V.lb
 [V.b b0On, V.b b0Shut, V.b b0Eof, V.i IntKind.i64 x0Place, V.i IntKind.i64 x0Clock, V.s s0Typed,
 V.ts cs0Lines n0Lines none, V.s s0Fly, V.ts cs0Ages n0Ages none, V.s s0Ready, V.s s0Buffer],
 V.b false, V.undef, V.undef, V.undef]
 h)
 (K Out.normal 67
 [V.lb
 [V.b b0On, V.b b0Shut, V.b b0Eof, V.i IntKind.i64 x0Place, V.i IntKind.i64 x0Clock, V.s s0Typed,
 V.ts cs0Lines n0Lines none, V.s s0Fly, V.ts cs0Ages n0Ages none, V.s s0Ready, V.s s0Buffer],
 V.b false, V.ts cs0Lines n0Lines none, V.i IntKind.i64 (↑n0Lines : Int), V.i IntKind.i64 (0 : Int)]
 h)))))))) := by kernel_rfl
theorem f25_1 (b0On : Bool) (b0Shut : Bool) (b0Eof : Bool) (x0Place : Int) (x0Clock : Int) (s0Typed : List UInt8) (cs0Lines : List V) (n0Lines : Nat) (s0Fly : List UInt8) (cs0Ages : List V) (n0Ages : Nat) (s0Ready : List UInt8) (s0Buffer : List UInt8) (x49 : Int) (h : Heap) (K : Out → Nat → List V → Heap → Prop) : (codeP Tryd.Y (Tryd.Y.loc 25) 100 ((flat (loopB (post (flat (bodyOf Tryd.f25)))))) ⟨mk 67 (([1, 47, 48, 49] : List Nat).zip [V.lb [V.b b0On, V.b b0Shut, V.b b0Eof, V.i IntKind.i64 x0Place, V.i IntKind.i64 x0Clock, V.s s0Typed, V.ts cs0Lines n0Lines none, V.s s0Fly, V.ts cs0Ages n0Ages none, V.s s0Ready, V.s s0Buffer], V.ts cs0Lines n0Lines none, V.i IntKind.i64 (↑n0Lines : Int), V.i IntKind.i64 x49]), [], h⟩ (VQ [1, 2, 47, 48, 49] K)) =
  (If (ltI x49 (↑n0Lines : Int))
  (((0 : Int) ≤ x49 ∧ x49 < (↑n0Lines : Int)) ∧
 ∃ (s : List UInt8),
 takeX 1 (List.drop (x49.toNat * (1 : Nat)) cs0Lines) = some [V.s s] ∧
 If (ltI (60 : Int) (↑s.length : Int))
 (K Out.ret 67
 [V.lb
 [V.b b0On, V.b b0Shut, V.b b0Eof, V.i IntKind.i64 x0Place, V.i IntKind.i64 x0Clock, V.s s0Typed,
 V.ts cs0Lines n0Lines none, V.s s0Fly, V.ts cs0Ages n0Ages none, V.s s0Ready, V.s s0Buffer],
 V.b false, V.ts cs0Lines n0Lines none, V.i IntKind.i64 (↑n0Lines : Int), V.i IntKind.i64 x49]
 h)
 (K Out.normal 67
 [V.lb
 [V.b b0On, V.b b0Shut, V.b b0Eof, V.i IntKind.i64 x0Place, V.i IntKind.i64 x0Clock, V.s s0Typed,
 V.ts cs0Lines n0Lines none, V.s s0Fly, V.ts cs0Ages n0Ages none, V.s s0Ready, V.s s0Buffer],
 V.undef, V.ts cs0Lines n0Lines none, V.i IntKind.i64 (↑n0Lines : Int),
 V.i IntKind.i64 (IntKind.i64.wrap (x49 + (1 : Int)))]
 h))
  (K (Out.exit 0) 67
 [V.lb
 [V.b b0On, V.b b0Shut, V.b b0Eof, V.i IntKind.i64 x0Place, V.i IntKind.i64 x0Clock, V.s s0Typed,
 V.ts cs0Lines n0Lines none, V.s s0Fly, V.ts cs0Ages n0Ages none, V.s s0Ready, V.s s0Buffer],
 V.undef, V.ts cs0Lines n0Lines none, V.i IntKind.i64 (↑n0Lines : Int), V.i IntKind.i64 x49]
 h)) := by kernel_rfl
theorem f25_2 (b0On : Bool) (b0Shut : Bool) (b0Eof : Bool) (x0Place : Int) (x0Clock : Int) (cs0Lines : List V) (n0Lines : Nat) (cs0Ages : List V) (n0Ages : Nat) (s1_5 : List UInt8) (s1_7 : List UInt8) (s1_9 : List UInt8) (s1_10 : List UInt8) (h : Heap) (K : Out → Nat → List V → Heap → Prop) : (codeP Tryd.Y (Tryd.Y.loc 25) 100 (pre ((post (flat (bodyOf Tryd.f25))).drop 1)) ⟨mk 67 (([1] : List Nat).zip [V.lb [V.b b0On, V.b b0Shut, V.b b0Eof, V.i IntKind.i64 x0Place, V.i IntKind.i64 x0Clock, V.s s1_5, V.ts cs0Lines n0Lines none, V.s s1_7, V.ts cs0Ages n0Ages none, V.s s1_9, V.s s1_10]]), [], h⟩ (VQ [58, 59, 60] K)) =
  (K Out.normal 67 [V.ts cs0Ages n0Ages none, V.i IntKind.i64 (↑n0Ages : Int), V.i IntKind.i64 (0 : Int)] h) := by kernel_rfl
theorem f25_3 (cs0Ages : List V) (n0Ages : Nat) (x60 : Int) (h : Heap) (K : Out → Nat → List V → Heap → Prop) : (codeP Tryd.Y (Tryd.Y.loc 25) 100 ((flat (loopB (post ((post (flat (bodyOf Tryd.f25))).drop 1))))) ⟨mk 67 (([58, 59, 60] : List Nat).zip [V.ts cs0Ages n0Ages none, V.i IntKind.i64 (↑n0Ages : Int), V.i IntKind.i64 x60]), [], h⟩ (VQ [2, 58, 59, 60] K)) =
  (If (ltI x60 (↑n0Ages : Int))
  (((0 : Int) ≤ x60 ∧ x60 < (↑n0Ages : Int)) ∧
 ∃ (n : Int),
 takeX 1 (List.drop (x60.toNat * (1 : Nat)) cs0Ages) = some [V.i IntKind.i64 n] ∧
 If (ltI (1152921504606846976 : Int) n)
 (K Out.ret 67
 [V.b false, V.ts cs0Ages n0Ages none, V.i IntKind.i64 (↑n0Ages : Int), V.i IntKind.i64 x60] h)
 (K Out.normal 67
 [V.undef, V.ts cs0Ages n0Ages none, V.i IntKind.i64 (↑n0Ages : Int),
 V.i IntKind.i64 (IntKind.i64.wrap (x60 + (1 : Int)))]
 h))
  (K (Out.exit 2) 67
 [V.undef, V.ts cs0Ages n0Ages none, V.i IntKind.i64 (↑n0Ages : Int), V.i IntKind.i64 x60] h)) := by kernel_rfl
theorem f25_4  (h : Heap) (K : Out → Nat → List V → Heap → Prop) : (codeP Tryd.Y (Tryd.Y.loc 25) 100 (((post ((post (flat (bodyOf Tryd.f25))).drop 1)).drop 1)) ⟨mk 67 (([] : List Nat).zip []), [], h⟩ (VQ [2] K)) =
  (K Out.ret 67 [V.b true] h) := by kernel_rfl
theorem f29_0 (cs0 : List V) (n0 : Nat) (h : Heap) (K : Out → Nat → List V → Heap → Prop) : (codeP Tryd.Y (Tryd.Y.loc 29) 100 (pre (flat (bodyOf Tryd.f29))) ⟨(V.ts cs0 n0 none :: List.replicate 41 .undef), [], h⟩ (VQ [2, 3, 4, 12, 13, 14] K)) =
  (∃ (b : Bool),
  (PCon Tryd.Y (40 : Nat) [V.ts cs0 n0 none] fun (v : V) => v = V.b b) ∧
 If (!b) (K Out.ret 42 [V.s ([] : List UInt8), V.i IntKind.i64 (5 : Int), V.undef, V.undef, V.undef, V.undef] h)
 (Con Tryd.Y (41 : Nat) [V.p (some (h.nx, 0)), V.i IntKind.u8 (34 : Int)]
 (h.pushT (Tryd.Y.tag (86 : Nat)) (YObj.arr [V.p none, V.sl none (0 : Nat) (some (0 : Nat)) (0 : Nat)] true))
 fun (v : V) (h' : Heap) =>
 v = V.nilifc ∧
 K Out.normal 42
 [V.s ([] : List UInt8), V.i IntKind.i64 (0 : Int), V.p (some (h.nx, 0)), V.ts cs0 n0 none,
 V.i IntKind.i64 (↑n0 : Int), V.i IntKind.i64 (0 : Int)]
 h' ∨
 ∃ (t : TypeId),
 ∃ (v_1 : V),
 v = V.ifc t v_1 ∧
 K Out.normal 42
 [V.s ([] : List UInt8), V.i IntKind.i64 (0 : Int), V.p (some (h.nx, 0)), V.ts cs0 n0 none,
 V.i IntKind.i64 (↑n0 : Int), V.i IntKind.i64 (0 : Int)]
 h')) := by kernel_rfl
theorem f29_1 (cs0 : List V) (n0 : Nat) (id4 : Nat) (x14 : Int) (h : Heap) (K : Out → Nat → List V → Heap → Prop) : (codeP Tryd.Y (Tryd.Y.loc 29) 100 (pre (flat (loopB (post (flat (bodyOf Tryd.f29)))))) ⟨mk 42 (([4, 12, 13, 14] : List Nat).zip [V.p (some (id4, 0)), V.ts cs0 n0 none, V.i IntKind.i64 (↑n0 : Int), V.i IntKind.i64 x14]), [], h⟩ (VQ [4, 12, 13, 14] K)) =
  (If (ltI x14 (↑n0 : Int))
  (K Out.normal 42
 [V.p (some (id4, 0)), V.ts cs0 n0 none, V.i IntKind.i64 (↑n0 : Int), V.i IntKind.i64 x14] h)
  (K (Out.exit 0) 42
 [V.p (some (id4, 0)), V.ts cs0 n0 none, V.i IntKind.i64 (↑n0 : Int), V.i IntKind.i64 x14] h)) := by kernel_rfl
theorem f29_2 (cs0 : List V) (n0 : Nat) (id4 : Nat) (x14 : Int) (h : Heap) (K : Out → Nat → List V → Heap → Prop) : (codeP Tryd.Y (Tryd.Y.loc 29) 100 (pre (flat (blockB (post (flat (loopB (post (flat (bodyOf Tryd.f29))))))))) ⟨mk 42 (([4, 12, 13, 14] : List Nat).zip [V.p (some (id4, 0)), V.ts cs0 n0 none, V.i IntKind.i64 (↑n0 : Int), V.i IntKind.i64 x14]), [], h⟩ (VQ [4, 6, 12, 13, 14, 28, 29] K)) =
  (((0 : Int) ≤ x14 ∧ x14 < (↑n0 : Int)) ∧
  ∃ (s : List UInt8),
 ∃ (s_1 : List UInt8),
 takeX 2 (List.drop (x14.toNat * (2 : Nat)) cs0) = some [V.s s, V.s s_1] ∧
 If (!s == ([] : List UInt8))
 (([36, 123] : List UInt8).length + s.length ≤ 1152921504606846976 ∧
 (([36, 123] : List UInt8) ++ s).length + ([125] : List UInt8).length ≤
 1152921504606846976 ∧
 Con Tryd.Y (35 : Nat)
 [V.p (some (id4, 0)),
 V.s (([36, 123] : List UInt8) ++ s ++ ([125] : List UInt8))]
 h fun (v : V) (h' : Heap) =>
 ∃ (n : Int),
 v = V.tup [V.i IntKind.i64 n, V.nilifc] ∧
 K Out.normal 42
 [V.p (some (id4, 0)), V.lb [V.s s, V.s s_1], V.ts cs0 n0 none,
 V.i IntKind.i64 (↑n0 : Int), V.i IntKind.i64 x14, V.i IntKind.i64 (↑s_1.length : Int),
 V.i IntKind.i64 (0 : Int)]
 h' ∨
 ∃ (t : TypeId),
 ∃ (v_1 : V),
 v = V.tup [V.i IntKind.i64 n, V.ifc t v_1] ∧
 K Out.normal 42
 [V.p (some (id4, 0)), V.lb [V.s s, V.s s_1], V.ts cs0 n0 none,
 V.i IntKind.i64 (↑n0 : Int), V.i IntKind.i64 x14, V.i IntKind.i64 (↑s_1.length : Int),
 V.i IntKind.i64 (0 : Int)]
 h')
 (K Out.normal 42
 [V.p (some (id4, 0)), V.lb [V.s s, V.s s_1], V.ts cs0 n0 none, V.i IntKind.i64 (↑n0 : Int),
 V.i IntKind.i64 x14, V.i IntKind.i64 (↑s_1.length : Int), V.i IntKind.i64 (0 : Int)]
 h)) := by kernel_rfl
theorem f29_3 (cs0 : List V) (n0 : Nat) (id4 : Nat) (x14 : Int) (s6_0z2 : List UInt8) (s6_1z2 : List UInt8) (x28z2 : Int) (x29z4 : Int) (h : Heap) (K : Out → Nat → List V → Heap → Prop) : (codeP Tryd.Y (Tryd.Y.loc 29) 100 ((flat (loopB (post (flat (blockB (post (flat (loopB (post (flat (bodyOf Tryd.f29)))))))))))) ⟨mk 42 (([4, 6, 12, 13, 14, 28, 29] : List Nat).zip [V.p (some (id4, 0)), V.lb [V.s s6_0z2, V.s s6_1z2], V.ts cs0 n0 none, V.i IntKind.i64 (↑n0 : Int), V.i IntKind.i64 x14, V.i IntKind.i64 x28z2, V.i IntKind.i64 x29z4]), [], h⟩ (VQ [4, 6, 12, 13, 14, 28, 29] K)) =
  (If (ltI x29z4 x28z2)
  (∃ (c : UInt8),
 ((0 : Int) ≤ x29z4 ∧ s6_1z2[x29z4.toNat]? = some c) ∧
 ∃ (s : List UInt8),
 (PCon Tryd.Y (42 : Nat) [V.i IntKind.u8 (↑c.toNat : Int)] fun (v : V) => v = V.s s) ∧
 Con Tryd.Y (35 : Nat) [V.p (some (id4, 0)), V.s s] h fun (v : V) (h' : Heap) =>
 ∃ (n : Int),
 v = V.tup [V.i IntKind.i64 n, V.nilifc] ∧
 K Out.normal 42
 [V.p (some (id4, 0)), V.lb [V.s s6_0z2, V.s s6_1z2], V.ts cs0 n0 none,
 V.i IntKind.i64 (↑n0 : Int), V.i IntKind.i64 x14, V.i IntKind.i64 x28z2,
 V.i IntKind.i64 (IntKind.i64.wrap (x29z4 + (1 : Int)))]
 h' ∨
 ∃ (t : TypeId),
 ∃ (v_1 : V),
 v = V.tup [V.i IntKind.i64 n, V.ifc t v_1] ∧
 K Out.normal 42
 [V.p (some (id4, 0)), V.lb [V.s s6_0z2, V.s s6_1z2], V.ts cs0 n0 none,
 V.i IntKind.i64 (↑n0 : Int), V.i IntKind.i64 x14, V.i IntKind.i64 x28z2,
 V.i IntKind.i64 (IntKind.i64.wrap (x29z4 + (1 : Int)))]
 h')
  (K (Out.exit 2) 42
 [V.p (some (id4, 0)), V.lb [V.s s6_0z2, V.s s6_1z2], V.ts cs0 n0 none, V.i IntKind.i64 (↑n0 : Int),
 V.i IntKind.i64 x14, V.i IntKind.i64 x28z2, V.i IntKind.i64 x29z4]
 h)) := by kernel_rfl
theorem f29_4 (cs0 : List V) (n0 : Nat) (id4 : Nat) (x14 : Int) (h : Heap) (K : Out → Nat → List V → Heap → Prop) : (codeP Tryd.Y (Tryd.Y.loc 29) 100 (((post (flat (loopB (post (flat (bodyOf Tryd.f29)))))).drop 1)) ⟨mk 42 (([4, 12, 13, 14] : List Nat).zip [V.p (some (id4, 0)), V.ts cs0 n0 none, V.i IntKind.i64 (↑n0 : Int), V.i IntKind.i64 x14]), [], h⟩ (VQ [4, 12, 13, 14] K)) =
  (K Out.normal 42
  [V.p (some (id4, 0)), V.ts cs0 n0 none, V.i IntKind.i64 (↑n0 : Int),
 V.i IntKind.i64 (IntKind.i64.wrap (x14 + (1 : Int)))]
  h) := by kernel_rfl
theorem f29_5 (id4 : Nat) (h : Heap) (K : Out → Nat → List V → Heap → Prop) : (codeP Tryd.Y (Tryd.Y.loc 29) 100 (((post (flat (bodyOf Tryd.f29))).drop 1)) ⟨mk 42 (([4] : List Nat).zip [V.p (some (id4, 0))]), [], h⟩ (VQ [2, 3] K)) =
  (Con Tryd.Y (41 : Nat) [V.p (some (id4, 0)), V.i IntKind.u8 (34 : Int)] h fun (v : V) (h' : Heap) =>
  (v = V.nilifc ∧
 Con Tryd.Y (36 : Nat) [V.p (some (id4, 0))] h' fun (v : V) (h' : Heap) =>
 ∃ (s : List UInt8), v = V.s s ∧ K Out.ret 42 [V.s s, V.i IntKind.i64 (0 : Int)] h') ∨
 ∃ (t : TypeId),
 ∃ (v_1 : V),
 v = V.ifc t v_1 ∧
 Con Tryd.Y (36 : Nat) [V.p (some (id4, 0))] h' fun (v : V) (h' : Heap) =>
 ∃ (s : List UInt8), v = V.s s ∧ K Out.ret 42 [V.s s, V.i IntKind.i64 (0 : Int)] h') := by kernel_rfl
theorem f30_0 (cs0 : List V) (n0 : Nat) (h : Heap) (K : Out → Nat → List V → Heap → Prop) : (codeP Tryd.Y (Tryd.Y.loc 30) 100 (pre (flat (bodyOf Tryd.f30))) ⟨(V.ts cs0 n0 none :: List.replicate 48 .undef), [], h⟩ (VQ [0, 3, 4] K)) =
  (K Out.normal 49 [V.ts cs0 n0 none, V.s ([34] : List UInt8), V.i IntKind.i64 (0 : Int)] h) := by kernel_rfl
theorem f30_1 (cs0 : List V) (n0 : Nat) (s3z3 : List UInt8) (x4 : Int) (h : Heap) (K : Out → Nat → List V → Heap → Prop) : (codeP Tryd.Y (Tryd.Y.loc 30) 100 (pre (flat (loopB (post (flat (bodyOf Tryd.f30)))))) ⟨mk 49 (([0, 3, 4] : List Nat).zip [V.ts cs0 n0 none, V.s s3z3, V.i IntKind.i64 x4]), [], h⟩ (VQ [0, 3, 4] K)) =
  (If (ltI x4 (↑n0 : Int)) (K Out.normal 49 [V.ts cs0 n0 none, V.s s3z3, V.i IntKind.i64 x4] h)
  (K (Out.exit 0) 49 [V.ts cs0 n0 none, V.s s3z3, V.i IntKind.i64 x4] h)) := by kernel_rfl
theorem f30_2 (cs0 : List V) (n0 : Nat) (s3z3 : List UInt8) (x4 : Int) (h : Heap) (K : Out → Nat → List V → Heap → Prop) : (codeP Tryd.Y (Tryd.Y.loc 30) 100 (pre (flat (blockB (post (flat (loopB (post (flat (bodyOf Tryd.f30))))))))) ⟨mk 49 (([0, 3, 4] : List Nat).zip [V.ts cs0 n0 none, V.s s3z3, V.i IntKind.i64 x4]), [], h⟩ (VQ [0, 3, 4, 5] K)) =
  (((0 : Int) ≤ x4 ∧ x4 < (↑n0 : Int)) ∧
  ∃ (s : List UInt8),
 takeX 1 (List.drop (0 : Nat) (List.drop (x4.toNat * (2 : Nat)) cs0)) = some [V.s s] ∧
 If (!s == ([] : List UInt8))
 (s3z3.length + ([36, 123] : List UInt8).length ≤ 1152921504606846976 ∧
 ((0 : Int) ≤ x4 ∧ x4 < (↑n0 : Int)) ∧
 ∃ (s : List UInt8),
 takeX 1 (List.drop (0 : Nat) (List.drop (x4.toNat * (2 : Nat)) cs0)) = some [V.s s] ∧
 (s3z3 ++ ([36, 123] : List UInt8)).length + s.length ≤ 1152921504606846976 ∧
 (s3z3 ++ ([36, 123] : List UInt8) ++ s).length + ([125] : List UInt8).length ≤
 1152921504606846976 ∧
 K Out.normal 49
 [V.ts cs0 n0 none,
 V.s (s3z3 ++ ([36, 123] : List UInt8) ++ s ++ ([125] : List UInt8)),
 V.i IntKind.i64 x4, V.i IntKind.i64 (0 : Int)]
 h)
 (K Out.normal 49 [V.ts cs0 n0 none, V.s s3z3, V.i IntKind.i64 x4, V.i IntKind.i64 (0 : Int)] h)) := by kernel_rfl
theorem f30_3 (cs0 : List V) (n0 : Nat) (x4 : Int) (s3z4 : List UInt8) (x5z2 : Int) (h : Heap) (K : Out → Nat → List V → Heap → Prop) : (codeP Tryd.Y (Tryd.Y.loc 30) 100 ((flat (loopB (post (flat (blockB (post (flat (loopB (post (flat (bodyOf Tryd.f30)))))))))))) ⟨mk 49 (([0, 3, 4, 5] : List Nat).zip [V.ts cs0 n0 none, V.s s3z4, V.i IntKind.i64 x4, V.i IntKind.i64 x5z2]), [], h⟩ (VQ [0, 3, 4, 5] K)) =
  (((0 : Int) ≤ x4 ∧ x4 < (↑n0 : Int)) ∧
  ∃ (s : List UInt8),
 takeX 1 (List.drop (1 : Nat) (List.drop (x4.toNat * (2 : Nat)) cs0)) = some [V.s s] ∧
 If (ltI x5z2 (↑s.length : Int))
 (((0 : Int) ≤ x4 ∧ x4 < (↑n0 : Int)) ∧
 ∃ (s : List UInt8),
 takeX 1 (List.drop (1 : Nat) (List.drop (x4.toNat * (2 : Nat)) cs0)) = some [V.s s] ∧
 ∃ (c : UInt8),
 ((0 : Int) ≤ x5z2 ∧ s[x5z2.toNat]? = some c) ∧
 ∃ (s : List UInt8),
 (PCon Tryd.Y (43 : Nat) [V.i IntKind.u8 (↑c.toNat : Int)] fun (v : V) => v = V.s s) ∧
 s3z4.length + s.length ≤ 1152921504606846976 ∧
 K Out.normal 49
 [V.ts cs0 n0 none, V.s (s3z4 ++ s), V.i IntKind.i64 x4,
 V.i IntKind.i64 (IntKind.i64.wrap (x5z2 + (1 : Int)))]
 h)
 (K (Out.exit 2) 49 [V.ts cs0 n0 none, V.s s3z4, V.i IntKind.i64 x4, V.i IntKind.i64 x5z2] h)) := by kernel_rfl
theorem f30_4 (cs0 : List V) (n0 : Nat) (x4 : Int) (s3z5 : List UInt8) (h : Heap) (K : Out → Nat → List V → Heap → Prop) : (codeP Tryd.Y (Tryd.Y.loc 30) 100 (((post (flat (loopB (post (flat (bodyOf Tryd.f30)))))).drop 1)) ⟨mk 49 (([0, 3, 4] : List Nat).zip [V.ts cs0 n0 none, V.s s3z5, V.i IntKind.i64 x4]), [], h⟩ (VQ [0, 3, 4] K)) =
  (K Out.normal 49 [V.ts cs0 n0 none, V.s s3z5, V.i IntKind.i64 (IntKind.i64.wrap (x4 + (1 : Int)))] h) := by kernel_rfl
theorem f30_5 (s3z6 : List UInt8) (h : Heap) (K : Out → Nat → List V → Heap → Prop) : (codeP Tryd.Y (Tryd.Y.loc 30) 100 (((post (flat (bodyOf Tryd.f30))).drop 1)) ⟨mk 49 (([3] : List Nat).zip [V.s s3z6]), [], h⟩ (VQ [2] K)) =
  (s3z6.length + ([34] : List UInt8).length ≤ 1152921504606846976 ∧
  K Out.ret 49 [V.s (s3z6 ++ ([34] : List UInt8))] h) := by kernel_rfl
theorem f32_0 (cs0 : List V) (n0 : Nat) (x1 : Int) (h : Heap) (K : Out → Nat → List V → Heap → Prop) : (codeP Tryd.Y (Tryd.Y.loc 32) 100 ((flat (bodyOf Tryd.f32))) ⟨(V.ts cs0 n0 none :: V.i IntKind.i64 x1 :: List.replicate 7 .undef), [], h⟩ (VQ [4] K)) =
  (∃ (n : Int),
  (PCon Tryd.Y (45 : Nat) [V.ts cs0 n0 none, V.i IntKind.i64 x1] fun (v : V) => v = V.i IntKind.i64 n) ∧
 K Out.ret 9 [V.b (leI (0 : Int) n)] h) := by kernel_rfl
theorem f38_0 (x0Kind : Int) (x0N : Int) (cs0Choices : List V) (n0Choices : Nat) (h : Heap) (K : Out → Nat → List V → Heap → Prop) : (codeP Tryd.Y (Tryd.Y.loc 38) 100 (pre (flat (bodyOf Tryd.f38))) ⟨(V.agg [V.i IntKind.i64 x0Kind, V.i IntKind.i64 x0N, V.ts cs0Choices n0Choices none] :: List.replicate 63 .undef), [], h⟩ (VQ [1, 3, 12, 17] K)) =
  (K Out.normal 64
  [V.lb [V.i IntKind.i64 x0Kind, V.i IntKind.i64 x0N, V.ts cs0Choices n0Choices none], V.i IntKind.i64 (0 : Int),
 V.undef, V.undef]
  h) := by kernel_rfl
theorem f38_1 (x0Kind : Int) (x0N : Int) (cs0Choices : List V) (n0Choices : Nat) (x3 : Int) (v12 : V) (v17 : V) (h : Heap) (K : Out → Nat → List V → Heap → Prop) : (codeP Tryd.Y (Tryd.Y.loc 38) 100 ((flat (loopB (post (flat (bodyOf Tryd.f38)))))) ⟨mk 64 (([1, 3, 12, 17] : List Nat).zip [V.lb [V.i IntKind.i64 x0Kind, V.i IntKind.i64 x0N, V.ts cs0Choices n0Choices none], V.i IntKind.i64 x3, v12, v17]), [], h⟩ (VQ [1, 2, 3, 8, 12, 17] K)) =
  (If (ltI x3 (↑n0Choices : Int))
  (((0 : Int) ≤ x3 ∧ x3 < (↑n0Choices : Int)) ∧
 ∃ (n : Int),
 ∃ (n_1 : Int),
 ∃ (n_2 : Int),
 takeX 3 (List.drop (x3.toNat * (3 : Nat)) cs0Choices) =
 some [V.i IntKind.i64 n, V.i IntKind.i64 n_1, V.i IntKind.i64 n_2] ∧
 ∃ (b : Bool),
 (PCon Tryd.Y (52 : Nat) [V.agg [V.i IntKind.i64 n, V.i IntKind.i64 n_1, V.i IntKind.i64 n_2]]
 fun (v : V) => v = V.b b) ∧
 If (!b)
 (K Out.ret 64
 [V.lb [V.i IntKind.i64 x0Kind, V.i IntKind.i64 x0N, V.ts cs0Choices n0Choices none], V.b false,
 V.i IntKind.i64 x3, V.i IntKind.i64 (↑n0Choices : Int), V.rf, V.b b]
 h)
 (K Out.normal 64
 [V.lb [V.i IntKind.i64 x0Kind, V.i IntKind.i64 x0N, V.ts cs0Choices n0Choices none], V.undef,
 V.i IntKind.i64 (IntKind.i64.wrap (x3 + (1 : Int))), V.i IntKind.i64 (↑n0Choices : Int), V.rf,
 V.b b]
 h))
  (K (Out.exit 0) 64
 [V.lb [V.i IntKind.i64 x0Kind, V.i IntKind.i64 x0N, V.ts cs0Choices n0Choices none], V.undef, V.i IntKind.i64 x3,
 V.i IntKind.i64 (↑n0Choices : Int), v12, v17]
 h)) := by kernel_rfl
theorem f38_2 (x0Kind : Int) (x0N : Int) (cs0Choices : List V) (n0Choices : Nat) (x3 : Int) (v12 : V) (v17 : V) (h : Heap) (K : Out → Nat → List V → Heap → Prop) : (codeP Tryd.Y (Tryd.Y.loc 38) 100 (((post (flat (bodyOf Tryd.f38))).drop 1)) ⟨mk 64 (([1, 3, 8, 12, 17] : List Nat).zip [V.lb [V.i IntKind.i64 x0Kind, V.i IntKind.i64 x0N, V.ts cs0Choices n0Choices none], V.i IntKind.i64 x3, V.i IntKind.i64 (↑n0Choices : Int), v12, v17]), [], h⟩ (VQ [2] K)) =
  (If (x0Kind == (0 : Int))
  (If (x0N == (0 : Int)) (K Out.ret 64 [V.b (leI (↑n0Choices : Int) (4000 : Int))] h)
 (If (x0Kind == (1 : Int))
 (If (leI (1 : Int) x0N)
 (If (leI x0N (4 : Int)) (K Out.ret 64 [V.b (leI (↑n0Choices : Int) (4000 : Int))] h)
 (If (x0Kind == (2 : Int))
 (If (leI (0 : Int) x0N)
 (If (leI x0N (59 : Int)) (K Out.ret 64 [V.b (leI (↑n0Choices : Int) (4000 : Int))] h)
 (K Out.ret 64 [V.b false] h))
 (K Out.ret 64 [V.b false] h))
 (K Out.ret 64 [V.b false] h)))
 (If (x0Kind == (2 : Int))
 (If (leI (0 : Int) x0N)
 (If (leI x0N (59 : Int)) (K Out.ret 64 [V.b (leI (↑n0Choices : Int) (4000 : Int))] h)
 (K Out.ret 64 [V.b false] h))
 (K Out.ret 64 [V.b false] h))
 (K Out.ret 64 [V.b false] h)))
 (If (x0Kind == (2 : Int))
 (If (leI (0 : Int) x0N)
 (If (leI x0N (59 : Int)) (K Out.ret 64 [V.b (leI (↑n0Choices : Int) (4000 : Int))] h)
 (K Out.ret 64 [V.b false] h))
 (K Out.ret 64 [V.b false] h))
 (K Out.ret 64 [V.b false] h))))
  (If (x0Kind == (1 : Int))
 (If (leI (1 : Int) x0N)
 (If (leI x0N (4 : Int)) (K Out.ret 64 [V.b (leI (↑n0Choices : Int) (4000 : Int))] h)
 (If (x0Kind == (2 : Int))
 (If (leI (0 : Int) x0N)
 (If (leI x0N (59 : Int)) (K Out.ret 64 [V.b (leI (↑n0Choices : Int) (4000 : Int))] h)
 (K Out.ret 64 [V.b false] h))
 (K Out.ret 64 [V.b false] h))
 (K Out.ret 64 [V.b false] h)))
 (If (x0Kind == (2 : Int))
 (If (leI (0 : Int) x0N)
 (If (leI x0N (59 : Int)) (K Out.ret 64 [V.b (leI (↑n0Choices : Int) (4000 : Int))] h)
 (K Out.ret 64 [V.b false] h))
 (K Out.ret 64 [V.b false] h))
 (K Out.ret 64 [V.b false] h)))
 (If (x0Kind == (2 : Int))
 (If (leI (0 : Int) x0N)
 (If (leI x0N (59 : Int)) (K Out.ret 64 [V.b (leI (↑n0Choices : Int) (4000 : Int))] h)
 (K Out.ret 64 [V.b false] h))
 (K Out.ret 64 [V.b false] h))
 (K Out.ret 64 [V.b false] h)))) := by kernel_rfl
theorem f40_0 (cs0 : List V) (n0 : Nat) (h : Heap) (K : Out → Nat → List V → Heap → Prop) : (codeP Tryd.Y (Tryd.Y.loc 40) 100 (pre (flat (bodyOf Tryd.f40))) ⟨(V.ts cs0 n0 none :: List.replicate 32 .undef), [], h⟩ (VQ [3, 6, 7, 8] K)) =
  (K Out.normal 33 [V.b false, V.ts cs0 n0 none, V.i IntKind.i64 (↑n0 : Int), V.i IntKind.i64 (0 : Int)] h) := by kernel_rfl
theorem f40_1 (cs0 : List V) (n0 : Nat) (b3z2 : Bool) (x8z2 : Int) (h : Heap) (K : Out → Nat → List V → Heap → Prop) : (codeP Tryd.Y (Tryd.Y.loc 40) 100 ((flat (loopB (post (flat (bodyOf Tryd.f40)))))) ⟨mk 33 (([3, 6, 7, 8] : List Nat).zip [V.b b3z2, V.ts cs0 n0 none, V.i IntKind.i64 (↑n0 : Int), V.i IntKind.i64 x8z2]), [], h⟩ (VQ [2, 3, 6, 7, 8] K)) =
  (If (ltI x8z2 (↑n0 : Int))
  (((0 : Int) ≤ x8z2 ∧ x8z2 < (↑n0 : Int)) ∧
 ∃ (s : List UInt8),
 ∃ (s_1 : List UInt8),
 takeX 2 (List.drop (x8z2.toNat * (2 : Nat)) cs0) = some [V.s s, V.s s_1] ∧
 If (s == ([] : List UInt8))
 (If (s_1 == ([] : List UInt8))
 (K Out.ret 33
 [V.b false, V.b b3z2, V.ts cs0 n0 none, V.i IntKind.i64 (↑n0 : Int), V.i IntKind.i64 x8z2] h)
 (If b3z2
 (K Out.ret 33
 [V.b false, V.b b3z2, V.ts cs0 n0 none, V.i IntKind.i64 (↑n0 : Int), V.i IntKind.i64 x8z2] h)
 (K Out.normal 33
 [V.undef, V.b true, V.ts cs0 n0 none, V.i IntKind.i64 (↑n0 : Int),
 V.i IntKind.i64 (IntKind.i64.wrap (x8z2 + (1 : Int)))]
 h)))
 (If (!s_1 == ([] : List UInt8))
 (K Out.ret 33
 [V.b false, V.b b3z2, V.ts cs0 n0 none, V.i IntKind.i64 (↑n0 : Int), V.i IntKind.i64 x8z2] h)
 (∃ (b : Bool),
 (PCon Tryd.Y (56 : Nat) [V.s s] fun (v : V) => v = V.b b) ∧
 If (!b)
 (K Out.ret 33
 [V.b false, V.b b3z2, V.ts cs0 n0 none, V.i IntKind.i64 (↑n0 : Int), V.i IntKind.i64 x8z2] h)
 (K Out.normal 33
 [V.undef, V.b false, V.ts cs0 n0 none, V.i IntKind.i64 (↑n0 : Int),
 V.i IntKind.i64 (IntKind.i64.wrap (x8z2 + (1 : Int)))]
 h))))
  (K (Out.exit 0) 33
 [V.undef, V.b b3z2, V.ts cs0 n0 none, V.i IntKind.i64 (↑n0 : Int), V.i IntKind.i64 x8z2] h)) := by kernel_rfl
theorem f40_2  (h : Heap) (K : Out → Nat → List V → Heap → Prop) : (codeP Tryd.Y (Tryd.Y.loc 40) 100 (((post (flat (bodyOf Tryd.f40))).drop 1)) ⟨mk 33 (([] : List Nat).zip []), [], h⟩ (VQ [2] K)) =
  (K Out.ret 33 [V.b true] h) := by kernel_rfl
theorem f42_0 (x0 : Int) (h : Heap) (K : Out → Nat → List V → Heap → Prop) : (codeP Tryd.Y (Tryd.Y.loc 42) 100 ((flat (bodyOf Tryd.f42))) ⟨(V.i IntKind.u8 x0 :: List.replicate 36 .undef), [], h⟩ (VQ [2] K)) =
  (If (x0 == (10 : Int)) (K Out.ret 37 [V.s ([92, 110] : List UInt8)] h)
  (If (x0 == (13 : Int)) (K Out.ret 37 [V.s ([92, 114] : List UInt8)] h)
 (If (x0 == (9 : Int)) (K Out.ret 37 [V.s ([92, 116] : List UInt8)] h)
 (∃ (n : Int),
 (PCon Tryd.Y (57 : Nat) [V.s ([34, 92, 36] : List UInt8), V.i IntKind.u8 x0]
 fun (v : V) => v = V.i IntKind.i64 n) ∧
 If (leI (0 : Int) n)
 (∃ (l : List UInt8),
 some (Q.val (V.s ((fun (x : List UInt8) => UInt8.ofNat x0.toNat :: x) []))) = some (Q.val (V.s l)) ∧
 ([92] : List UInt8).length + l.length ≤ 1152921504606846976 ∧
 K Out.ret 37 [V.s (([92] : List UInt8) ++ l)] h)
 (If (ltI x0 (32 : Int))
 ((0 : Int) ≤ (4 : Int) ∧
 ∃ (c : UInt8),
 ((0 : Int) ≤ x0.fdiv ((2 : Int) ^ min (Int.toNat (4 : Int)) IntKind.u8.bits) ∧
 #[(48 : UInt8), (49 : UInt8), (50 : UInt8), (51 : UInt8), (52 : UInt8), (53 : UInt8),
 (54 : UInt8), (55 : UInt8), (56 : UInt8), (57 : UInt8), (97 : UInt8), (98 : UInt8),
 (99 : UInt8), (100 : UInt8), (101 : UInt8),
 (102 :
 UInt8)].toList[(x0.fdiv
 ((2 : Int) ^ min (Int.toNat (4 : Int)) IntKind.u8.bits)).toNat]? =
 some c) ∧
 ∃ (c_1 : UInt8),
 ((0 : Int) ≤
 IntKind.u8.wrap
 (↑(BitVec.ofInt IntKind.u8.bits x0 &&& BitVec.ofInt IntKind.u8.bits (15 : Int)).toNat :
 Int) ∧
 #[(48 : UInt8), (49 : UInt8), (50 : UInt8), (51 : UInt8), (52 : UInt8), (53 : UInt8),
 (54 : UInt8), (55 : UInt8), (56 : UInt8), (57 : UInt8), (97 : UInt8), (98 : UInt8),
 (99 : UInt8), (100 : UInt8), (101 : UInt8),
 (102 :
 UInt8)].toList[(IntKind.u8.wrap
 (↑(BitVec.ofInt IntKind.u8.bits x0 &&&
 BitVec.ofInt IntKind.u8.bits (15 : Int)).toNat :
 Int)).toNat]? =
 some c_1) ∧
 ∃ (l : List UInt8),
 some
 (Q.val
 (V.s
 ((fun (x : List UInt8) => UInt8.ofNat (↑c.toNat : Int).toNat :: x)
 ((fun (x : List UInt8) => UInt8.ofNat (↑c_1.toNat : Int).toNat :: x) [])))) =
 some (Q.val (V.s l)) ∧
 ([92, 120] : List UInt8).length + l.length ≤ 1152921504606846976 ∧
 K Out.ret 37 [V.s (([92, 120] : List UInt8) ++ l)] h)
 (If (ltI (126 : Int) x0)
 ((0 : Int) ≤ (4 : Int) ∧
 ∃ (c : UInt8),
 ((0 : Int) ≤ x0.fdiv ((2 : Int) ^ min (Int.toNat (4 : Int)) IntKind.u8.bits) ∧
 #[(48 : UInt8), (49 : UInt8), (50 : UInt8), (51 : UInt8), (52 : UInt8), (53 : UInt8),
 (54 : UInt8), (55 : UInt8), (56 : UInt8), (57 : UInt8), (97 : UInt8), (98 : UInt8),
 (99 : UInt8), (100 : UInt8), (101 : UInt8),
 (102 :
 UInt8)].toList[(x0.fdiv
 ((2 : Int) ^ min (Int.toNat (4 : Int)) IntKind.u8.bits)).toNat]? =
 some c) ∧
 ∃ (c_1 : UInt8),
 ((0 : Int) ≤
 IntKind.u8.wrap
 (↑(BitVec.ofInt IntKind.u8.bits x0 &&& BitVec.ofInt IntKind.u8.bits (15 : Int)).toNat :
 Int) ∧
 #[(48 : UInt8), (49 : UInt8), (50 : UInt8), (51 : UInt8), (52 : UInt8), (53 : UInt8),
 (54 : UInt8), (55 : UInt8), (56 : UInt8), (57 : UInt8), (97 : UInt8), (98 : UInt8),
 (99 : UInt8), (100 : UInt8), (101 : UInt8),
 (102 :
 UInt8)].toList[(IntKind.u8.wrap
 (↑(BitVec.ofInt IntKind.u8.bits x0 &&&
 BitVec.ofInt IntKind.u8.bits (15 : Int)).toNat :
 Int)).toNat]? =
 some c_1) ∧
 ∃ (l : List UInt8),
 some
 (Q.val
 (V.s
 ((fun (x : List UInt8) => UInt8.ofNat (↑c.toNat : Int).toNat :: x)
 ((fun (x : List UInt8) => UInt8.ofNat (↑c_1.toNat : Int).toNat :: x) [])))) =
 some (Q.val (V.s l)) ∧
 ([92, 120] : List UInt8).length + l.length ≤ 1152921504606846976 ∧
 K Out.ret 37 [V.s (([92, 120] : List UInt8) ++ l)] h)
 (∃ (l : List UInt8),
 some (Q.val (V.s ((fun (x : List UInt8) => UInt8.ofNat x0.toNat :: x) []))) = some (Q.val (V.s l)) ∧
 K Out.ret 37 [V.s l] h))))))) := by kernel_rfl
theorem f43_0 (x0 : Int) (h : Heap) (K : Out → Nat → List V → Heap → Prop) : (codeP Tryd.Y (Tryd.Y.loc 43) 100 ((flat (bodyOf Tryd.f43))) ⟨(V.i IntKind.u8 x0 :: List.replicate 39 .undef), [], h⟩ (VQ [2] K)) =
  (If (x0 == (10 : Int)) (K Out.ret 40 [V.s ([92, 110] : List UInt8)] h)
  (If (x0 == (13 : Int)) (K Out.ret 40 [V.s ([92, 114] : List UInt8)] h)
 (If (x0 == (9 : Int)) (K Out.ret 40 [V.s ([92, 116] : List UInt8)] h)
 (If (x0 == (34 : Int))
 (∃ (l : List UInt8),
 some (Q.val (V.s ((fun (x : List UInt8) => UInt8.ofNat x0.toNat :: x) []))) = some (Q.val (V.s l)) ∧
 ([92] : List UInt8).length + l.length ≤ 1152921504606846976 ∧
 K Out.ret 40 [V.s (([92] : List UInt8) ++ l)] h)
 (If (x0 == (92 : Int))
 (∃ (l : List UInt8),
 some (Q.val (V.s ((fun (x : List UInt8) => UInt8.ofNat x0.toNat :: x) []))) = some (Q.val (V.s l)) ∧
 ([92] : List UInt8).length + l.length ≤ 1152921504606846976 ∧
 K Out.ret 40 [V.s (([92] : List UInt8) ++ l)] h)
 (If (x0 == (36 : Int))
 (∃ (l : List UInt8),
 some (Q.val (V.s ((fun (x : List UInt8) => UInt8.ofNat x0.toNat :: x) []))) = some (Q.val (V.s l)) ∧
 ([92] : List UInt8).length + l.length ≤ 1152921504606846976 ∧
 K Out.ret 40 [V.s (([92] : List UInt8) ++ l)] h)
 (If (ltI x0 (32 : Int))
 (((16 : Int) = (0 : Int) → False) ∧
 ∃ (s : List UInt8),
 (PCon Tryd.Y (58 : Nat) [V.i IntKind.u8 (IntKind.u8.wrap (x0.tdiv (16 : Int)))] fun (v : V) =>
 v = V.s s) ∧
 ([92, 120] : List UInt8).length + s.length ≤ 1152921504606846976 ∧
 ((16 : Int) = (0 : Int) → False) ∧
 ∃ (s_1 : List UInt8),
 (PCon Tryd.Y (58 : Nat) [V.i IntKind.u8 (x0.tmod (16 : Int))] fun (v : V) => v = V.s s_1) ∧
 (([92, 120] : List UInt8) ++ s).length + s_1.length ≤
 1152921504606846976 ∧
 K Out.ret 40 [V.s (([92, 120] : List UInt8) ++ s ++ s_1)] h)
 (If (ltI (126 : Int) x0)
 (((16 : Int) = (0 : Int) → False) ∧
 ∃ (s : List UInt8),
 (PCon Tryd.Y (58 : Nat) [V.i IntKind.u8 (IntKind.u8.wrap (x0.tdiv (16 : Int)))] fun (v : V) =>
 v = V.s s) ∧
 ([92, 120] : List UInt8).length + s.length ≤ 1152921504606846976 ∧
 ((16 : Int) = (0 : Int) → False) ∧
 ∃ (s_1 : List UInt8),
 (PCon Tryd.Y (58 : Nat) [V.i IntKind.u8 (x0.tmod (16 : Int))] fun (v : V) => v = V.s s_1) ∧
 (([92, 120] : List UInt8) ++ s).length + s_1.length ≤
 1152921504606846976 ∧
 K Out.ret 40 [V.s (([92, 120] : List UInt8) ++ s ++ s_1)] h)
 (∃ (l : List UInt8),
 some (Q.val (V.s ((fun (x : List UInt8) => UInt8.ofNat x0.toNat :: x) []))) = some (Q.val (V.s l)) ∧
 K Out.ret 40 [V.s l] h))))))))) := by kernel_rfl
theorem f45_0 (cs0 : List V) (n0 : Nat) (x1 : Int) (h : Heap) (K : Out → Nat → List V → Heap → Prop) : (codeP Tryd.Y (Tryd.Y.loc 45) 100 (pre (flat (bodyOf Tryd.f45))) ⟨(V.ts cs0 n0 none :: V.i IntKind.i64 x1 :: List.replicate 17 .undef), [], h⟩ (VQ [0, 1, 7, 8] K)) =
  (K Out.normal 19 [V.ts cs0 n0 none, V.i IntKind.i64 x1, V.i IntKind.i64 (↑n0 : Int), V.i IntKind.i64 (0 : Int)]
  h) := by kernel_rfl
theorem f45_1 (cs0 : List V) (n0 : Nat) (x1 : Int) (x8 : Int) (h : Heap) (K : Out → Nat → List V → Heap → Prop) : (codeP Tryd.Y (Tryd.Y.loc 45) 100 ((flat (loopB (post (flat (bodyOf Tryd.f45)))))) ⟨mk 19 (([0, 1, 7, 8] : List Nat).zip [V.ts cs0 n0 none, V.i IntKind.i64 x1, V.i IntKind.i64 (↑n0 : Int), V.i IntKind.i64 x8]), [], h⟩ (VQ [0, 1, 4, 7, 8] K)) =
  (If (ltI x8 (↑n0 : Int))
  (((0 : Int) ≤ x8 ∧ x8 < (↑n0 : Int)) ∧
 ∃ (n : Int),
 takeX 1 (List.drop (x8.toNat * (1 : Nat)) cs0) = some [V.i IntKind.i64 n] ∧
 If (x1 == n)
 (K Out.ret 19
 [V.ts cs0 n0 none, V.i IntKind.i64 x1, V.i IntKind.i64 x8, V.i IntKind.i64 (↑n0 : Int), V.i IntKind.i64 x8]
 h)
 (K Out.normal 19
 [V.ts cs0 n0 none, V.i IntKind.i64 x1, V.undef, V.i IntKind.i64 (↑n0 : Int),
 V.i IntKind.i64 (IntKind.i64.wrap (x8 + (1 : Int)))]
 h))
  (K (Out.exit 0) 19
 [V.ts cs0 n0 none, V.i IntKind.i64 x1, V.undef, V.i IntKind.i64 (↑n0 : Int), V.i IntKind.i64 x8] h)) := by kernel_rfl
theorem f45_2  (h : Heap) (K : Out → Nat → List V → Heap → Prop) : (codeP Tryd.Y (Tryd.Y.loc 45) 100 (((post (flat (bodyOf Tryd.f45))).drop 1)) ⟨mk 19 (([] : List Nat).zip []), [], h⟩ (VQ [4] K)) =
  (K Out.ret 19 [V.i IntKind.i64 (-1 : Int)] h) := by kernel_rfl
theorem f47_0 (x0Kind : Int) (x0N : Int) (cs0Choices : List V) (n0Choices : Nat) (h : Heap) (K : Out → Nat → List V → Heap → Prop) : (codeP Tryd.Y (Tryd.Y.loc 47) 100 ((flat (bodyOf Tryd.f47))) ⟨(V.agg [V.i IntKind.i64 x0Kind, V.i IntKind.i64 x0N, V.ts cs0Choices n0Choices none] :: List.replicate 19 .undef), [], h⟩ (VQ [2] K)) =
  (∃ (b : Bool),
  (PCon Tryd.Y (64 : Nat) [V.i IntKind.i64 x0Kind, V.i IntKind.i64 x0N] fun (v : V) => v = V.b b) ∧
 If b
 (If (leI (↑n0Choices : Int) (4000 : Int))
 (Con Tryd.Y (65 : Nat) [V.ts cs0Choices n0Choices none, V.fn (Fn.func (66 : Nat)) [] []] h
 fun (v : V) (h' : Heap) => ∃ (b : Bool), v = V.b b ∧ K Out.ret 20 [V.b !b] h')
 (K Out.ret 20 [V.b false] h))
 (K Out.ret 20 [V.b false] h)) := by kernel_rfl
theorem f48_0 (x0Kind : Int) (x0N : Int) (cs0Choices : List V) (n0Choices : Nat) (h : Heap) (K : Out → Nat → List V → Heap → Prop) : (codeP Tryd.Y (Tryd.Y.loc 48) 100 ((flat (bodyOf Tryd.f48))) ⟨(V.agg [V.i IntKind.i64 x0Kind, V.i IntKind.i64 x0N, V.ts cs0Choices n0Choices none] :: List.replicate 16 .undef), [], h⟩ (VQ [2] K)) =
  (If (x0Kind == (1 : Int))
  (∃ (s : List UInt8),
 (PCon Tryd.Y (15 : Nat) [V.i IntKind.i64 x0N] fun (v : V) => v = V.s s) ∧
 ([102, 97, 117, 108, 116, 32] : List UInt8).length +
 s.length ≤
 1152921504606846976 ∧
 K Out.ret 17
 [V.s (([102, 97, 117, 108, 116, 32] : List UInt8) ++ s)]
 h)
  (If (x0Kind == (2 : Int))
 (∃ (s : List UInt8),
 (PCon Tryd.Y (16 : Nat) [V.i IntKind.i64 x0N] fun (v : V) => v = V.s s) ∧
 ([114, 117, 108, 101, 32] : List UInt8).length + s.length ≤
 1152921504606846976 ∧
 K Out.ret 17
 [V.s (([114, 117, 108, 101, 32] : List UInt8) ++ s)] h)
 (K Out.ret 17 [V.s ([119, 97, 108, 107] : List UInt8)] h))) := by kernel_rfl
theorem f49_0 (x0Kind : Int) (x0Peer : Int) (x0N : Int) (h : Heap) (K : Out → Nat → List V → Heap → Prop) : (codeP Tryd.Y (Tryd.Y.loc 49) 100 ((flat (bodyOf Tryd.f49))) ⟨(V.agg [V.i IntKind.i64 x0Kind, V.i IntKind.i64 x0Peer, V.i IntKind.i64 x0N] :: List.replicate 43 .undef), [], h⟩ (VQ [2, 3] K)) =
  (∃ (b : Bool),
  (PCon Tryd.Y (67 : Nat) [V.agg [V.i IntKind.i64 x0Kind, V.i IntKind.i64 x0Peer, V.i IntKind.i64 x0N]] fun (v : V) =>
 v = V.b b) ∧
 If (!b) (K Out.ret 44 [V.s ([] : List UInt8), V.b false] h)
 (∃ (s : List UInt8),
 (PCon Tryd.Y (16 : Nat) [V.i IntKind.i64 x0Peer] fun (v : V) => v = V.s s) ∧
 ∃ (s_1 : List UInt8),
 (PCon Tryd.Y (16 : Nat) [V.i IntKind.i64 x0N] fun (v : V) => v = V.s s_1) ∧
 If (x0Kind == (1 : Int))
 (K Out.ret 44
 [V.s
 ([115, 99, 114, 105, 112, 116] : List UInt8),
 V.b true]
 h)
 (If (x0Kind == (2 : Int))
 (K Out.ret 44
 [V.s ([116, 105, 99, 107] : List UInt8), V.b true] h)
 (If (x0Kind == (3 : Int))
 (([101, 100, 103, 101, 32] : List UInt8).length +
 s.length ≤
 1152921504606846976 ∧
 (([101, 100, 103, 101, 32] : List UInt8) ++ s).length +
 ([32] : List UInt8).length ≤
 1152921504606846976 ∧
 (([101, 100, 103, 101, 32] : List UInt8) ++ s ++
 ([32] : List UInt8)).length +
 s_1.length ≤
 1152921504606846976 ∧
 K Out.ret 44
 [V.s
 (([101, 100, 103, 101, 32] : List UInt8) ++
 s ++
 ([32] : List UInt8) ++
 s_1),
 V.b true]
 h)
 (If (x0Kind == (4 : Int))
 (([97, 114, 114, 105, 118, 101, 32] : List UInt8).length +
 s.length ≤
 1152921504606846976 ∧
 K Out.ret 44
 [V.s
 (([97, 114, 114, 105, 118, 101, 32] : List UInt8) ++
 s),
 V.b true]
 h)
 (If (x0Kind == (6 : Int))
 (K Out.ret 44
 [V.s
 ([116, 105, 109, 101, 111, 117, 116] : List UInt8),
 V.b true]
 h)
 (If (x0N == (0 : Int))
 (([101, 110, 100, 32] : List UInt8).length + s.length ≤
 1152921504606846976 ∧
 K Out.ret 44
 [V.s (([101, 110, 100, 32] : List UInt8) ++ s), V.b true]
 h)
 (([114, 101, 97, 100, 32] : List UInt8).length +
 s.length ≤
 1152921504606846976 ∧
 (([114, 101, 97, 100, 32] : List UInt8) ++
 s).length +
 ([32] : List UInt8).length ≤
 1152921504606846976 ∧
 (([114, 101, 97, 100, 32] : List UInt8) ++ s ++
 ([32] : List UInt8)).length +
 s_1.length ≤
 1152921504606846976 ∧
 K Out.ret 44
 [V.s
 (([114, 101, 97, 100, 32] : List UInt8) ++
 s ++
 ([32] : List UInt8) ++
 s_1),
 V.b true]
 h)))))))) := by kernel_rfl
theorem f51_0 (x0 : Int) (h : Heap) (K : Out → Nat → List V → Heap → Prop) : (codeP Tryd.Y (Tryd.Y.loc 51) 100 ((flat (bodyOf Tryd.f51))) ⟨(V.i IntKind.i64 x0 :: List.replicate 9 .undef), [], h⟩ (VQ [2] K)) =
  (If (ltI x0 (0 : Int)) (K Out.ret 10 [V.i IntKind.u64 (IntKind.u64.wrap ((0 : Int) - IntKind.u64.wrap x0))] h)
  (K Out.ret 10 [V.i IntKind.u64 (IntKind.u64.wrap x0)] h)) := by kernel_rfl
theorem f52_0 (x0Kind : Int) (x0Peer : Int) (x0N : Int) (h : Heap) (K : Out → Nat → List V → Heap → Prop) : (codeP Tryd.Y (Tryd.Y.loc 52) 100 ((flat (bodyOf Tryd.f52))) ⟨(V.agg [V.i IntKind.i64 x0Kind, V.i IntKind.i64 x0Peer, V.i IntKind.i64 x0N] :: List.replicate 71 .undef), [], h⟩ (VQ [2] K)) =
  (If (leI (0 : Int) x0Peer)
  (If (x0Kind == (1 : Int))
 (If (x0Peer == (0 : Int)) (K Out.ret 72 [V.b (x0N == (0 : Int))] h)
 (K Out.ret 72 [V.b false] h))
 (If (x0Kind == (2 : Int))
 (If (x0Peer == (0 : Int)) (K Out.ret 72 [V.b (x0N == (0 : Int))] h)
 (K Out.ret 72 [V.b false] h))
 (If (x0Kind == (6 : Int))
 (If (x0Peer == (0 : Int)) (K Out.ret 72 [V.b (x0N == (0 : Int))] h)
 (K Out.ret 72 [V.b false] h))
 (If (x0Kind == (3 : Int))
 (If (leI x0Peer (7 : Int))
 (If (leI (0 : Int) x0N) (K Out.ret 72 [V.b (leI x0N (7 : Int))] h)
 (K Out.ret 72 [V.b false] h))
 (K Out.ret 72 [V.b false] h))
 (If (x0Kind == (4 : Int))
 (If (leI x0Peer (7 : Int)) (K Out.ret 72 [V.b (x0N == (0 : Int))] h)
 (K Out.ret 72 [V.b false] h))
 (If (x0Kind == (5 : Int))
 (If (leI x0Peer (7 : Int))
 (If (leI (0 : Int) x0N) (K Out.ret 72 [V.b (leI x0N (64 : Int))] h)
 (K Out.ret 72 [V.b false] h))
 (K Out.ret 72 [V.b false] h))
 (K Out.ret 72 [V.b false] h)))))))
  (If (x0Kind == (1 : Int))
 (If (x0Peer == (0 : Int)) (K Out.ret 72 [V.b (x0N == (0 : Int))] h)
 (K Out.ret 72 [V.b false] h))
 (If (x0Kind == (2 : Int))
 (If (x0Peer == (0 : Int)) (K Out.ret 72 [V.b (x0N == (0 : Int))] h)
 (K Out.ret 72 [V.b false] h))
 (If (x0Kind == (6 : Int))
 (If (x0Peer == (0 : Int)) (K Out.ret 72 [V.b (x0N == (0 : Int))] h)
 (K Out.ret 72 [V.b false] h))
 (If (x0Kind == (3 : Int)) (K Out.ret 72 [V.b false] h)
 (If (x0Kind == (4 : Int)) (K Out.ret 72 [V.b false] h)
 (If (x0Kind == (5 : Int)) (K Out.ret 72 [V.b false] h)
 (K Out.ret 72 [V.b false] h)))))))) := by kernel_rfl
theorem f54_0 (x0 : Int) (h : Heap) (K : Out → Nat → List V → Heap → Prop) : (codeP Tryd.Y (Tryd.Y.loc 54) 100 ((flat (bodyOf Tryd.f54))) ⟨(V.i IntKind.i64 x0 :: List.replicate 4 .undef), [], h⟩ (VQ [2] K)) =
  (∃ (s : List UInt8),
  (PCon Tryd.Y (37 : Nat) [V.i IntKind.i64 x0] fun (v : V) => v = V.s s) ∧ K Out.ret 5 [V.s s] h) := by kernel_rfl
theorem f55_0 (x0Kind : Int) (x0Peer : Int) (x0N : Int) (h : Heap) (K : Out → Nat → List V → Heap → Prop) : (codeP Tryd.Y (Tryd.Y.loc 55) 100 ((flat (bodyOf Tryd.f55))) ⟨(V.agg [V.i IntKind.i64 x0Kind, V.i IntKind.i64 x0Peer, V.i IntKind.i64 x0N] :: List.replicate 46 .undef), [], h⟩ (VQ [2] K)) =
  (If (x0Kind == (1 : Int))
  (K Out.ret 47
 [V.s ([115, 99, 114, 105, 112, 116] : List UInt8)] h)
  (If (x0Kind == (2 : Int))
 (K Out.ret 47 [V.s ([116, 105, 99, 107] : List UInt8)] h)
 (If (x0Kind == (6 : Int))
 (K Out.ret 47
 [V.s
 ([116, 105, 109, 101, 111, 117, 116] : List UInt8)]
 h)
 (If (x0Kind == (4 : Int))
 (∃ (s : List UInt8),
 (PCon Tryd.Y (54 : Nat) [V.i IntKind.i64 x0Peer] fun (v : V) => v = V.s s) ∧
 ([97, 114, 114, 105, 118, 101, 32] : List UInt8).length +
 s.length ≤
 1152921504606846976 ∧
 K Out.ret 47
 [V.s
 (([97, 114, 114, 105, 118, 101, 32] : List UInt8) ++
 s)]
 h)
 (If (x0Kind == (3 : Int))
 (∃ (s : List UInt8),
 (PCon Tryd.Y (54 : Nat) [V.i IntKind.i64 x0Peer] fun (v : V) => v = V.s s) ∧
 ([101, 100, 103, 101, 32] : List UInt8).length + s.length ≤
 1152921504606846976 ∧
 (([101, 100, 103, 101, 32] : List UInt8) ++ s).length +
 ([32] : List UInt8).length ≤
 1152921504606846976 ∧
 ∃ (s_1 : List UInt8),
 (PCon Tryd.Y (54 : Nat) [V.i IntKind.i64 x0N] fun (v : V) => v = V.s s_1) ∧
 (([101, 100, 103, 101, 32] : List UInt8) ++ s ++
 ([32] : List UInt8)).length +
 s_1.length ≤
 1152921504606846976 ∧
 K Out.ret 47
 [V.s
 (([101, 100, 103, 101, 32] : List UInt8) ++
 s ++
 ([32] : List UInt8) ++
 s_1)]
 h)
 (If (x0N == (0 : Int))
 (∃ (s : List UInt8),
 (PCon Tryd.Y (54 : Nat) [V.i IntKind.i64 x0Peer] fun (v : V) => v = V.s s) ∧
 ([101, 110, 100, 32] : List UInt8).length + s.length ≤
 1152921504606846976 ∧
 K Out.ret 47
 [V.s (([101, 110, 100, 32] : List UInt8) ++ s)] h)
 (∃ (s : List UInt8),
 (PCon Tryd.Y (54 : Nat) [V.i IntKind.i64 x0Peer] fun (v : V) => v = V.s s) ∧
 ([114, 101, 97, 100, 32] : List UInt8).length + s.length ≤
 1152921504606846976 ∧
 (([114, 101, 97, 100, 32] : List UInt8) ++ s).length +
 ([32] : List UInt8).length ≤
 1152921504606846976 ∧
 ∃ (s_1 : List UInt8),
 (PCon Tryd.Y (54 : Nat) [V.i IntKind.i64 x0N] fun (v : V) => v = V.s s_1) ∧
 (([114, 101, 97, 100, 32] : List UInt8) ++ s ++
 ([32] : List UInt8)).length +
 s_1.length ≤
 1152921504606846976 ∧
 K Out.ret 47
 [V.s
 (([114, 101, 97, 100, 32] : List UInt8) ++
 s ++
 ([32] : List UInt8) ++
 s_1)]
 h))))))) := by kernel_rfl
theorem f56_0 (s0 : List UInt8) (h : Heap) (K : Out → Nat → List V → Heap → Prop) : (codeP Tryd.Y (Tryd.Y.loc 56) 100 (pre (flat (bodyOf Tryd.f56))) ⟨(V.s s0 :: List.replicate 44 .undef), [], h⟩ (VQ [0, 2, 35, 36] K)) =
  (If (s0 == ([] : List UInt8)) (K Out.ret 45 [V.s s0, V.b false, V.undef, V.undef] h)
  (If (ltI (8 : Int) (↑s0.length : Int)) (K Out.ret 45 [V.s s0, V.b false, V.undef, V.undef] h)
 (If ((↑s0.length : Int) == (1 : Int))
 (∃ (c : UInt8),
 ((0 : Int) ≤ (0 : Int) ∧ s0[Int.toNat (0 : Int)]? = some c) ∧
 ∃ (b : Bool),
 (PCon Tryd.Y (69 : Nat) [V.i IntKind.u8 (↑c.toNat : Int)] fun (v : V) => v = V.b b) ∧
 If b (K Out.ret 45 [V.s s0, V.b true, V.undef, V.undef] h)
 (∃ (c : UInt8),
 ((0 : Int) ≤ (0 : Int) ∧ s0[Int.toNat (0 : Int)]? = some c) ∧
 If (leI (48 : Int) (↑c.toNat : Int))
 (∃ (c : UInt8),
 ((0 : Int) ≤ (0 : Int) ∧ s0[Int.toNat (0 : Int)]? = some c) ∧
 K Out.ret 45 [V.s s0, V.b (leI (↑c.toNat : Int) (57 : Int)), V.undef, V.undef] h)
 (K Out.ret 45 [V.s s0, V.b false, V.undef, V.undef] h)))
 (∃ (c : UInt8),
 ((0 : Int) ≤ (0 : Int) ∧ s0[Int.toNat (0 : Int)]? = some c) ∧
 ∃ (b : Bool),
 (PCon Tryd.Y (69 : Nat) [V.i IntKind.u8 (↑c.toNat : Int)] fun (v : V) => v = V.b b) ∧
 If (!b) (K Out.ret 45 [V.s s0, V.b false, V.undef, V.undef] h)
 (K Out.normal 45
 [V.s s0, V.b false, V.i IntKind.i64 (↑s0.length : Int), V.i IntKind.i64 (0 : Int)] h))))) := by kernel_rfl
theorem f56_1 (s0 : List UInt8) (x36 : Int) (h : Heap) (K : Out → Nat → List V → Heap → Prop) : (codeP Tryd.Y (Tryd.Y.loc 56) 100 ((flat (loopB (post (flat (bodyOf Tryd.f56)))))) ⟨mk 45 (([0, 35, 36] : List Nat).zip [V.s s0, V.i IntKind.i64 (↑s0.length : Int), V.i IntKind.i64 x36]), [], h⟩ (VQ [0, 2, 35, 36] K)) =
  (If (ltI x36 (↑s0.length : Int))
  (∃ (c : UInt8),
 ((0 : Int) ≤ x36 ∧ s0[x36.toNat]? = some c) ∧
 ∃ (b : Bool),
 (PCon Tryd.Y (70 : Nat) [V.i IntKind.u8 (↑c.toNat : Int)] fun (v : V) => v = V.b b) ∧
 If (!b)
 (K Out.ret 45 [V.s s0, V.b false, V.i IntKind.i64 (↑s0.length : Int), V.i IntKind.i64 x36] h)
 (K Out.normal 45
 [V.s s0, V.undef, V.i IntKind.i64 (↑s0.length : Int),
 V.i IntKind.i64 (IntKind.i64.wrap (x36 + (1 : Int)))]
 h))
  (K (Out.exit 1) 45 [V.s s0, V.undef, V.i IntKind.i64 (↑s0.length : Int), V.i IntKind.i64 x36] h)) := by kernel_rfl
theorem f56_2  (h : Heap) (K : Out → Nat → List V → Heap → Prop) : (codeP Tryd.Y (Tryd.Y.loc 56) 100 (((post (flat (bodyOf Tryd.f56))).drop 1)) ⟨mk 45 (([] : List Nat).zip []), [], h⟩ (VQ [2] K)) =
  (K Out.ret 45 [V.b true] h) := by kernel_rfl
theorem f58_0 (x0 : Int) (h : Heap) (K : Out → Nat → List V → Heap → Prop) : (codeP Tryd.Y (Tryd.Y.loc 58) 100 ((flat (bodyOf Tryd.f58))) ⟨(V.i IntKind.u8 x0 :: List.replicate 6 .undef), [], h⟩ (VQ [2] K)) =
  (∃ (c : UInt8),
  ((0 : Int) ≤ x0 ∧
 ([48, 49, 50, 51, 52, 53, 54, 55, 56, 57, 97, 98, 99, 100, 101, 102] : List UInt8)[x0.toNat]? =
 some c) ∧
 ∃ (l : List UInt8),
 some (Q.val (V.s ((fun (x : List UInt8) => UInt8.ofNat (↑c.toNat : Int).toNat :: x) []))) = some (Q.val (V.s l)) ∧
 K Out.ret 7 [V.s l] h) := by kernel_rfl
theorem f64_0 (x0 : Int) (x1 : Int) (h : Heap) (K : Out → Nat → List V → Heap → Prop) : (codeP Tryd.Y (Tryd.Y.loc 64) 100 ((flat (bodyOf Tryd.f64))) ⟨(V.i IntKind.i64 x0 :: V.i IntKind.i64 x1 :: List.replicate 20 .undef), [], h⟩ (VQ [4] K)) =
  (If (x0 == (0 : Int)) (K Out.ret 22 [V.b (x1 == (0 : Int))] h)
  (If (x0 == (1 : Int))
 (If (leI (1 : Int) x1) (K Out.ret 22 [V.b (leI x1 (4 : Int))] h) (K Out.ret 22 [V.b false] h))
 (If (x0 == (2 : Int))
 (∃ (b : Bool),
 (PCon Tryd.Y (78 : Nat) [V.i IntKind.i64 x1, V.i IntKind.i64 (59 : Int)] fun (v : V) => v = V.b b) ∧
 K Out.ret 22 [V.b b] h)
 (K Out.ret 22 [V.b false] h)))) := by kernel_rfl
theorem f66_0 (x0Kind : Int) (x0Peer : Int) (x0N : Int) (h : Heap) (K : Out → Nat → List V → Heap → Prop) : (codeP Tryd.Y (Tryd.Y.loc 66) 100 ((flat (bodyOf Tryd.f66))) ⟨(V.agg [V.i IntKind.i64 x0Kind, V.i IntKind.i64 x0Peer, V.i IntKind.i64 x0N] :: List.replicate 5 .undef), [], h⟩ (VQ [2] K)) =
  (∃ (b : Bool),
  (PCon Tryd.Y (67 : Nat) [V.agg [V.i IntKind.i64 x0Kind, V.i IntKind.i64 x0Peer, V.i IntKind.i64 x0N]] fun (v : V) =>
 v = V.b b) ∧
 K Out.ret 6 [V.b !b] h) := by kernel_rfl
theorem f67_0 (x0Kind : Int) (x0Peer : Int) (x0N : Int) (h : Heap) (K : Out → Nat → List V → Heap → Prop) : (codeP Tryd.Y (Tryd.Y.loc 67) 100 ((flat (bodyOf Tryd.f67))) ⟨(V.agg [V.i IntKind.i64 x0Kind, V.i IntKind.i64 x0Peer, V.i IntKind.i64 x0N] :: List.replicate 46 .undef), [], h⟩ (VQ [2] K)) =
  (If (x0Kind == (1 : Int))
  (If (x0Peer == (0 : Int)) (K Out.ret 47 [V.b (x0N == (0 : Int))] h) (K Out.ret 47 [V.b false] h))
  (If (x0Kind == (2 : Int))
 (If (x0Peer == (0 : Int)) (K Out.ret 47 [V.b (x0N == (0 : Int))] h)
 (K Out.ret 47 [V.b false] h))
 (If (x0Kind == (6 : Int))
 (If (x0Peer == (0 : Int)) (K Out.ret 47 [V.b (x0N == (0 : Int))] h)
 (K Out.ret 47 [V.b false] h))
 (If (x0Kind == (3 : Int))
 (∃ (b : Bool),
 (PCon Tryd.Y (78 : Nat) [V.i IntKind.i64 x0Peer, V.i IntKind.i64 (7 : Int)] fun (v : V) => v = V.b b) ∧
 If b
 (∃ (b : Bool),
 (PCon Tryd.Y (78 : Nat) [V.i IntKind.i64 x0N, V.i IntKind.i64 (7 : Int)] fun (v : V) => v = V.b b) ∧
 K Out.ret 47 [V.b b] h)
 (K Out.ret 47 [V.b false] h))
 (If (x0Kind == (4 : Int))
 (∃ (b : Bool),
 (PCon Tryd.Y (78 : Nat) [V.i IntKind.i64 x0Peer, V.i IntKind.i64 (7 : Int)] fun (v : V) => v = V.b b) ∧
 If b (K Out.ret 47 [V.b (x0N == (0 : Int))] h) (K Out.ret 47 [V.b false] h))
 (If (x0Kind == (5 : Int))
 (∃ (b : Bool),
 (PCon Tryd.Y (78 : Nat) [V.i IntKind.i64 x0Peer, V.i IntKind.i64 (7 : Int)] fun (v : V) => v = V.b b) ∧
 If b
 (∃ (b : Bool),
 (PCon Tryd.Y (78 : Nat) [V.i IntKind.i64 x0N, V.i IntKind.i64 (64 : Int)] fun (v : V) =>
 v = V.b b) ∧
 K Out.ret 47 [V.b b] h)
 (K Out.ret 47 [V.b false] h))
 (K Out.ret 47 [V.b false] h))))))) := by kernel_rfl
theorem f69_0 (x0 : Int) (h : Heap) (K : Out → Nat → List V → Heap → Prop) : (codeP Tryd.Y (Tryd.Y.loc 69) 100 ((flat (bodyOf Tryd.f69))) ⟨(V.i IntKind.u8 x0 :: List.replicate 8 .undef), [], h⟩ (VQ [2] K)) =
  (If (leI (97 : Int) x0) (K Out.ret 9 [V.b (leI x0 (122 : Int))] h) (K Out.ret 9 [V.b false] h)) := by kernel_rfl
theorem f70_0 (x0 : Int) (h : Heap) (K : Out → Nat → List V → Heap → Prop) : (codeP Tryd.Y (Tryd.Y.loc 70) 100 ((flat (bodyOf Tryd.f70))) ⟨(V.i IntKind.u8 x0 :: List.replicate 16 .undef), [], h⟩ (VQ [2] K)) =
  (∃ (b : Bool),
  (PCon Tryd.Y (69 : Nat) [V.i IntKind.u8 x0] fun (v : V) => v = V.b b) ∧
 If b (K Out.ret 17 [V.b true] h)
 (If (leI (48 : Int) x0)
 (If (leI x0 (57 : Int)) (K Out.ret 17 [V.b true] h)
 (K Out.ret 17 [V.b (x0 == (95 : Int))] h))
 (K Out.ret 17 [V.b (x0 == (95 : Int))] h))) := by kernel_rfl
theorem f78_0 (x0 : Int) (x1 : Int) (h : Heap) (K : Out → Nat → List V → Heap → Prop) : (codeP Tryd.Y (Tryd.Y.loc 78) 100 ((flat (bodyOf Tryd.f78))) ⟨(V.i IntKind.i64 x0 :: V.i IntKind.i64 x1 :: List.replicate 10 .undef), [], h⟩ (VQ [4] K)) =
  (If (leI (0 : Int) x0) (K Out.ret 12 [V.b (leI x0 x1)] h) (K Out.ret 12 [V.b false] h)) := by kernel_rfl
end Go.Y
