/- What the pieces of functions come to: printed by program. -/
import Derived.Test.YtfnpgefoikffdaaDoorYTrydP
import Derived.Test.YtfnpgefoikffdaaDoorYFun
namespace Go.Y
open Go.Proofs
set_option maxRecDepth 100000
set_option maxHeartbeats 0
theorem f6_0 (x0Kind : Int) (x0Where : Int) (x0Place : Int) (x0Err : Int) (x0Fault : Int) (x0TraceKind : Int) (x0TraceN : Int) (cs0TraceChoices : List V) (n0TraceChoices : Nat) (cs0Unused : List V) (n0Unused : Nat) (cs0Witness : List V) (n0Witness : Nat) (x0Nodes : Int) (h : Heap) (K : Out → Nat → List V → Heap → Prop) : (codeP Tryd.Y (Tryd.Y.loc 6) 100 ((flat (bodyOf Tryd.f6))) ⟨(V.agg [V.i IntKind.i64 x0Kind, V.i IntKind.i64 x0Where, V.i IntKind.i64 x0Place, V.i IntKind.i64 x0Err, V.i IntKind.i64 x0Fault, V.i IntKind.i64 x0TraceKind, V.i IntKind.i64 x0TraceN, V.ts cs0TraceChoices n0TraceChoices none, V.ts cs0Unused n0Unused none, V.ts cs0Witness n0Witness none, V.i IntKind.i64 x0Nodes] :: List.replicate 42 .undef), [], h⟩ (VQ [2] K)) =
  (If (x0Kind == (1 : Int))
  (∃ (cs : List V),
 ∃ (l : Nat),
 ∃ (c : Option Nat),
 (PCon Tryd.Y (14 : Nat)
 [V.ts [V.i IntKind.i64 x0Where, V.i IntKind.i64 x0Place, V.i IntKind.i64 x0Err] 3
 (some 3)]
 fun (v : V) => v = V.ts cs l c) ∧
 ∃ (a : Option (Nat × Nat)),
 ∃ (l_1 : Nat),
 ∃ (c_1 : Option Nat),
 ∃ (k : Nat),
 ∃ (h_1 : Heap),
 appendH Tryd.Y
 (h.push
 (YObj.arr
 [V.s
 ([114, 101, 106, 101, 99, 116] : List UInt8)]
 true))
 51 51
 (V.sl (some (h.nx, 0)) 1 (some 1) 1) (V.ts cs l c) =
 some (V.sl a l_1 c_1 k, h_1) ∧
 ∃ (s : List UInt8),
 FCon Tryd.Y (13 : Nat) [V.sl a l_1 c_1 k] h_1 (V.s s) ∧ K Out.ret 43 [V.s s] h_1)
  (If (x0Kind == (2 : Int))
 (∃ (s : List UInt8),
 (PCon Tryd.Y (15 : Nat) [V.i IntKind.i64 x0Fault] fun (v : V) => v = V.s s) ∧
 ∃ (s_1 : List UInt8),
 (PCon Tryd.Y (16 : Nat) [V.i IntKind.i64 x0Nodes] fun (v : V) => v = V.s s_1) ∧
 ∃ (s_2 : List UInt8),
 FCon Tryd.Y (13 : Nat)
 [V.ts
 [V.s
 ([103, 117, 105, 108, 116, 121] : List UInt8),
 V.s s, V.s s_1]
 3 (some 3)]
 h (V.s s_2) ∧
 ∃ (s : List UInt8),
 (PCon Tryd.Y (17 : Nat)
 [V.agg
 [V.i IntKind.i64 x0TraceKind, V.i IntKind.i64 x0TraceN,
 V.ts cs0TraceChoices n0TraceChoices none]]
 fun (v : V) => v = V.s s) ∧
 s_2.length + s.length ≤ 1152921504606846976 ∧ K Out.ret 43 [V.s (s_2 ++ s)] h)
 (If (x0Kind == (3 : Int))
 (∃ (s : List UInt8),
 (PCon Tryd.Y (18 : Nat)
 [V.agg
 [V.i IntKind.i64 x0Kind, V.i IntKind.i64 x0Where, V.i IntKind.i64 x0Place, V.i IntKind.i64 x0Err,
 V.i IntKind.i64 x0Fault, V.i IntKind.i64 x0TraceKind, V.i IntKind.i64 x0TraceN,
 V.ts cs0TraceChoices n0TraceChoices none, V.ts cs0Unused n0Unused none,
 V.ts cs0Witness n0Witness none, V.i IntKind.i64 x0Nodes]]
 fun (v : V) => v = V.s s) ∧
 K Out.ret 43 [V.s s] h)
 (If (x0Kind == (4 : Int))
 (∃ (s : List UInt8),
 (PCon Tryd.Y (16 : Nat) [V.i IntKind.i64 x0Nodes] fun (v : V) => v = V.s s) ∧
 ∃ (s_1 : List UInt8),
 FCon Tryd.Y (13 : Nat)
 [V.ts
 [V.s
 ([117, 110, 115, 117, 114, 101] : List UInt8),
 V.s s]
 2 (some 2)]
 h (V.s s_1) ∧
 K Out.ret 43 [V.s s_1] h)
 (K Out.ret 43 [V.s ([] : List UInt8)] h))))) := by kernel_rfl
theorem f7_0 (x0Kind : Int) (x0Where : Int) (x0Place : Int) (x0Err : Int) (x0Fault : Int) (x0TraceKind : Int) (x0TraceN : Int) (cs0TraceChoices : List V) (n0TraceChoices : Nat) (cs0Unused : List V) (n0Unused : Nat) (cs0Witness : List V) (n0Witness : Nat) (x0Nodes : Int) (h : Heap) (K : Out → Nat → List V → Heap → Prop) : (codeP Tryd.Y (Tryd.Y.loc 7) 100 (pre (flat (bodyOf Tryd.f7))) ⟨(V.agg [V.i IntKind.i64 x0Kind, V.i IntKind.i64 x0Where, V.i IntKind.i64 x0Place, V.i IntKind.i64 x0Err, V.i IntKind.i64 x0Fault, V.i IntKind.i64 x0TraceKind, V.i IntKind.i64 x0TraceN, V.ts cs0TraceChoices n0TraceChoices none, V.ts cs0Unused n0Unused none, V.ts cs0Witness n0Witness none, V.i IntKind.i64 x0Nodes] :: List.replicate 102 .undef), [], h⟩ (VQ [1, 2, 3, 4, 8] K)) =
  (If (x0Kind == (1 : Int))
  (∃ (s : List UInt8),
 (PCon Tryd.Y (19 : Nat) [V.i IntKind.i64 x0Where] fun (v : V) => v = V.s s) ∧
 ([114, 101, 106, 101, 99, 116] : List UInt8).length +
 s.length ≤
 1152921504606846976 ∧
 ∃ (s_1 : List UInt8),
 (PCon Tryd.Y (19 : Nat) [V.i IntKind.i64 x0Place] fun (v : V) => v = V.s s_1) ∧
 (([114, 101, 106, 101, 99, 116] : List UInt8) ++
 s).length +
 s_1.length ≤
 1152921504606846976 ∧
 ∃ (s_2 : List UInt8),
 (PCon Tryd.Y (19 : Nat) [V.i IntKind.i64 x0Err] fun (v : V) => v = V.s s_2) ∧
 (([114, 101, 106, 101, 99, 116] : List UInt8) ++
 s ++
 s_1).length +
 s_2.length ≤
 1152921504606846976 ∧
 (([114, 101, 106, 101, 99, 116] : List UInt8) ++
 s ++
 s_1 ++
 s_2).length +
 ([10] : List UInt8).length ≤
 1152921504606846976 ∧
 K Out.ret 103
 [V.lb
 [V.i IntKind.i64 x0Kind, V.i IntKind.i64 x0Where, V.i IntKind.i64 x0Place,
 V.i IntKind.i64 x0Err, V.i IntKind.i64 x0Fault, V.i IntKind.i64 x0TraceKind,
 V.i IntKind.i64 x0TraceN, V.ts cs0TraceChoices n0TraceChoices none,
 V.ts cs0Unused n0Unused none, V.ts cs0Witness n0Witness none, V.i IntKind.i64 x0Nodes],
 V.s
 (([114, 101, 106, 101, 99, 116] : List UInt8) ++
 s ++
 s_1 ++
 s_2 ++
 ([10] : List UInt8)),
 V.undef, V.undef, V.i IntKind.i64 x0Kind]
 h)
  (If (x0Kind == (2 : Int))
 (∃ (s : List UInt8),
 (PCon Tryd.Y (20 : Nat) [V.i IntKind.i64 x0Fault] fun (v : V) => v = V.s s) ∧
 ([103, 117, 105, 108, 116, 121, 32] : List UInt8).length +
 s.length ≤
 1152921504606846976 ∧
 ∃ (s_1 : List UInt8),
 (PCon Tryd.Y (19 : Nat) [V.i IntKind.i64 x0Nodes] fun (v : V) => v = V.s s_1) ∧
 (([103, 117, 105, 108, 116, 121, 32] : List UInt8) ++
 s).length +
 s_1.length ≤
 1152921504606846976 ∧
 (([103, 117, 105, 108, 116, 121, 32] : List UInt8) ++
 s ++
 s_1).length +
 ([10] : List UInt8).length ≤
 1152921504606846976 ∧
 ∃ (s_2 : List UInt8),
 (PCon Tryd.Y (21 : Nat)
 [V.agg
 [V.i IntKind.i64 x0TraceKind, V.i IntKind.i64 x0TraceN,
 V.ts cs0TraceChoices n0TraceChoices none]]
 fun (v : V) => v = V.s s_2) ∧
 (([103, 117, 105, 108, 116, 121, 32] : List UInt8) ++
 s ++
 s_1 ++
 ([10] : List UInt8)).length +
 s_2.length ≤
 1152921504606846976 ∧
 K Out.ret 103
 [V.lb
 [V.i IntKind.i64 x0Kind, V.i IntKind.i64 x0Where, V.i IntKind.i64 x0Place,
 V.i IntKind.i64 x0Err, V.i IntKind.i64 x0Fault, V.i IntKind.i64 x0TraceKind,
 V.i IntKind.i64 x0TraceN, V.ts cs0TraceChoices n0TraceChoices none,
 V.ts cs0Unused n0Unused none, V.ts cs0Witness n0Witness none, V.i IntKind.i64 x0Nodes],
 V.s
 (([103, 117, 105, 108, 116, 121, 32] : List UInt8) ++
 s ++
 s_1 ++
 ([10] : List UInt8) ++
 s_2),
 V.undef, V.undef, V.i IntKind.i64 x0Kind]
 h)
 (If (x0Kind == (4 : Int))
 (∃ (s : List UInt8),
 (PCon Tryd.Y (19 : Nat) [V.i IntKind.i64 x0Nodes] fun (v : V) => v = V.s s) ∧
 ([117, 110, 115, 117, 114, 101] : List UInt8).length +
 s.length ≤
 1152921504606846976 ∧
 (([117, 110, 115, 117, 114, 101] : List UInt8) ++
 s).length +
 ([10] : List UInt8).length ≤
 1152921504606846976 ∧
 K Out.ret 103
 [V.lb
 [V.i IntKind.i64 x0Kind, V.i IntKind.i64 x0Where, V.i IntKind.i64 x0Place, V.i IntKind.i64 x0Err,
 V.i IntKind.i64 x0Fault, V.i IntKind.i64 x0TraceKind, V.i IntKind.i64 x0TraceN,
 V.ts cs0TraceChoices n0TraceChoices none, V.ts cs0Unused n0Unused none,
 V.ts cs0Witness n0Witness none, V.i IntKind.i64 x0Nodes],
 V.s
 (([117, 110, 115, 117, 114, 101] : List UInt8) ++
 s ++
 ([10] : List UInt8)),
 V.undef, V.undef, V.i IntKind.i64 x0Kind]
 h)
 (If (x0Kind != (3 : Int))
 (K Out.ret 103
 [V.lb
 [V.i IntKind.i64 x0Kind, V.i IntKind.i64 x0Where, V.i IntKind.i64 x0Place, V.i IntKind.i64 x0Err,
 V.i IntKind.i64 x0Fault, V.i IntKind.i64 x0TraceKind, V.i IntKind.i64 x0TraceN,
 V.ts cs0TraceChoices n0TraceChoices none, V.ts cs0Unused n0Unused none, V.ts cs0Witness n0Witness none,
 V.i IntKind.i64 x0Nodes],
 V.s ([] : List UInt8), V.undef, V.undef, V.i IntKind.i64 x0Kind]
 h)
 (∃ (s : List UInt8),
 (PCon Tryd.Y (19 : Nat) [V.i IntKind.i64 x0Nodes] fun (v : V) => v = V.s s) ∧
 ([112, 97, 115, 115] : List UInt8).length + s.length ≤
 1152921504606846976 ∧
 (([112, 97, 115, 115] : List UInt8) ++ s).length +
 ([10, 117, 110, 117, 115, 101, 100] : List UInt8).length ≤
 1152921504606846976 ∧
 K Out.normal 103
 [V.lb
 [V.i IntKind.i64 x0Kind, V.i IntKind.i64 x0Where, V.i IntKind.i64 x0Place, V.i IntKind.i64 x0Err,
 V.i IntKind.i64 x0Fault, V.i IntKind.i64 x0TraceKind, V.i IntKind.i64 x0TraceN,
 V.ts cs0TraceChoices n0TraceChoices none, V.ts cs0Unused n0Unused none,
 V.ts cs0Witness n0Witness none, V.i IntKind.i64 x0Nodes],
 V.s ([] : List UInt8),
 V.s
 (([112, 97, 115, 115] : List UInt8) ++ s ++
 ([10, 117, 110, 117, 115, 101, 100] : List UInt8)),
 V.i IntKind.i64 (0 : Int), V.i IntKind.i64 x0Kind]
 h))))) := by kernel_rfl
theorem f7_1 (x0Kind : Int) (x0Where : Int) (x0Place : Int) (x0Err : Int) (x0Fault : Int) (x0TraceKind : Int) (x0TraceN : Int) (cs0TraceChoices : List V) (n0TraceChoices : Nat) (cs0Unused : List V) (n0Unused : Nat) (cs0Witness : List V) (n0Witness : Nat) (x0Nodes : Int) (s3 : List UInt8) (x4 : Int) (h : Heap) (K : Out → Nat → List V → Heap → Prop) : (codeP Tryd.Y (Tryd.Y.loc 7) 100 ((flat (loopB (post (flat (bodyOf Tryd.f7)))))) ⟨mk 103 (([1, 3, 4, 8] : List Nat).zip [V.lb [V.i IntKind.i64 x0Kind, V.i IntKind.i64 x0Where, V.i IntKind.i64 x0Place, V.i IntKind.i64 x0Err, V.i IntKind.i64 x0Fault, V.i IntKind.i64 x0TraceKind, V.i IntKind.i64 x0TraceN, V.ts cs0TraceChoices n0TraceChoices none, V.ts cs0Unused n0Unused none, V.ts cs0Witness n0Witness none, V.i IntKind.i64 x0Nodes], V.s s3, V.i IntKind.i64 x4, V.i IntKind.i64 x0Kind]), [], h⟩ (VQ [1, 3, 4, 8] K)) =
  (If (ltI x4 (↑n0Unused : Int))
  (((0 : Int) ≤ x4 ∧ x4 < (↑n0Unused : Int)) ∧
 ∃ (n : Int),
 takeX 1 (List.drop (x4.toNat * (1 : Nat)) cs0Unused) = some [V.i IntKind.i64 n] ∧
 ∃ (s : List UInt8),
 (PCon Tryd.Y (19 : Nat) [V.i IntKind.i64 n] fun (v : V) => v = V.s s) ∧
 s3.length + s.length ≤ 1152921504606846976 ∧
 K Out.normal 103
 [V.lb
 [V.i IntKind.i64 x0Kind, V.i IntKind.i64 x0Where, V.i IntKind.i64 x0Place, V.i IntKind.i64 x0Err,
 V.i IntKind.i64 x0Fault, V.i IntKind.i64 x0TraceKind, V.i IntKind.i64 x0TraceN,
 V.ts cs0TraceChoices n0TraceChoices none, V.ts cs0Unused n0Unused none,
 V.ts cs0Witness n0Witness none, V.i IntKind.i64 x0Nodes],
 V.s (s3 ++ s), V.i IntKind.i64 (IntKind.i64.wrap (x4 + (1 : Int))), V.i IntKind.i64 x0Kind]
 h)
  (K (Out.exit 0) 103
 [V.lb
 [V.i IntKind.i64 x0Kind, V.i IntKind.i64 x0Where, V.i IntKind.i64 x0Place, V.i IntKind.i64 x0Err,
 V.i IntKind.i64 x0Fault, V.i IntKind.i64 x0TraceKind, V.i IntKind.i64 x0TraceN,
 V.ts cs0TraceChoices n0TraceChoices none, V.ts cs0Unused n0Unused none, V.ts cs0Witness n0Witness none,
 V.i IntKind.i64 x0Nodes],
 V.s s3, V.i IntKind.i64 x4, V.i IntKind.i64 x0Kind]
 h)) := by kernel_rfl
theorem f7_2 (x0Kind : Int) (x0Where : Int) (x0Place : Int) (x0Err : Int) (x0Fault : Int) (x0TraceKind : Int) (x0TraceN : Int) (cs0TraceChoices : List V) (n0TraceChoices : Nat) (cs0Unused : List V) (n0Unused : Nat) (cs0Witness : List V) (n0Witness : Nat) (x0Nodes : Int) (s3z2 : List UInt8) (h : Heap) (K : Out → Nat → List V → Heap → Prop) : (codeP Tryd.Y (Tryd.Y.loc 7) 100 (pre ((post (flat (bodyOf Tryd.f7))).drop 1)) ⟨mk 103 (([1, 3, 8] : List Nat).zip [V.lb [V.i IntKind.i64 x0Kind, V.i IntKind.i64 x0Where, V.i IntKind.i64 x0Place, V.i IntKind.i64 x0Err, V.i IntKind.i64 x0Fault, V.i IntKind.i64 x0TraceKind, V.i IntKind.i64 x0TraceN, V.ts cs0TraceChoices n0TraceChoices none, V.ts cs0Unused n0Unused none, V.ts cs0Witness n0Witness none, V.i IntKind.i64 x0Nodes], V.s s3z2, V.i IntKind.i64 x0Kind]), [], h⟩ (VQ [1, 3, 5, 8] K)) =
  (s3z2.length + ([10] : List UInt8).length ≤ 1152921504606846976 ∧
  K Out.normal 103
 [V.lb
 [V.i IntKind.i64 x0Kind, V.i IntKind.i64 x0Where, V.i IntKind.i64 x0Place, V.i IntKind.i64 x0Err,
 V.i IntKind.i64 x0Fault, V.i IntKind.i64 x0TraceKind, V.i IntKind.i64 x0TraceN,
 V.ts cs0TraceChoices n0TraceChoices none, V.ts cs0Unused n0Unused none, V.ts cs0Witness n0Witness none,
 V.i IntKind.i64 x0Nodes],
 V.s (s3z2 ++ ([10] : List UInt8)), V.i IntKind.i64 (0 : Int), V.i IntKind.i64 x0Kind]
 h) := by kernel_rfl
theorem f7_3 (x0Kind : Int) (x0Where : Int) (x0Place : Int) (x0Err : Int) (x0Fault : Int) (x0TraceKind : Int) (x0TraceN : Int) (cs0TraceChoices : List V) (n0TraceChoices : Nat) (cs0Unused : List V) (n0Unused : Nat) (cs0Witness : List V) (n0Witness : Nat) (x0Nodes : Int) (s3z3 : List UInt8) (x5z4 : Int) (h : Heap) (K : Out → Nat → List V → Heap → Prop) : (codeP Tryd.Y (Tryd.Y.loc 7) 100 ((flat (loopB (post ((post (flat (bodyOf Tryd.f7))).drop 1))))) ⟨mk 103 (([1, 3, 5, 8] : List Nat).zip [V.lb [V.i IntKind.i64 x0Kind, V.i IntKind.i64 x0Where, V.i IntKind.i64 x0Place, V.i IntKind.i64 x0Err, V.i IntKind.i64 x0Fault, V.i IntKind.i64 x0TraceKind, V.i IntKind.i64 x0TraceN, V.ts cs0TraceChoices n0TraceChoices none, V.ts cs0Unused n0Unused none, V.ts cs0Witness n0Witness none, V.i IntKind.i64 x0Nodes], V.s s3z3, V.i IntKind.i64 x5z4, V.i IntKind.i64 x0Kind]), [], h⟩ (VQ [1, 3, 5, 8] K)) =
  (If (ltI x5z4 (↑n0Witness : Int))
  (((0 : Int) ≤ x5z4 ∧ x5z4 < (↑n0Witness : Int)) ∧
 ∃ (n : Int),
 ∃ (n_1 : Int),
 ∃ (cs : List V),
 ∃ (l : Nat),
 ∃ (c : Option Nat),
 takeX 3 (List.drop (x5z4.toNat * (3 : Nat)) cs0Witness) =
 some [V.i IntKind.i64 n, V.i IntKind.i64 n_1, V.ts cs l c] ∧
 If (n != (0 : Int))
 (∃ (s : List UInt8),
 (PCon Tryd.Y (21 : Nat) [V.agg [V.i IntKind.i64 n, V.i IntKind.i64 n_1, V.ts cs l c]] fun (v : V) =>
 v = V.s s) ∧
 s3z3.length + s.length ≤ 1152921504606846976 ∧
 K Out.normal 103
 [V.lb
 [V.i IntKind.i64 x0Kind, V.i IntKind.i64 x0Where, V.i IntKind.i64 x0Place,
 V.i IntKind.i64 x0Err, V.i IntKind.i64 x0Fault, V.i IntKind.i64 x0TraceKind,
 V.i IntKind.i64 x0TraceN, V.ts cs0TraceChoices n0TraceChoices none,
 V.ts cs0Unused n0Unused none, V.ts cs0Witness n0Witness none, V.i IntKind.i64 x0Nodes],
 V.s (s3z3 ++ s), V.i IntKind.i64 (IntKind.i64.wrap (x5z4 + (1 : Int))),
 V.i IntKind.i64 x0Kind]
 h)
 (If (n_1 != (0 : Int))
 (∃ (s : List UInt8),
 (PCon Tryd.Y (21 : Nat) [V.agg [V.i IntKind.i64 n, V.i IntKind.i64 n_1, V.ts cs l c]]
 fun (v : V) => v = V.s s) ∧
 s3z3.length + s.length ≤ 1152921504606846976 ∧
 K Out.normal 103
 [V.lb
 [V.i IntKind.i64 x0Kind, V.i IntKind.i64 x0Where, V.i IntKind.i64 x0Place,
 V.i IntKind.i64 x0Err, V.i IntKind.i64 x0Fault, V.i IntKind.i64 x0TraceKind,
 V.i IntKind.i64 x0TraceN, V.ts cs0TraceChoices n0TraceChoices none,
 V.ts cs0Unused n0Unused none, V.ts cs0Witness n0Witness none,
 V.i IntKind.i64 x0Nodes],
 V.s (s3z3 ++ s), V.i IntKind.i64 (IntKind.i64.wrap (x5z4 + (1 : Int))),
 V.i IntKind.i64 x0Kind]
 h)
 (If (ltI (0 : Int) (↑l : Int))
 (∃ (s : List UInt8),
 (PCon Tryd.Y (21 : Nat) [V.agg [V.i IntKind.i64 n, V.i IntKind.i64 n_1, V.ts cs l c]]
 fun (v : V) => v = V.s s) ∧
 s3z3.length + s.length ≤ 1152921504606846976 ∧
 K Out.normal 103
 [V.lb
 [V.i IntKind.i64 x0Kind, V.i IntKind.i64 x0Where, V.i IntKind.i64 x0Place,
 V.i IntKind.i64 x0Err, V.i IntKind.i64 x0Fault, V.i IntKind.i64 x0TraceKind,
 V.i IntKind.i64 x0TraceN, V.ts cs0TraceChoices n0TraceChoices none,
 V.ts cs0Unused n0Unused none, V.ts cs0Witness n0Witness none,
 V.i IntKind.i64 x0Nodes],
 V.s (s3z3 ++ s), V.i IntKind.i64 (IntKind.i64.wrap (x5z4 + (1 : Int))),
 V.i IntKind.i64 x0Kind]
 h)
 (K Out.normal 103
 [V.lb
 [V.i IntKind.i64 x0Kind, V.i IntKind.i64 x0Where, V.i IntKind.i64 x0Place,
 V.i IntKind.i64 x0Err, V.i IntKind.i64 x0Fault, V.i IntKind.i64 x0TraceKind,
 V.i IntKind.i64 x0TraceN, V.ts cs0TraceChoices n0TraceChoices none,
 V.ts cs0Unused n0Unused none, V.ts cs0Witness n0Witness none, V.i IntKind.i64 x0Nodes],
 V.s s3z3, V.i IntKind.i64 (IntKind.i64.wrap (x5z4 + (1 : Int))), V.i IntKind.i64 x0Kind]
 h))))
  (K (Out.exit 2) 103
 [V.lb
 [V.i IntKind.i64 x0Kind, V.i IntKind.i64 x0Where, V.i IntKind.i64 x0Place, V.i IntKind.i64 x0Err,
 V.i IntKind.i64 x0Fault, V.i IntKind.i64 x0TraceKind, V.i IntKind.i64 x0TraceN,
 V.ts cs0TraceChoices n0TraceChoices none, V.ts cs0Unused n0Unused none, V.ts cs0Witness n0Witness none,
 V.i IntKind.i64 x0Nodes],
 V.s s3z3, V.i IntKind.i64 x5z4, V.i IntKind.i64 x0Kind]
 h)) := by kernel_rfl
theorem f7_4 (s3z4 : List UInt8) (h : Heap) (K : Out → Nat → List V → Heap → Prop) : (codeP Tryd.Y (Tryd.Y.loc 7) 100 (((post ((post (flat (bodyOf Tryd.f7))).drop 1)).drop 1)) ⟨mk 103 (([3] : List Nat).zip [V.s s3z4]), [], h⟩ (VQ [2] K)) =
  (K Out.ret 103 [V.s s3z4] h) := by kernel_rfl
theorem f9_0 (x0PC : Int) (cs0Vars : List V) (n0Vars : Nat) (s0Cuts_0 : List UInt8) (s0Cuts_1 : List UInt8) (s0Cuts_2 : List UInt8) (s0Cuts_3 : List UInt8) (s0Cuts_4 : List UInt8) (s0Cuts_5 : List UInt8) (s0Cuts_6 : List UInt8) (s0Cuts_7 : List UInt8) (s0Cuts_8 : List UInt8) (s0Cuts_9 : List UInt8) (cs0Stack : List V) (n0Stack : Nat) (x0Mode : Int) (x0Err : Int) (x0Use : Int) (x0Timeout : Int) (x0Elapsed : Int) (cs0Before : List V) (n0Before : Nat) (cs0After : List V) (n0After : Nat) (cs0Sides : List V) (n0Sides : Nat) (h : Heap) (K : Out → Nat → List V → Heap → Prop) : (codeP Tryd.Y (Tryd.Y.loc 9) 100 (pre (flat (bodyOf Tryd.f9))) ⟨(V.agg [V.i IntKind.i64 x0PC, V.ts cs0Vars n0Vars none, V.s s0Cuts_0, V.s s0Cuts_1, V.s s0Cuts_2, V.s s0Cuts_3, V.s s0Cuts_4, V.s s0Cuts_5, V.s s0Cuts_6, V.s s0Cuts_7, V.s s0Cuts_8, V.s s0Cuts_9, V.ts cs0Stack n0Stack none, V.i IntKind.i64 x0Mode, V.i IntKind.i64 x0Err, V.i IntKind.i64 x0Use, V.i IntKind.i64 x0Timeout, V.i IntKind.i64 x0Elapsed, V.ts cs0Before n0Before none, V.ts cs0After n0After none, V.ts cs0Sides n0Sides none] :: List.replicate 60 .undef), [], h⟩ (VQ [1, 4, 28, 29, 30] K)) =
  (∃ (s : List UInt8),
  (PCon Tryd.Y (26 : Nat) [V.i IntKind.i64 x0Mode] fun (v : V) => v = V.s s) ∧
 ∃ (s_1 : List UInt8),
 (PCon Tryd.Y (16 : Nat) [V.i IntKind.i64 x0PC] fun (v : V) => v = V.s s_1) ∧
 If (x0Mode == (3 : Int))
 (∃ (s_2 : List UInt8),
 (PCon Tryd.Y (16 : Nat) [V.i IntKind.i64 x0Err] fun (v : V) => v = V.s s_2) ∧
 ∃ (a : Option (Nat × Nat)),
 ∃ (l : Nat),
 ∃ (c : Option Nat),
 ∃ (k : Nat),
 ∃ (h_1 : Heap),
 appendH Tryd.Y (h.push (YObj.arr [V.s s, V.s s_1] true)) 51 51
 (V.sl (some (h.nx, 0)) 2 (some 2) 1)
 (V.ts [V.s s_2] 1 (some 1)) =
 some (V.sl a l c k, h_1) ∧
 ∃ (s : List UInt8),
 FCon Tryd.Y (13 : Nat) [V.sl a l c k] h_1 (V.s s) ∧
 K Out.normal 61
 [V.lb
 [V.i IntKind.i64 x0PC, V.ts cs0Vars n0Vars none, V.s s0Cuts_0, V.s s0Cuts_1,
 V.s s0Cuts_2, V.s s0Cuts_3, V.s s0Cuts_4, V.s s0Cuts_5, V.s s0Cuts_6,
 V.s s0Cuts_7, V.s s0Cuts_8, V.s s0Cuts_9, V.ts cs0Stack n0Stack none,
 V.i IntKind.i64 x0Mode, V.i IntKind.i64 x0Err, V.i IntKind.i64 x0Use,
 V.i IntKind.i64 x0Timeout, V.i IntKind.i64 x0Elapsed,
 V.ts cs0Before n0Before none, V.ts cs0After n0After none,
 V.ts cs0Sides n0Sides none],
 V.s s, V.ts cs0Vars n0Vars none, V.i IntKind.i64 (↑n0Vars : Int),
 V.i IntKind.i64 (0 : Int)]
 h_1)
 (∃ (s_2 : List UInt8),
 FCon Tryd.Y (13 : Nat) [V.sl (some (h.nx, 0)) 2 (some 2) 1]
 (h.push (YObj.arr [V.s s, V.s s_1] true)) (V.s s_2) ∧
 K Out.normal 61
 [V.lb
 [V.i IntKind.i64 x0PC, V.ts cs0Vars n0Vars none, V.s s0Cuts_0, V.s s0Cuts_1, V.s s0Cuts_2,
 V.s s0Cuts_3, V.s s0Cuts_4, V.s s0Cuts_5, V.s s0Cuts_6, V.s s0Cuts_7, V.s s0Cuts_8, V.s s0Cuts_9,
 V.ts cs0Stack n0Stack none, V.i IntKind.i64 x0Mode, V.i IntKind.i64 x0Err, V.i IntKind.i64 x0Use,
 V.i IntKind.i64 x0Timeout, V.i IntKind.i64 x0Elapsed, V.ts cs0Before n0Before none,
 V.ts cs0After n0After none, V.ts cs0Sides n0Sides none],
 V.s s_2, V.ts cs0Vars n0Vars none, V.i IntKind.i64 (↑n0Vars : Int), V.i IntKind.i64 (0 : Int)]
 (h.push (YObj.arr [V.s s, V.s s_1] true)))) := by kernel_rfl
theorem f9_1 (x0PC : Int) (cs0Vars : List V) (n0Vars : Nat) (cs0Stack : List V) (n0Stack : Nat) (x0Mode : Int) (x0Err : Int) (x0Use : Int) (x0Timeout : Int) (x0Elapsed : Int) (cs0Before : List V) (n0Before : Nat) (cs0After : List V) (n0After : Nat) (cs0Sides : List V) (n0Sides : Nat) (s1_2 : List UInt8) (s1_3 : List UInt8) (s1_4 : List UInt8) (s1_5 : List UInt8) (s1_6 : List UInt8) (s1_7 : List UInt8) (s1_8 : List UInt8) (s1_9 : List UInt8) (s1_10 : List UInt8) (s1_11 : List UInt8) (s4 : List UInt8) (x30 : Int) (h : Heap) (K : Out → Nat → List V → Heap → Prop) : (codeP Tryd.Y (Tryd.Y.loc 9) 100 ((flat (loopB (post (flat (bodyOf Tryd.f9)))))) ⟨mk 61 (([1, 4, 28, 29, 30] : List Nat).zip [V.lb [V.i IntKind.i64 x0PC, V.ts cs0Vars n0Vars none, V.s s1_2, V.s s1_3, V.s s1_4, V.s s1_5, V.s s1_6, V.s s1_7, V.s s1_8, V.s s1_9, V.s s1_10, V.s s1_11, V.ts cs0Stack n0Stack none, V.i IntKind.i64 x0Mode, V.i IntKind.i64 x0Err, V.i IntKind.i64 x0Use, V.i IntKind.i64 x0Timeout, V.i IntKind.i64 x0Elapsed, V.ts cs0Before n0Before none, V.ts cs0After n0After none, V.ts cs0Sides n0Sides none], V.s s4, V.ts cs0Vars n0Vars none, V.i IntKind.i64 (↑n0Vars : Int), V.i IntKind.i64 x30]), [], h⟩ (VQ [1, 4, 28, 29, 30] K)) =
  (If (ltI x30 (↑n0Vars : Int))
  (((0 : Int) ≤ x30 ∧ x30 < (↑n0Vars : Int)) ∧
 ∃ (s : List UInt8),
 ∃ (s_1 : List UInt8),
 takeX 2 (List.drop (x30.toNat * (2 : Nat)) cs0Vars) = some [V.s s, V.s s_1] ∧
 ∃ (s_2 : List UInt8),
 (PCon Tryd.Y (11 : Nat) [V.s s_1] fun (v : V) => v = V.s s_2) ∧
 ∃ (s_3 : List UInt8),
 FCon Tryd.Y (13 : Nat)
 [V.ts [V.s ([115, 101, 116] : List UInt8), V.s s, V.s s_2] 3
 (some 3)]
 h (V.s s_3) ∧
 s4.length + s_3.length ≤ 1152921504606846976 ∧
 K Out.normal 61
 [V.lb
 [V.i IntKind.i64 x0PC, V.ts cs0Vars n0Vars none, V.s s1_2, V.s s1_3, V.s s1_4, V.s s1_5,
 V.s s1_6, V.s s1_7, V.s s1_8, V.s s1_9, V.s s1_10, V.s s1_11, V.ts cs0Stack n0Stack none,
 V.i IntKind.i64 x0Mode, V.i IntKind.i64 x0Err, V.i IntKind.i64 x0Use,
 V.i IntKind.i64 x0Timeout, V.i IntKind.i64 x0Elapsed, V.ts cs0Before n0Before none,
 V.ts cs0After n0After none, V.ts cs0Sides n0Sides none],
 V.s (s4 ++ s_3), V.ts cs0Vars n0Vars none, V.i IntKind.i64 (↑n0Vars : Int),
 V.i IntKind.i64 (IntKind.i64.wrap (x30 + (1 : Int)))]
 h)
  (K (Out.exit 0) 61
 [V.lb
 [V.i IntKind.i64 x0PC, V.ts cs0Vars n0Vars none, V.s s1_2, V.s s1_3, V.s s1_4, V.s s1_5, V.s s1_6, V.s s1_7,
 V.s s1_8, V.s s1_9, V.s s1_10, V.s s1_11, V.ts cs0Stack n0Stack none, V.i IntKind.i64 x0Mode,
 V.i IntKind.i64 x0Err, V.i IntKind.i64 x0Use, V.i IntKind.i64 x0Timeout, V.i IntKind.i64 x0Elapsed,
 V.ts cs0Before n0Before none, V.ts cs0After n0After none, V.ts cs0Sides n0Sides none],
 V.s s4, V.ts cs0Vars n0Vars none, V.i IntKind.i64 (↑n0Vars : Int), V.i IntKind.i64 x30]
 h)) := by kernel_rfl
theorem f9_2 (x0PC : Int) (cs0Vars : List V) (n0Vars : Nat) (cs0Stack : List V) (n0Stack : Nat) (x0Mode : Int) (x0Err : Int) (x0Use : Int) (x0Timeout : Int) (x0Elapsed : Int) (cs0Before : List V) (n0Before : Nat) (cs0After : List V) (n0After : Nat) (cs0Sides : List V) (n0Sides : Nat) (s1_2z2 : List UInt8) (s1_3z2 : List UInt8) (s1_4z2 : List UInt8) (s1_5z2 : List UInt8) (s1_6z2 : List UInt8) (s1_7z2 : List UInt8) (s1_8z2 : List UInt8) (s1_9z2 : List UInt8) (s1_10z2 : List UInt8) (s1_11z2 : List UInt8) (s4z2 : List UInt8) (h : Heap) (K : Out → Nat → List V → Heap → Prop) : (codeP Tryd.Y (Tryd.Y.loc 9) 100 (pre ((post (flat (bodyOf Tryd.f9))).drop 1)) ⟨mk 61 (([1, 4] : List Nat).zip [V.lb [V.i IntKind.i64 x0PC, V.ts cs0Vars n0Vars none, V.s s1_2z2, V.s s1_3z2, V.s s1_4z2, V.s s1_5z2, V.s s1_6z2, V.s s1_7z2, V.s s1_8z2, V.s s1_9z2, V.s s1_10z2, V.s s1_11z2, V.ts cs0Stack n0Stack none, V.i IntKind.i64 x0Mode, V.i IntKind.i64 x0Err, V.i IntKind.i64 x0Use, V.i IntKind.i64 x0Timeout, V.i IntKind.i64 x0Elapsed, V.ts cs0Before n0Before none, V.ts cs0After n0After none, V.ts cs0Sides n0Sides none], V.s s4z2]), [], h⟩ (VQ [4, 45, 46, 47] K)) =
  (K Out.normal 61
  [V.s s4z2, V.ts cs0Sides n0Sides none, V.i IntKind.i64 (↑n0Sides : Int), V.i IntKind.i64 (0 : Int)] h) := by kernel_rfl
theorem f9_3 (cs0Sides : List V) (n0Sides : Nat) (s4z3 : List UInt8) (x47z2 : Int) (h : Heap) (K : Out → Nat → List V → Heap → Prop) : (codeP Tryd.Y (Tryd.Y.loc 9) 100 ((flat (loopB (post ((post (flat (bodyOf Tryd.f9))).drop 1))))) ⟨mk 61 (([4, 45, 46, 47] : List Nat).zip [V.s s4z3, V.ts cs0Sides n0Sides none, V.i IntKind.i64 (↑n0Sides : Int), V.i IntKind.i64 x47z2]), [], h⟩ (VQ [4, 45, 46, 47] K)) =
  (If (ltI x47z2 (↑n0Sides : Int))
  (((0 : Int) ≤ x47z2 ∧ x47z2 < (↑n0Sides : Int)) ∧
 ∃ (b : Bool),
 ∃ (b_1 : Bool),
 ∃ (b_2 : Bool),
 ∃ (n : Int),
 ∃ (n_1 : Int),
 ∃ (s : List UInt8),
 ∃ (cs : List V),
 ∃ (l : Nat),
 ∃ (c : Option Nat),
 ∃ (s_1 : List UInt8),
 ∃ (cs_1 : List V),
 ∃ (l_1 : Nat),
 ∃ (c_1 : Option Nat),
 ∃ (s_2 : List UInt8),
 ∃ (s_3 : List UInt8),
 takeX 11 (List.drop (x47z2.toNat * (11 : Nat)) cs0Sides) =
 some
 [V.b b, V.b b_1, V.b b_2, V.i IntKind.i64 n, V.i IntKind.i64 n_1, V.s s,
 V.ts cs l c, V.s s_1, V.ts cs_1 l_1 c_1, V.s s_2, V.s s_3] ∧
 If b
 (∃ (s_4 : List UInt8),
 (PCon Tryd.Y (27 : Nat)
 [V.i IntKind.i64 x47z2,
 V.agg
 [V.b b, V.b b_1, V.b b_2, V.i IntKind.i64 n, V.i IntKind.i64 n_1, V.s s,
 V.ts cs l c, V.s s_1, V.ts cs_1 l_1 c_1, V.s s_2, V.s s_3]]
 fun (v : V) => v = V.s s_4) ∧
 s4z3.length + s_4.length ≤ 1152921504606846976 ∧
 K Out.normal 61
 [V.s (s4z3 ++ s_4), V.ts cs0Sides n0Sides none,
 V.i IntKind.i64 (↑n0Sides : Int),
 V.i IntKind.i64 (IntKind.i64.wrap (x47z2 + (1 : Int)))]
 h)
 (K Out.normal 61
 [V.s s4z3, V.ts cs0Sides n0Sides none, V.i IntKind.i64 (↑n0Sides : Int),
 V.i IntKind.i64 (IntKind.i64.wrap (x47z2 + (1 : Int)))]
 h))
  (K (Out.exit 2) 61
 [V.s s4z3, V.ts cs0Sides n0Sides none, V.i IntKind.i64 (↑n0Sides : Int), V.i IntKind.i64 x47z2] h)) := by kernel_rfl
theorem f9_4 (s4z4 : List UInt8) (h : Heap) (K : Out → Nat → List V → Heap → Prop) : (codeP Tryd.Y (Tryd.Y.loc 9) 100 (((post ((post (flat (bodyOf Tryd.f9))).drop 1)).drop 1)) ⟨mk 61 (([4] : List Nat).zip [V.s s4z4]), [], h⟩ (VQ [2] K)) =
  (K Out.ret 61 [V.s s4z4] h) := by kernel_rfl
theorem f18_0 (x0Kind : Int) (x0Where : Int) (x0Place : Int) (x0Err : Int) (x0Fault : Int) (x0TraceKind : Int) (x0TraceN : Int) (cs0TraceChoices : List V) (n0TraceChoices : Nat) (cs0Unused : List V) (n0Unused : Nat) (cs0Witness : List V) (n0Witness : Nat) (x0Nodes : Int) (h : Heap) (K : Out → Nat → List V → Heap → Prop) : (codeP Tryd.Y (Tryd.Y.loc 18) 100 (pre (flat (bodyOf Tryd.f18))) ⟨(V.agg [V.i IntKind.i64 x0Kind, V.i IntKind.i64 x0Where, V.i IntKind.i64 x0Place, V.i IntKind.i64 x0Err, V.i IntKind.i64 x0Fault, V.i IntKind.i64 x0TraceKind, V.i IntKind.i64 x0TraceN, V.ts cs0TraceChoices n0TraceChoices none, V.ts cs0Unused n0Unused none, V.ts cs0Witness n0Witness none, V.i IntKind.i64 x0Nodes] :: List.replicate 44 .undef), [], h⟩ (VQ [3, 8, 20, 21, 22] K)) =
  (∃ (s : List UInt8),
  (PCon Tryd.Y (16 : Nat) [V.i IntKind.i64 x0Nodes] fun (v : V) => v = V.s s) ∧
 ∃ (s_1 : List UInt8),
 FCon Tryd.Y (13 : Nat)
 [V.ts [V.s ([112, 97, 115, 115] : List UInt8), V.s s] 2
 (some 2)]
 (h.pushT (Tryd.Y.tag (86 : Nat)) (YObj.arr [V.p none, V.sl none (0 : Nat) (some (0 : Nat)) (0 : Nat)] true))
 (V.s s_1) ∧
 Con Tryd.Y (35 : Nat) [V.p (some (h.nx, 0)), V.s s_1]
 (h.pushT (Tryd.Y.tag (86 : Nat)) (YObj.arr [V.p none, V.sl none (0 : Nat) (some (0 : Nat)) (0 : Nat)] true))
 fun (v : V) (h' : Heap) =>
 ∃ (n : Int),
 (v = V.tup [V.i IntKind.i64 n, V.nilifc] ∧
 ∃ (cs : List V),
 ∃ (l : Nat),
 ∃ (c : Option Nat),
 (PCon Tryd.Y (14 : Nat) [V.ts cs0Unused n0Unused none] fun (v : V) => v = V.ts cs l c) ∧
 ∃ (a : Option (Nat × Nat)),
 ∃ (l_1 : Nat),
 ∃ (c_1 : Option Nat),
 ∃ (k : Nat),
 ∃ (h_1 : Heap),
 appendH Tryd.Y
 (h'.push
 (YObj.arr
 [V.s
 ([117, 110, 117, 115, 101, 100] : List UInt8)]
 true))
 51 51
 (V.sl (some (h'.nx, 0)) 1 (some 1) 1)
 (V.ts cs l c) =
 some (V.sl a l_1 c_1 k, h_1) ∧
 ∃ (s_2 : List UInt8),
 FCon Tryd.Y (13 : Nat) [V.sl a l_1 c_1 k] h_1 (V.s s_2) ∧
 Con Tryd.Y (35 : Nat) [V.p (some (h.nx, 0)), V.s s_2] h_1
 fun (v : V) (h' : Heap) =>
 ∃ (n : Int),
 v = V.tup [V.i IntKind.i64 n, V.nilifc] ∧
 K Out.normal 45
 [V.p (some (h.nx, 0)), V.s s, V.ts cs0Witness n0Witness none,
 V.i IntKind.i64 (↑n0Witness : Int), V.i IntKind.i64 (0 : Int)]
 h' ∨
 ∃ (t : TypeId),
 ∃ (v_1 : V),
 v = V.tup [V.i IntKind.i64 n, V.ifc t v_1] ∧
 K Out.normal 45
 [V.p (some (h.nx, 0)), V.s s,
 V.ts cs0Witness n0Witness none,
 V.i IntKind.i64 (↑n0Witness : Int), V.i IntKind.i64 (0 : Int)]
 h') ∨
 ∃ (t : TypeId),
 ∃ (v_1 : V),
 v = V.tup [V.i IntKind.i64 n, V.ifc t v_1] ∧
 ∃ (cs : List V),
 ∃ (l : Nat),
 ∃ (c : Option Nat),
 (PCon Tryd.Y (14 : Nat) [V.ts cs0Unused n0Unused none] fun (v : V) => v = V.ts cs l c) ∧
 ∃ (a : Option (Nat × Nat)),
 ∃ (l_1 : Nat),
 ∃ (c_1 : Option Nat),
 ∃ (k : Nat),
 ∃ (h_1 : Heap),
 appendH Tryd.Y
 (h'.push
 (YObj.arr
 [V.s
 ([117, 110, 117, 115, 101, 100] : List UInt8)]
 true))
 51 51
 (V.sl (some (h'.nx, 0)) 1 (some 1) 1)
 (V.ts cs l c) =
 some (V.sl a l_1 c_1 k, h_1) ∧
 ∃ (s_2 : List UInt8),
 FCon Tryd.Y (13 : Nat) [V.sl a l_1 c_1 k] h_1 (V.s s_2) ∧
 Con Tryd.Y (35 : Nat) [V.p (some (h.nx, 0)), V.s s_2] h_1
 fun (v : V) (h' : Heap) =>
 ∃ (n : Int),
 v = V.tup [V.i IntKind.i64 n, V.nilifc] ∧
 K Out.normal 45
 [V.p (some (h.nx, 0)), V.s s,
 V.ts cs0Witness n0Witness none,
 V.i IntKind.i64 (↑n0Witness : Int), V.i IntKind.i64 (0 : Int)]
 h' ∨
 ∃ (t : TypeId),
 ∃ (v_2 : V),
 v = V.tup [V.i IntKind.i64 n, V.ifc t v_2] ∧
 K Out.normal 45
 [V.p (some (h.nx, 0)), V.s s,
 V.ts cs0Witness n0Witness none,
 V.i IntKind.i64 (↑n0Witness : Int),
 V.i IntKind.i64 (0 : Int)]
 h') := by kernel_rfl
theorem f18_1 (cs0Witness : List V) (n0Witness : Nat) (id3 : Nat) (s8 : List UInt8) (x22z7 : Int) (h : Heap) (K : Out → Nat → List V → Heap → Prop) : (codeP Tryd.Y (Tryd.Y.loc 18) 100 ((flat (loopB (post (flat (bodyOf Tryd.f18)))))) ⟨mk 45 (([3, 8, 20, 21, 22] : List Nat).zip [V.p (some (id3, 0)), V.s s8, V.ts cs0Witness n0Witness none, V.i IntKind.i64 (↑n0Witness : Int), V.i IntKind.i64 x22z7]), [], h⟩ (VQ [3, 8, 20, 21, 22] K)) =
  (If (ltI x22z7 (↑n0Witness : Int))
  (((0 : Int) ≤ x22z7 ∧ x22z7 < (↑n0Witness : Int)) ∧
 ∃ (n : Int),
 ∃ (n_1 : Int),
 ∃ (cs : List V),
 ∃ (l : Nat),
 ∃ (c : Option Nat),
 takeX 3 (List.drop (x22z7.toNat * (3 : Nat)) cs0Witness) =
 some [V.i IntKind.i64 n, V.i IntKind.i64 n_1, V.ts cs l c] ∧
 If (n != (0 : Int))
 (∃ (s : List UInt8),
 (PCon Tryd.Y (17 : Nat) [V.agg [V.i IntKind.i64 n, V.i IntKind.i64 n_1, V.ts cs l c]] fun (v : V) =>
 v = V.s s) ∧
 Con Tryd.Y (35 : Nat) [V.p (some (id3, 0)), V.s s] h fun (v : V) (h' : Heap) =>
 ∃ (n : Int),
 v = V.tup [V.i IntKind.i64 n, V.nilifc] ∧
 K Out.normal 45
 [V.p (some (id3, 0)), V.s s8, V.ts cs0Witness n0Witness none,
 V.i IntKind.i64 (↑n0Witness : Int),
 V.i IntKind.i64 (IntKind.i64.wrap (x22z7 + (1 : Int)))]
 h' ∨
 ∃ (t : TypeId),
 ∃ (v_1 : V),
 v = V.tup [V.i IntKind.i64 n, V.ifc t v_1] ∧
 K Out.normal 45
 [V.p (some (id3, 0)), V.s s8, V.ts cs0Witness n0Witness none,
 V.i IntKind.i64 (↑n0Witness : Int),
 V.i IntKind.i64 (IntKind.i64.wrap (x22z7 + (1 : Int)))]
 h')
 (If (n_1 != (0 : Int))
 (∃ (s : List UInt8),
 (PCon Tryd.Y (17 : Nat) [V.agg [V.i IntKind.i64 n, V.i IntKind.i64 n_1, V.ts cs l c]]
 fun (v : V) => v = V.s s) ∧
 Con Tryd.Y (35 : Nat) [V.p (some (id3, 0)), V.s s] h fun (v : V) (h' : Heap) =>
 ∃ (n : Int),
 v = V.tup [V.i IntKind.i64 n, V.nilifc] ∧
 K Out.normal 45
 [V.p (some (id3, 0)), V.s s8, V.ts cs0Witness n0Witness none,
 V.i IntKind.i64 (↑n0Witness : Int),
 V.i IntKind.i64 (IntKind.i64.wrap (x22z7 + (1 : Int)))]
 h' ∨
 ∃ (t : TypeId),
 ∃ (v_1 : V),
 v = V.tup [V.i IntKind.i64 n, V.ifc t v_1] ∧
 K Out.normal 45
 [V.p (some (id3, 0)), V.s s8, V.ts cs0Witness n0Witness none,
 V.i IntKind.i64 (↑n0Witness : Int),
 V.i IntKind.i64 (IntKind.i64.wrap (x22z7 + (1 : Int)))]
 h')
 (If (ltI (0 : Int) (↑l : Int))
 (∃ (s : List UInt8),
 (PCon Tryd.Y (17 : Nat) [V.agg [V.i IntKind.i64 n, V.i IntKind.i64 n_1, V.ts cs l c]]
 fun (v : V) => v = V.s s) ∧
 Con Tryd.Y (35 : Nat) [V.p (some (id3, 0)), V.s s] h fun (v : V) (h' : Heap) =>
 ∃ (n : Int),
 v = V.tup [V.i IntKind.i64 n, V.nilifc] ∧
 K Out.normal 45
 [V.p (some (id3, 0)), V.s s8, V.ts cs0Witness n0Witness none,
 V.i IntKind.i64 (↑n0Witness : Int),
 V.i IntKind.i64 (IntKind.i64.wrap (x22z7 + (1 : Int)))]
 h' ∨
 ∃ (t : TypeId),
 ∃ (v_1 : V),
 v = V.tup [V.i IntKind.i64 n, V.ifc t v_1] ∧
 K Out.normal 45
 [V.p (some (id3, 0)), V.s s8, V.ts cs0Witness n0Witness none,
 V.i IntKind.i64 (↑n0Witness : Int),
 V.i IntKind.i64 (IntKind.i64.wrap (x22z7 + (1 : Int)))]
 h')
 (K Out.normal 45
 [V.p (some (id3, 0)), V.s s8, V.ts cs0Witness n0Witness none,
 V.i IntKind.i64 (↑n0Witness : Int), V.i IntKind.i64 (IntKind.i64.wrap (x22z7 + (1 : Int)))]
 h))))
  (K (Out.exit 0) 45
 [V.p (some (id3, 0)), V.s s8, V.ts cs0Witness n0Witness none, V.i IntKind.i64 (↑n0Witness : Int),
 V.i IntKind.i64 x22z7]
 h)) := by kernel_rfl
theorem f18_2 (id3 : Nat) (h : Heap) (K : Out → Nat → List V → Heap → Prop) : (codeP Tryd.Y (Tryd.Y.loc 18) 100 (((post (flat (bodyOf Tryd.f18))).drop 1)) ⟨mk 45 (([3] : List Nat).zip [V.p (some (id3, 0))]), [], h⟩ (VQ [2] K)) =
  (Con Tryd.Y (36 : Nat) [V.p (some (id3, 0))] h fun (v : V) (h' : Heap) =>
  ∃ (s : List UInt8), v = V.s s ∧ K Out.ret 45 [V.s s] h') := by kernel_rfl
theorem f27_0 (x0 : Int) (b1On : Bool) (b1Shut : Bool) (b1Eof : Bool) (x1Place : Int) (x1Clock : Int) (s1Typed : List UInt8) (cs1Lines : List V) (n1Lines : Nat) (s1Fly : List UInt8) (cs1Ages : List V) (n1Ages : Nat) (s1Ready : List UInt8) (s1Buffer : List UInt8) (h : Heap) (K : Out → Nat → List V → Heap → Prop) : (codeP Tryd.Y (Tryd.Y.loc 27) 100 (pre (flat (bodyOf Tryd.f27))) ⟨(V.i IntKind.i64 x0 :: V.agg [V.b b1On, V.b b1Shut, V.b b1Eof, V.i IntKind.i64 x1Place, V.i IntKind.i64 x1Clock, V.s s1Typed, V.ts cs1Lines n1Lines none, V.s s1Fly, V.ts cs1Ages n1Ages none, V.s s1Ready, V.s s1Buffer] :: List.replicate 85 .undef), [], h⟩ (VQ [3, 5, 46, 47, 48] K)) =
  (∃ (cs : List V),
  ∃ (l : Nat),
 ∃ (c : Option Nat),
 (PCon Tryd.Y (14 : Nat)
 [V.ts [V.i IntKind.i64 x0, V.i IntKind.i64 x1Place, V.i IntKind.i64 x1Clock] 3 (some 3)]
 fun (v : V) => v = V.ts cs l c) ∧
 ∃ (a : Option (Nat × Nat)),
 ∃ (l_1 : Nat),
 ∃ (c_1 : Option Nat),
 ∃ (k : Nat),
 ∃ (h_1 : Heap),
 appendH Tryd.Y
 (h.push
 (YObj.arr [V.s ([112, 101, 101, 114] : List UInt8)] true))
 51 51
 (V.sl (some (h.nx, 0)) 1 (some 1) 1) (V.ts cs l c) =
 some (V.sl a l_1 c_1 k, h_1) ∧
 If b1Shut
 (∃ (a_1 : Option (Nat × Nat)),
 ∃ (l : Nat),
 ∃ (c : Option Nat),
 ∃ (k_1 : Nat),
 ∃ (h : Heap),
 appendH Tryd.Y h_1 51 51 (V.sl a l_1 c_1 k)
 (V.ts [V.s ([115, 104, 117, 116] : List UInt8)]
 1 (some 1)) =
 some (V.sl a_1 l c k_1, h) ∧
 If b1Eof
 (∃ (a : Option (Nat × Nat)),
 ∃ (l_2 : Nat),
 ∃ (c_2 : Option Nat),
 ∃ (k : Nat),
 ∃ (h_2 : Heap),
 appendH Tryd.Y h 51 51 (V.sl a_1 l c k_1)
 (V.ts [V.s ([101, 111, 102] : List UInt8)]
 1 (some 1)) =
 some (V.sl a l_2 c_2 k, h_2) ∧
 If (!s1Typed == ([] : List UInt8))
 (∃ (s : List UInt8),
 (PCon Tryd.Y (11 : Nat) [V.s s1Typed] fun (v : V) => v = V.s s) ∧
 ∃ (a_2 : Option (Nat × Nat)),
 ∃ (l : Nat),
 ∃ (c : Option Nat),
 ∃ (k_2 : Nat),
 ∃ (h : Heap),
 appendH Tryd.Y h_2 51 51
 (V.sl a l_2 c_2 k)
 (V.ts
 [V.s
 ([116, 121, 112, 101, 100] : List UInt8),
 V.s s]
 2 (some 2)) =
 some (V.sl a_2 l c k_2, h) ∧
 If (ltI (0 : Int) (↑n1Lines : Int))
 (∃ (a : Option (Nat × Nat)),
 ∃ (l_3 : Nat),
 ∃ (c_3 : Option Nat),
 ∃ (k : Nat),
 ∃ (h_3 : Heap),
 appendH Tryd.Y h 51 51
 (V.sl a_2 l c k_2)
 (V.ts
 [V.s
 ([108, 105, 110, 101, 115] : List UInt8)]
 1 (some 1)) =
 some (V.sl a l_3 c_3 k, h_3) ∧
 K Out.normal 87
 [V.lb
 [V.b b1On, V.b b1Shut, V.b b1Eof,
 V.i IntKind.i64 x1Place,
 V.i IntKind.i64 x1Clock,
 V.s s1Typed,
 V.ts cs1Lines n1Lines none,
 V.s s1Fly,
 V.ts cs1Ages n1Ages none,
 V.s s1Ready, V.s s1Buffer],
 V.sl a l_3 c_3 k,
 V.ts cs1Lines n1Lines none,
 V.i IntKind.i64 (↑n1Lines : Int),
 V.i IntKind.i64 (0 : Int)]
 h_3)
 (K Out.normal 87
 [V.lb
 [V.b b1On, V.b b1Shut, V.b b1Eof,
 V.i IntKind.i64 x1Place,
 V.i IntKind.i64 x1Clock, V.s s1Typed,
 V.ts cs1Lines n1Lines none, V.s s1Fly,
 V.ts cs1Ages n1Ages none, V.s s1Ready,
 V.s s1Buffer],
 V.sl a_2 l c k_2, V.ts cs1Lines n1Lines none,
 V.i IntKind.i64 (↑n1Lines : Int),
 V.i IntKind.i64 (0 : Int)]
 h))
 (If (ltI (0 : Int) (↑n1Lines : Int))
 (∃ (a_2 : Option (Nat × Nat)),
 ∃ (l : Nat),
 ∃ (c : Option Nat),
 ∃ (k_2 : Nat),
 ∃ (h : Heap),
 appendH Tryd.Y h_2 51 51
 (V.sl a l_2 c_2 k)
 (V.ts
 [V.s
 ([108, 105, 110, 101, 115] : List UInt8)]
 1 (some 1)) =
 some (V.sl a_2 l c k_2, h) ∧
 K Out.normal 87
 [V.lb
 [V.b b1On, V.b b1Shut, V.b b1Eof,
 V.i IntKind.i64 x1Place,
 V.i IntKind.i64 x1Clock, V.s s1Typed,
 V.ts cs1Lines n1Lines none, V.s s1Fly,
 V.ts cs1Ages n1Ages none, V.s s1Ready,
 V.s s1Buffer],
 V.sl a_2 l c k_2, V.ts cs1Lines n1Lines none,
 V.i IntKind.i64 (↑n1Lines : Int),
 V.i IntKind.i64 (0 : Int)]
 h)
 (K Out.normal 87
 [V.lb
 [V.b b1On, V.b b1Shut, V.b b1Eof, V.i IntKind.i64 x1Place,
 V.i IntKind.i64 x1Clock, V.s s1Typed,
 V.ts cs1Lines n1Lines none, V.s s1Fly,
 V.ts cs1Ages n1Ages none, V.s s1Ready, V.s s1Buffer],
 V.sl a l_2 c_2 k, V.ts cs1Lines n1Lines none,
 V.i IntKind.i64 (↑n1Lines : Int), V.i IntKind.i64 (0 : Int)]
 h_2)))
 (If (!s1Typed == ([] : List UInt8))
 (∃ (s : List UInt8),
 (PCon Tryd.Y (11 : Nat) [V.s s1Typed] fun (v : V) => v = V.s s) ∧
 ∃ (a : Option (Nat × Nat)),
 ∃ (l_2 : Nat),
 ∃ (c_2 : Option Nat),
 ∃ (k : Nat),
 ∃ (h_2 : Heap),
 appendH Tryd.Y h 51 51 (V.sl a_1 l c k_1)
 (V.ts
 [V.s
 ([116, 121, 112, 101, 100] : List UInt8),
 V.s s]
 2 (some 2)) =
 some (V.sl a l_2 c_2 k, h_2) ∧
 If (ltI (0 : Int) (↑n1Lines : Int))
 (∃ (a_2 : Option (Nat × Nat)),
 ∃ (l : Nat),
 ∃ (c : Option Nat),
 ∃ (k_2 : Nat),
 ∃ (h : Heap),
 appendH Tryd.Y h_2 51 51
 (V.sl a l_2 c_2 k)
 (V.ts
 [V.s
 ([108, 105, 110, 101, 115] : List UInt8)]
 1 (some 1)) =
 some (V.sl a_2 l c k_2, h) ∧
 K Out.normal 87
 [V.lb
 [V.b b1On, V.b b1Shut, V.b b1Eof,
 V.i IntKind.i64 x1Place,
 V.i IntKind.i64 x1Clock, V.s s1Typed,
 V.ts cs1Lines n1Lines none, V.s s1Fly,
 V.ts cs1Ages n1Ages none, V.s s1Ready,
 V.s s1Buffer],
 V.sl a_2 l c k_2, V.ts cs1Lines n1Lines none,
 V.i IntKind.i64 (↑n1Lines : Int),
 V.i IntKind.i64 (0 : Int)]
 h)
 (K Out.normal 87
 [V.lb
 [V.b b1On, V.b b1Shut, V.b b1Eof, V.i IntKind.i64 x1Place,
 V.i IntKind.i64 x1Clock, V.s s1Typed,
 V.ts cs1Lines n1Lines none, V.s s1Fly,
 V.ts cs1Ages n1Ages none, V.s s1Ready, V.s s1Buffer],
 V.sl a l_2 c_2 k, V.ts cs1Lines n1Lines none,
 V.i IntKind.i64 (↑n1Lines : Int), V.i IntKind.i64 (0 : Int)]
 h_2))
 (If (ltI (0 : Int) (↑n1Lines : Int))
 (∃ (a : Option (Nat × Nat)),
 ∃ (l_2 : Nat),
 ∃ (c_2 : Option Nat),
 ∃ (k : Nat),
 ∃ (h_2 : Heap),
 appendH Tryd.Y h 51 51 (V.sl a_1 l c k_1)
 (V.ts
 [V.s
 ([108, 105, 110, 101, 115] : List UInt8)]
 1 (some 1)) =
 some (V.sl a l_2 c_2 k, h_2) ∧
 K Out.normal 87
 [V.lb
 [V.b b1On, V.b b1Shut, V.b b1Eof, V.i IntKind.i64 x1Place,
 V.i IntKind.i64 x1Clock, V.s s1Typed,
 V.ts cs1Lines n1Lines none, V.s s1Fly,
 V.ts cs1Ages n1Ages none, V.s s1Ready, V.s s1Buffer],
 V.sl a l_2 c_2 k, V.ts cs1Lines n1Lines none,
 V.i IntKind.i64 (↑n1Lines : Int), V.i IntKind.i64 (0 : Int)]
 h_2)
 (K Out.normal 87
 [V.lb
 [V.b b1On, V.b b1Shut, V.b b1Eof, V.i IntKind.i64 x1Place,
 V.i IntKind.i64 x1Clock, V.s s1Typed, V.ts cs1Lines n1Lines none,
 V.s s1Fly, V.ts cs1Ages n1Ages none, V.s s1Ready, V.s s1Buffer],
 V.sl a_1 l c k_1, V.ts cs1Lines n1Lines none,
 V.i IntKind.i64 (↑n1Lines : Int), V.i IntKind.i64 (0 : Int)]
 h))))
 (If b1Eof
 (∃ (a_1 : Option (Nat × Nat)),
 ∃ (l : Nat),
 ∃ (c : Option Nat),
 ∃ (k_1 : Nat),
 ∃ (h : Heap),
 appendH Tryd.Y h_1 51 51 (V.sl a l_1 c_1 k)
 (V.ts [V.s ([101, 111, 102] : List UInt8)] 1
 (some 1)) =
 some (V.sl a_1 l c k_1, h) ∧
 If (!s1Typed == ([] : List UInt8))
 (∃ (s : List UInt8),
 (PCon Tryd.Y (11 : Nat) [V.s s1Typed] fun (v : V) => v = V.s s) ∧
 ∃ (a : Option (Nat × Nat)),
 ∃ (l_2 : Nat),
 ∃ (c_2 : Option Nat),
 ∃ (k : Nat),
 ∃ (h_2 : Heap),
 appendH Tryd.Y h 51 51 (V.sl a_1 l c k_1)
 (V.ts
 [V.s
 ([116, 121, 112, 101, 100] : List UInt8),
 V.s s]
 2 (some 2)) =
 some (V.sl a l_2 c_2 k, h_2) ∧
 If (ltI (0 : Int) (↑n1Lines : Int))
 (∃ (a_2 : Option (Nat × Nat)),
 ∃ (l : Nat),
 ∃ (c : Option Nat),
 ∃ (k_2 : Nat),
 ∃ (h : Heap),
 appendH Tryd.Y h_2 51 51
 (V.sl a l_2 c_2 k)
 (V.ts
 [V.s
 ([108, 105, 110, 101, 115] : List UInt8)]
 1 (some 1)) =
 some (V.sl a_2 l c k_2, h) ∧
 K Out.normal 87
 [V.lb
 [V.b b1On, V.b b1Shut, V.b b1Eof,
 V.i IntKind.i64 x1Place,
 V.i IntKind.i64 x1Clock, V.s s1Typed,
 V.ts cs1Lines n1Lines none, V.s s1Fly,
 V.ts cs1Ages n1Ages none, V.s s1Ready,
 V.s s1Buffer],
 V.sl a_2 l c k_2, V.ts cs1Lines n1Lines none,
 V.i IntKind.i64 (↑n1Lines : Int),
 V.i IntKind.i64 (0 : Int)]
 h)
 (K Out.normal 87
 [V.lb
 [V.b b1On, V.b b1Shut, V.b b1Eof, V.i IntKind.i64 x1Place,
 V.i IntKind.i64 x1Clock, V.s s1Typed,
 V.ts cs1Lines n1Lines none, V.s s1Fly,
 V.ts cs1Ages n1Ages none, V.s s1Ready, V.s s1Buffer],
 V.sl a l_2 c_2 k, V.ts cs1Lines n1Lines none,
 V.i IntKind.i64 (↑n1Lines : Int), V.i IntKind.i64 (0 : Int)]
 h_2))
 (If (ltI (0 : Int) (↑n1Lines : Int))
 (∃ (a : Option (Nat × Nat)),
 ∃ (l_2 : Nat),
 ∃ (c_2 : Option Nat),
 ∃ (k : Nat),
 ∃ (h_2 : Heap),
 appendH Tryd.Y h 51 51 (V.sl a_1 l c k_1)
 (V.ts
 [V.s
 ([108, 105, 110, 101, 115] : List UInt8)]
 1 (some 1)) =
 some (V.sl a l_2 c_2 k, h_2) ∧
 K Out.normal 87
 [V.lb
 [V.b b1On, V.b b1Shut, V.b b1Eof, V.i IntKind.i64 x1Place,
 V.i IntKind.i64 x1Clock, V.s s1Typed,
 V.ts cs1Lines n1Lines none, V.s s1Fly,
 V.ts cs1Ages n1Ages none, V.s s1Ready, V.s s1Buffer],
 V.sl a l_2 c_2 k, V.ts cs1Lines n1Lines none,
 V.i IntKind.i64 (↑n1Lines : Int), V.i IntKind.i64 (0 : Int)]
 h_2)
 (K Out.normal 87
 [V.lb
 [V.b b1On, V.b b1Shut, V.b b1Eof, V.i IntKind.i64 x1Place,
 V.i IntKind.i64 x1Clock, V.s s1Typed, V.ts cs1Lines n1Lines none,
 V.s s1Fly, V.ts cs1Ages n1Ages none, V.s s1Ready, V.s s1Buffer],
 V.sl a_1 l c k_1, V.ts cs1Lines n1Lines none,
 V.i IntKind.i64 (↑n1Lines : Int), V.i IntKind.i64 (0 : Int)]
 h)))
 (If (!s1Typed == ([] : List UInt8))
 (∃ (s : List UInt8),
 (PCon Tryd.Y (11 : Nat) [V.s s1Typed] fun (v : V) => v = V.s s) ∧
 ∃ (a_1 : Option (Nat × Nat)),
 ∃ (l : Nat),
 ∃ (c : Option Nat),
 ∃ (k_1 : Nat),
 ∃ (h : Heap),
 appendH Tryd.Y h_1 51 51 (V.sl a l_1 c_1 k)
 (V.ts
 [V.s
 ([116, 121, 112, 101, 100] : List UInt8),
 V.s s]
 2 (some 2)) =
 some (V.sl a_1 l c k_1, h) ∧
 If (ltI (0 : Int) (↑n1Lines : Int))
 (∃ (a : Option (Nat × Nat)),
 ∃ (l_2 : Nat),
 ∃ (c_2 : Option Nat),
 ∃ (k : Nat),
 ∃ (h_2 : Heap),
 appendH Tryd.Y h 51 51 (V.sl a_1 l c k_1)
 (V.ts
 [V.s
 ([108, 105, 110, 101, 115] : List UInt8)]
 1 (some 1)) =
 some (V.sl a l_2 c_2 k, h_2) ∧
 K Out.normal 87
 [V.lb
 [V.b b1On, V.b b1Shut, V.b b1Eof, V.i IntKind.i64 x1Place,
 V.i IntKind.i64 x1Clock, V.s s1Typed,
 V.ts cs1Lines n1Lines none, V.s s1Fly,
 V.ts cs1Ages n1Ages none, V.s s1Ready, V.s s1Buffer],
 V.sl a l_2 c_2 k, V.ts cs1Lines n1Lines none,
 V.i IntKind.i64 (↑n1Lines : Int), V.i IntKind.i64 (0 : Int)]
 h_2)
 (K Out.normal 87
 [V.lb
 [V.b b1On, V.b b1Shut, V.b b1Eof, V.i IntKind.i64 x1Place,
 V.i IntKind.i64 x1Clock, V.s s1Typed, V.ts cs1Lines n1Lines none,
 V.s s1Fly, V.ts cs1Ages n1Ages none, V.s s1Ready, V.s s1Buffer],
 V.sl a_1 l c k_1, V.ts cs1Lines n1Lines none,
 V.i IntKind.i64 (↑n1Lines : Int), V.i IntKind.i64 (0 : Int)]
 h))
 (If (ltI (0 : Int) (↑n1Lines : Int))
 (∃ (a_1 : Option (Nat × Nat)),
 ∃ (l : Nat),
 ∃ (c : Option Nat),
 ∃ (k_1 : Nat),
 ∃ (h : Heap),
 appendH Tryd.Y h_1 51 51 (V.sl a l_1 c_1 k)
 (V.ts
 [V.s
 ([108, 105, 110, 101, 115] : List UInt8)]
 1 (some 1)) =
 some (V.sl a_1 l c k_1, h) ∧
 K Out.normal 87
 [V.lb
 [V.b b1On, V.b b1Shut, V.b b1Eof, V.i IntKind.i64 x1Place,
 V.i IntKind.i64 x1Clock, V.s s1Typed, V.ts cs1Lines n1Lines none,
 V.s s1Fly, V.ts cs1Ages n1Ages none, V.s s1Ready, V.s s1Buffer],
 V.sl a_1 l c k_1, V.ts cs1Lines n1Lines none,
 V.i IntKind.i64 (↑n1Lines : Int), V.i IntKind.i64 (0 : Int)]
 h)
 (K Out.normal 87
 [V.lb
 [V.b b1On, V.b b1Shut, V.b b1Eof, V.i IntKind.i64 x1Place, V.i IntKind.i64 x1Clock,
 V.s s1Typed, V.ts cs1Lines n1Lines none, V.s s1Fly, V.ts cs1Ages n1Ages none,
 V.s s1Ready, V.s s1Buffer],
 V.sl a l_1 c_1 k, V.ts cs1Lines n1Lines none, V.i IntKind.i64 (↑n1Lines : Int),
 V.i IntKind.i64 (0 : Int)]
 h_1))))) := by kernel_rfl
theorem f27_1 (b1On : Bool) (b1Shut : Bool) (b1Eof : Bool) (x1Place : Int) (x1Clock : Int) (cs1Lines : List V) (n1Lines : Nat) (cs1Ages : List V) (n1Ages : Nat) (s3_5 : List UInt8) (s3_7 : List UInt8) (s3_9 : List UInt8) (s3_10 : List UInt8) (a5 : Option (Nat × Nat)) (l5 : Nat) (c5 : Option Nat) (k5 : Nat) (x48 : Int) (h : Heap) (K : Out → Nat → List V → Heap → Prop) : (codeP Tryd.Y (Tryd.Y.loc 27) 100 ((flat (loopB (post (flat (bodyOf Tryd.f27)))))) ⟨mk 87 (([3, 5, 46, 47, 48] : List Nat).zip [V.lb [V.b b1On, V.b b1Shut, V.b b1Eof, V.i IntKind.i64 x1Place, V.i IntKind.i64 x1Clock, V.s s3_5, V.ts cs1Lines n1Lines none, V.s s3_7, V.ts cs1Ages n1Ages none, V.s s3_9, V.s s3_10], V.sl a5 l5 c5 k5, V.ts cs1Lines n1Lines none, V.i IntKind.i64 (↑n1Lines : Int), V.i IntKind.i64 x48]), [], h⟩ (VQ [3, 5, 46, 47, 48] K)) =
  (If (ltI x48 (↑n1Lines : Int))
  (((0 : Int) ≤ x48 ∧ x48 < (↑n1Lines : Int)) ∧
 ∃ (s : List UInt8),
 takeX 1 (List.drop (x48.toNat * (1 : Nat)) cs1Lines) = some [V.s s] ∧
 ∃ (s_1 : List UInt8),
 (PCon Tryd.Y (11 : Nat) [V.s s] fun (v : V) => v = V.s s_1) ∧
 ∃ (a : Option (Nat × Nat)),
 ∃ (l : Nat),
 ∃ (c : Option Nat),
 ∃ (k : Nat),
 ∃ (h_1 : Heap),
 appendH Tryd.Y h 51 51 (V.sl a5 l5 c5 k5)
 (V.ts [V.s s_1] 1 (some 1)) =
 some (V.sl a l c k, h_1) ∧
 K Out.normal 87
 [V.lb
 [V.b b1On, V.b b1Shut, V.b b1Eof, V.i IntKind.i64 x1Place, V.i IntKind.i64 x1Clock,
 V.s s3_5, V.ts cs1Lines n1Lines none, V.s s3_7, V.ts cs1Ages n1Ages none, V.s s3_9,
 V.s s3_10],
 V.sl a l c k, V.ts cs1Lines n1Lines none, V.i IntKind.i64 (↑n1Lines : Int),
 V.i IntKind.i64 (IntKind.i64.wrap (x48 + (1 : Int)))]
 h_1)
  (K (Out.exit 0) 87
 [V.lb
 [V.b b1On, V.b b1Shut, V.b b1Eof, V.i IntKind.i64 x1Place, V.i IntKind.i64 x1Clock, V.s s3_5,
 V.ts cs1Lines n1Lines none, V.s s3_7, V.ts cs1Ages n1Ages none, V.s s3_9, V.s s3_10],
 V.sl a5 l5 c5 k5, V.ts cs1Lines n1Lines none, V.i IntKind.i64 (↑n1Lines : Int), V.i IntKind.i64 x48]
 h)) := by kernel_rfl
theorem f27_2 (b1On : Bool) (b1Shut : Bool) (b1Eof : Bool) (x1Place : Int) (x1Clock : Int) (cs1Lines : List V) (n1Lines : Nat) (cs1Ages : List V) (n1Ages : Nat) (a5 : Option (Nat × Nat)) (l5 : Nat) (c5 : Option Nat) (k5 : Nat) (s3_5z2 : List UInt8) (s3_7z2 : List UInt8) (s3_9z2 : List UInt8) (s3_10z2 : List UInt8) (h : Heap) (K : Out → Nat → List V → Heap → Prop) : (codeP Tryd.Y (Tryd.Y.loc 27) 100 (pre ((post (flat (bodyOf Tryd.f27))).drop 1)) ⟨mk 87 (([3, 5] : List Nat).zip [V.lb [V.b b1On, V.b b1Shut, V.b b1Eof, V.i IntKind.i64 x1Place, V.i IntKind.i64 x1Clock, V.s s3_5z2, V.ts cs1Lines n1Lines none, V.s s3_7z2, V.ts cs1Ages n1Ages none, V.s s3_9z2, V.s s3_10z2], V.sl a5 l5 c5 k5]), [], h⟩ (VQ [5, 67, 68, 69] K)) =
  (K Out.normal 87
  [V.sl a5 l5 c5 k5,
 V.ts
 [V.s ([102, 108, 121] : List UInt8), V.s s3_7z2,
 V.s ([114, 101, 97, 100, 121] : List UInt8), V.s s3_9z2,
 V.s ([98, 117, 102, 102, 101, 114] : List UInt8),
 V.s s3_10z2]
 3 (some 3),
 V.i IntKind.i64 (↑(3 : Nat) : Int), V.i IntKind.i64 (0 : Int)]
  h) := by kernel_rfl
theorem f27_3 (a5 : Option (Nat × Nat)) (l5 : Nat) (c5 : Option Nat) (k5 : Nat) (cs67 : List V) (n67 : Nat) (x68z2 : Int) (x69z2 : Int) (h : Heap) (K : Out → Nat → List V → Heap → Prop) : (codeP Tryd.Y (Tryd.Y.loc 27) 100 ((flat (loopB (post ((post (flat (bodyOf Tryd.f27))).drop 1))))) ⟨mk 87 (([5, 67, 68, 69] : List Nat).zip [V.sl a5 l5 c5 k5, V.ts cs67 n67 (some 3), V.i IntKind.i64 x68z2, V.i IntKind.i64 x69z2]), [], h⟩ (VQ [5, 67, 68, 69] K)) =
  (If (ltI x69z2 x68z2)
  (((0 : Int) ≤ x69z2 ∧ x69z2 < (↑n67 : Int)) ∧
 ∃ (s : List UInt8),
 ∃ (s_1 : List UInt8),
 takeX 2 (List.drop (x69z2.toNat * (2 : Nat)) cs67) = some [V.s s, V.s s_1] ∧
 If (!s_1 == ([] : List UInt8))
 (∃ (s_2 : List UInt8),
 (PCon Tryd.Y (11 : Nat) [V.s s_1] fun (v : V) => v = V.s s_2) ∧
 ∃ (a : Option (Nat × Nat)),
 ∃ (l : Nat),
 ∃ (c : Option Nat),
 ∃ (k : Nat),
 ∃ (h_1 : Heap),
 appendH Tryd.Y h 51 51 (V.sl a5 l5 c5 k5)
 (V.ts [V.s s, V.s s_2] 2 (some 2)) =
 some (V.sl a l c k, h_1) ∧
 K Out.normal 87
 [V.sl a l c k, V.ts cs67 n67 (some 3), V.i IntKind.i64 x68z2,
 V.i IntKind.i64 (IntKind.i64.wrap (x69z2 + (1 : Int)))]
 h_1)
 (K Out.normal 87
 [V.sl a5 l5 c5 k5, V.ts cs67 n67 (some 3), V.i IntKind.i64 x68z2,
 V.i IntKind.i64 (IntKind.i64.wrap (x69z2 + (1 : Int)))]
 h))
  (K (Out.exit 2) 87
 [V.sl a5 l5 c5 k5, V.ts cs67 n67 (some 3), V.i IntKind.i64 x68z2, V.i IntKind.i64 x69z2] h)) := by kernel_rfl
theorem f27_4 (a5 : Option (Nat × Nat)) (l5 : Nat) (c5 : Option Nat) (k5 : Nat) (h : Heap) (K : Out → Nat → List V → Heap → Prop) : (codeP Tryd.Y (Tryd.Y.loc 27) 100 (((post ((post (flat (bodyOf Tryd.f27))).drop 1)).drop 1)) ⟨mk 87 (([5] : List Nat).zip [V.sl a5 l5 c5 k5]), [], h⟩ (VQ [4] K)) =
  (∃ (s : List UInt8), FCon Tryd.Y (13 : Nat) [V.sl a5 l5 c5 k5] h (V.s s) ∧ K Out.ret 87 [V.s s] h) := by kernel_rfl
theorem f34_0 (x0Kind : Int) (x0N : Int) (cs0Choices : List V) (n0Choices : Nat) (h : Heap) (K : Out → Nat → List V → Heap → Prop) : (codeP Tryd.Y (Tryd.Y.loc 34) 100 (pre (flat (bodyOf Tryd.f34))) ⟨(V.agg [V.i IntKind.i64 x0Kind, V.i IntKind.i64 x0N, V.ts cs0Choices n0Choices none] :: List.replicate 54 .undef), [], h⟩ (VQ [2, 3, 4, 5] K)) =
  (∃ (b : Bool),
  (PCon Tryd.Y (47 : Nat) [V.agg [V.i IntKind.i64 x0Kind, V.i IntKind.i64 x0N, V.ts cs0Choices n0Choices none]]
 fun (v : V) => v = V.b b) ∧
 If (!b) (K Out.ret 55 [V.s ([] : List UInt8), V.i IntKind.i64 (5 : Int), V.undef, V.undef] h)
 (∃ (s : List UInt8),
 (PCon Tryd.Y (48 : Nat) [V.agg [V.i IntKind.i64 x0Kind, V.i IntKind.i64 x0N, V.ts cs0Choices n0Choices none]]
 fun (v : V) => v = V.s s) ∧
 s.length + ([10] : List UInt8).length ≤ 1152921504606846976 ∧
 Con Tryd.Y (35 : Nat) [V.p (some (h.nx, 0)), V.s (s ++ ([10] : List UInt8))]
 (h.pushT (Tryd.Y.tag (86 : Nat))
 (YObj.arr [V.p none, V.sl none (0 : Nat) (some (0 : Nat)) (0 : Nat)] true))
 fun (v : V) (h' : Heap) =>
 ∃ (n : Int),
 v = V.tup [V.i IntKind.i64 n, V.nilifc] ∧
 K Out.normal 55
 [V.s ([] : List UInt8), V.i IntKind.i64 (0 : Int), V.p (some (h.nx, 0)),
 V.ts cs0Choices n0Choices none]
 h' ∨
 ∃ (t : TypeId),
 ∃ (v_1 : V),
 v = V.tup [V.i IntKind.i64 n, V.ifc t v_1] ∧
 K Out.normal 55
 [V.s ([] : List UInt8), V.i IntKind.i64 (0 : Int), V.p (some (h.nx, 0)),
 V.ts cs0Choices n0Choices none]
 h')) := by kernel_rfl
theorem f34_1 (cs0Choices : List V) (n0Choices : Nat) (id4 : Nat) (h : Heap) (K : Out → Nat → List V → Heap → Prop) : (codeP Tryd.Y (Tryd.Y.loc 34) 100 (pre (flat (loopB (post (flat (bodyOf Tryd.f34)))))) ⟨mk 55 (([4, 5] : List Nat).zip [V.p (some (id4, 0)), V.ts cs0Choices n0Choices none]), [], h⟩ (VQ [4, 5] K)) =
  (If (ltI (0 : Int) (↑n0Choices : Int))
  (K Out.normal 55 [V.p (some (id4, 0)), V.ts cs0Choices n0Choices none] h)
  (K (Out.exit 0) 55 [V.p (some (id4, 0)), V.ts cs0Choices n0Choices none] h)) := by kernel_rfl
theorem f34_2 (cs0Choices : List V) (n0Choices : Nat) (id4 : Nat) (h : Heap) (K : Out → Nat → List V → Heap → Prop) : (codeP Tryd.Y (Tryd.Y.loc 34) 100 (pre (flat (blockB (post (flat (loopB (post (flat (bodyOf Tryd.f34))))))))) ⟨mk 55 (([4, 5] : List Nat).zip [V.p (some (id4, 0)), V.ts cs0Choices n0Choices none]), [], h⟩ (VQ [4, 5, 6] K)) =
  (K Out.normal 55 [V.p (some (id4, 0)), V.ts cs0Choices n0Choices none, V.i IntKind.i64 (1 : Int)] h) := by kernel_rfl
theorem f34_3 (cs0Choices : List V) (n0Choices : Nat) (id4 : Nat) (x6 : Int) (h : Heap) (K : Out → Nat → List V → Heap → Prop) : (codeP Tryd.Y (Tryd.Y.loc 34) 100 ((flat (loopB (post (flat (blockB (post (flat (loopB (post (flat (bodyOf Tryd.f34)))))))))))) ⟨mk 55 (([4, 5, 6] : List Nat).zip [V.p (some (id4, 0)), V.ts cs0Choices n0Choices none, V.i IntKind.i64 x6]), [], h⟩ (VQ [4, 5, 6] K)) =
  (If (ltI x6 (↑n0Choices : Int))
  (((0 : Int) ≤ x6 ∧ x6 < (↑n0Choices : Int)) ∧
 ∃ (n : Int),
 ∃ (n_1 : Int),
 ∃ (n_2 : Int),
 takeX 3 (List.drop (x6.toNat * (3 : Nat)) cs0Choices) =
 some [V.i IntKind.i64 n, V.i IntKind.i64 n_1, V.i IntKind.i64 n_2] ∧
 ((0 : Int) ≤ (0 : Int) ∧ (0 : Int) < (↑n0Choices : Int)) ∧
 ∃ (n_3 : Int),
 ∃ (n_4 : Int),
 ∃ (n_5 : Int),
 takeX 3 cs0Choices =
 some [V.i IntKind.i64 n_3, V.i IntKind.i64 n_4, V.i IntKind.i64 n_5] ∧
 If (n == n_3 && (n_1 == n_4 && (n_2 == n_5 && true)))
 (K Out.normal 55
 [V.p (some (id4, 0)), V.ts cs0Choices n0Choices none,
 V.i IntKind.i64 (IntKind.i64.wrap (x6 + (1 : Int)))]
 h)
 (K (Out.exit 2) 55
 [V.p (some (id4, 0)), V.ts cs0Choices n0Choices none, V.i IntKind.i64 x6] h))
  (K (Out.exit 2) 55
 [V.p (some (id4, 0)), V.ts cs0Choices n0Choices none, V.i IntKind.i64 x6] h)) := by kernel_rfl
theorem f34_4 (cs0Choices : List V) (n0Choices : Nat) (id4 : Nat) (x6 : Int) (h : Heap) (K : Out → Nat → List V → Heap → Prop) : (codeP Tryd.Y (Tryd.Y.loc 34) 100 (((post (flat (blockB (post (flat (loopB (post (flat (bodyOf Tryd.f34))))))))).drop 1)) ⟨mk 55 (([4, 5, 6] : List Nat).zip [V.p (some (id4, 0)), V.ts cs0Choices n0Choices none, V.i IntKind.i64 x6]), [], h⟩ (VQ [4, 5] K)) =
  (((0 : Int) ≤ (0 : Int) ∧ (0 : Int) < (↑n0Choices : Int)) ∧
  ∃ (n : Int),
 ∃ (n_1 : Int),
 ∃ (n_2 : Int),
 takeX 3 cs0Choices = some [V.i IntKind.i64 n, V.i IntKind.i64 n_1, V.i IntKind.i64 n_2] ∧
 ∃ (s : List UInt8),
 ∃ (b : Bool),
 (PCon Tryd.Y (49 : Nat) [V.agg [V.i IntKind.i64 n, V.i IntKind.i64 n_1, V.i IntKind.i64 n_2]]
 fun (v : V) => v = V.tup [V.s s, V.b b]) ∧
 ∃ (s_1 : List UInt8),
 (PCon Tryd.Y (16 : Nat) [V.i IntKind.i64 x6] fun (v : V) => v = V.s s_1) ∧
 s_1.length + ([32] : List UInt8).length ≤ 1152921504606846976 ∧
 (s_1 ++ ([32] : List UInt8)).length + s.length ≤ 1152921504606846976 ∧
 (s_1 ++ ([32] : List UInt8) ++ s).length + ([10] : List UInt8).length ≤
 1152921504606846976 ∧
 Con Tryd.Y (35 : Nat)
 [V.p (some (id4, 0)),
 V.s (s_1 ++ ([32] : List UInt8) ++ s ++ ([10] : List UInt8))]
 h fun (v : V) (h' : Heap) =>
 ∃ (n : Int),
 v = V.tup [V.i IntKind.i64 n, V.nilifc] ∧
 ((0 : Int) ≤ x6 ∧ x6 ≤ (↑n0Choices : Int)) ∧
 K Out.normal 55
 [V.p (some (id4, 0)),
 V.ts
 (List.take ((n0Choices - x6.toNat) * (3 : Nat))
 (List.drop (x6.toNat * (3 : Nat)) cs0Choices))
 (n0Choices - x6.toNat) none]
 h' ∨
 ∃ (t : TypeId),
 ∃ (v_1 : V),
 v = V.tup [V.i IntKind.i64 n, V.ifc t v_1] ∧
 ((0 : Int) ≤ x6 ∧ x6 ≤ (↑n0Choices : Int)) ∧
 K Out.normal 55
 [V.p (some (id4, 0)),
 V.ts
 (List.take ((n0Choices - x6.toNat) * (3 : Nat))
 (List.drop (x6.toNat * (3 : Nat)) cs0Choices))
 (n0Choices - x6.toNat) none]
 h') := by kernel_rfl
theorem f34_5 (id4 : Nat) (h : Heap) (K : Out → Nat → List V → Heap → Prop) : (codeP Tryd.Y (Tryd.Y.loc 34) 100 (((post (flat (bodyOf Tryd.f34))).drop 1)) ⟨mk 55 (([4] : List Nat).zip [V.p (some (id4, 0))]), [], h⟩ (VQ [2, 3] K)) =
  (Con Tryd.Y (36 : Nat) [V.p (some (id4, 0))] h fun (v : V) (h' : Heap) =>
  ∃ (s : List UInt8), v = V.s s ∧ K Out.ret 55 [V.s s, V.i IntKind.i64 (0 : Int)] h') := by kernel_rfl
theorem f37_0 (x0 : Int) (h : Heap) (K : Out → Nat → List V → Heap → Prop) : (codeP Tryd.Y (Tryd.Y.loc 37) 100 (pre (flat (bodyOf Tryd.f37))) ⟨(V.i IntKind.i64 x0 :: List.replicate 30 .undef), [], h⟩ (VQ [0, 3, 4] K)) =
  (∃ (n : Int),
  (PCon Tryd.Y (51 : Nat) [V.i IntKind.i64 x0] fun (v : V) => v = V.i IntKind.u64 n) ∧
 K Out.normal 31 [V.i IntKind.i64 x0, V.i IntKind.u64 n, V.s ([] : List UInt8)] h) := by kernel_rfl
theorem f37_1 (x0 : Int) (x3 : Int) (s4 : List UInt8) (h : Heap) (K : Out → Nat → List V → Heap → Prop) : (codeP Tryd.Y (Tryd.Y.loc 37) 100 ((flat (loopB (post (flat (bodyOf Tryd.f37)))))) ⟨mk 31 (([0, 3, 4] : List Nat).zip [V.i IntKind.i64 x0, V.i IntKind.u64 x3, V.s s4]), [], h⟩ (VQ [0, 3, 4] K)) =
  (If (leI (10 : Int) x3)
  (((10 : Int) = (0 : Int) → False) ∧
 ∃ (l : List UInt8),
 some
 (Q.val
 (V.s
 ((fun (x : List UInt8) =>
 UInt8.ofNat (IntKind.u8.wrap (IntKind.u64.wrap ((48 : Int) + x3.tmod (10 : Int)))).toNat :: x)
 []))) =
 some (Q.val (V.s l)) ∧
 l.length + s4.length ≤ 1152921504606846976 ∧
 ((10 : Int) = (0 : Int) → False) ∧
 K Out.normal 31
 [V.i IntKind.i64 x0, V.i IntKind.u64 (IntKind.u64.wrap (x3.tdiv (10 : Int))), V.s (l ++ s4)] h)
  (K (Out.exit 0) 31 [V.i IntKind.i64 x0, V.i IntKind.u64 x3, V.s s4] h)) := by kernel_rfl
theorem f37_2 (x0 : Int) (x3 : Int) (s4 : List UInt8) (h : Heap) (K : Out → Nat → List V → Heap → Prop) : (codeP Tryd.Y (Tryd.Y.loc 37) 100 (((post (flat (bodyOf Tryd.f37))).drop 1)) ⟨mk 31 (([0, 3, 4] : List Nat).zip [V.i IntKind.i64 x0, V.i IntKind.u64 x3, V.s s4]), [], h⟩ (VQ [2] K)) =
  (∃ (l : List UInt8),
  some
 (Q.val
 (V.s
 ((fun (x : List UInt8) => UInt8.ofNat (IntKind.u8.wrap (IntKind.u64.wrap ((48 : Int) + x3))).toNat :: x)
 []))) =
 some (Q.val (V.s l)) ∧
 l.length + s4.length ≤ 1152921504606846976 ∧
 If (ltI x0 (0 : Int))
 (([45] : List UInt8).length + (l ++ s4).length ≤ 1152921504606846976 ∧
 K Out.ret 31 [V.s (([45] : List UInt8) ++ (l ++ s4))] h)
 (K Out.ret 31 [V.s (l ++ s4)] h)) := by kernel_rfl
end Go.Y
