/- What the pieces of functions come to: printed by program. -/
import Derived.Test.YtlnpmefmmiacaaaGreatDoorYTryzP
import Derived.Test.YtlnpmefmmiacaaaGreatDoorYFun
namespace Go.Y
open Go.Proofs
set_option maxRecDepth 100000
set_option maxHeartbeats 0
theorem f94_0 (x0 : Int) (x1 : Int) (x2 : Int) (x3 : Int) (h : Heap) (K : Out → Nat → List V → Heap → Prop) : (codeP Tryz.Y (Tryz.Y.loc 94) 100 (pre (flat (bodyOf Tryz.f94))) ⟨(V.agg [V.i IntKind.u64 x0, V.i IntKind.u64 x1, V.i IntKind.u64 x2, V.i IntKind.u64 x3] :: List.replicate 32 .undef), [], h⟩ (VQ [1, 2, 3, 4] K)) =
  (K Out.normal 33
  [V.lb [V.i IntKind.u64 x0, V.i IntKind.u64 x1, V.i IntKind.u64 x2, V.i IntKind.u64 x3],
 V.sl none 0 (some 0) 0, V.sl none 0 (some 0) 0,
 V.i IntKind.i64 (0 : Int)]
  h) := by kernel_rfl
theorem f94_1 (x0 : Int) (x1 : Int) (x2 : Int) (x3 : Int) (a3z2 : Option (Nat × Nat)) (l3z2 : Nat) (c3z2 : Option Nat) (k3z2 : Nat) (x4z2 : Int) (h : Heap) (K : Out → Nat → List V → Heap → Prop) : (codeP Tryz.Y (Tryz.Y.loc 94) 100 (pre (flat (loopB (post (flat (bodyOf Tryz.f94)))))) ⟨mk 33 (([1, 2, 3, 4] : List Nat).zip [V.lb [V.i IntKind.u64 x0, V.i IntKind.u64 x1, V.i IntKind.u64 x2, V.i IntKind.u64 x3], V.sl none 0 (some 0) 0, V.sl a3z2 l3z2 c3z2 k3z2, V.i IntKind.i64 x4z2]), [], h⟩ (VQ [1, 2, 3, 4] K)) =
  (If (ltI x4z2 (256 : Int))
  (K Out.normal 33
 [V.lb [V.i IntKind.u64 x0, V.i IntKind.u64 x1, V.i IntKind.u64 x2, V.i IntKind.u64 x3],
 V.sl none 0 (some 0) 0, V.sl a3z2 l3z2 c3z2 k3z2, V.i IntKind.i64 x4z2]
 h)
  (K (Out.exit 0) 33
 [V.lb [V.i IntKind.u64 x0, V.i IntKind.u64 x1, V.i IntKind.u64 x2, V.i IntKind.u64 x3],
 V.sl none 0 (some 0) 0, V.sl a3z2 l3z2 c3z2 k3z2, V.i IntKind.i64 x4z2]
 h)) := by kernel_rfl
theorem f94_2 (x0 : Int) (x1 : Int) (x2 : Int) (x3 : Int) (a3z2 : Option (Nat × Nat)) (l3z2 : Nat) (c3z2 : Option Nat) (k3z2 : Nat) (x4z2 : Int) (h : Heap) (K : Out → Nat → List V → Heap → Prop) : (codeP Tryz.Y (Tryz.Y.loc 94) 100 (pre (flat (blockB (post (flat (loopB (post (flat (bodyOf Tryz.f94))))))))) ⟨mk 33 (([1, 2, 3, 4] : List Nat).zip [V.lb [V.i IntKind.u64 x0, V.i IntKind.u64 x1, V.i IntKind.u64 x2, V.i IntKind.u64 x3], V.sl none 0 (some 0) 0, V.sl a3z2 l3z2 c3z2 k3z2, V.i IntKind.i64 x4z2]), [], h⟩ (VQ [1, 2, 3, 4, 5] K)) =
  (K Out.normal 33
  [V.lb [V.i IntKind.u64 x0, V.i IntKind.u64 x1, V.i IntKind.u64 x2, V.i IntKind.u64 x3],
 V.sl none 0 (some 0) 0, V.sl a3z2 l3z2 c3z2 k3z2, V.i IntKind.i64 x4z2,
 V.i IntKind.i64 x4z2]
  h) := by kernel_rfl
theorem f94_3 (x0 : Int) (x1 : Int) (x2 : Int) (x3 : Int) (a3z2 : Option (Nat × Nat)) (l3z2 : Nat) (c3z2 : Option Nat) (k3z2 : Nat) (x4z2 : Int) (x5 : Int) (h : Heap) (K : Out → Nat → List V → Heap → Prop) : (codeP Tryz.Y (Tryz.Y.loc 94) 100 ((flat (loopB (post (flat (blockB (post (flat (loopB (post (flat (bodyOf Tryz.f94)))))))))))) ⟨mk 33 (([1, 2, 3, 4, 5] : List Nat).zip [V.lb [V.i IntKind.u64 x0, V.i IntKind.u64 x1, V.i IntKind.u64 x2, V.i IntKind.u64 x3], V.sl none 0 (some 0) 0, V.sl a3z2 l3z2 c3z2 k3z2, V.i IntKind.i64 x4z2, V.i IntKind.i64 x5]), [], h⟩ (VQ [1, 2, 3, 4, 5] K)) =
  (If (ltI x4z2 (256 : Int))
  (∃ (b : Bool),
 (PCon Tryz.Y (101 : Nat)
 [V.agg [V.i IntKind.u64 x0, V.i IntKind.u64 x1, V.i IntKind.u64 x2, V.i IntKind.u64 x3], V.i IntKind.i64 x4z2]
 fun (v : V) => v = V.b b) ∧
 If b
 (K Out.normal 33
 [V.lb [V.i IntKind.u64 x0, V.i IntKind.u64 x1, V.i IntKind.u64 x2, V.i IntKind.u64 x3],
 V.sl none 0 (some 0) 0, V.sl a3z2 l3z2 c3z2 k3z2,
 V.i IntKind.i64 (IntKind.i64.wrap (x4z2 + (1 : Int))), V.i IntKind.i64 x5]
 h)
 (K (Out.exit 2) 33
 [V.lb [V.i IntKind.u64 x0, V.i IntKind.u64 x1, V.i IntKind.u64 x2, V.i IntKind.u64 x3],
 V.sl none 0 (some 0) 0, V.sl a3z2 l3z2 c3z2 k3z2, V.i IntKind.i64 x4z2,
 V.i IntKind.i64 x5]
 h))
  (K (Out.exit 2) 33
 [V.lb [V.i IntKind.u64 x0, V.i IntKind.u64 x1, V.i IntKind.u64 x2, V.i IntKind.u64 x3],
 V.sl none 0 (some 0) 0, V.sl a3z2 l3z2 c3z2 k3z2, V.i IntKind.i64 x4z2,
 V.i IntKind.i64 x5]
 h)) := by kernel_rfl
theorem f94_4 (x0 : Int) (x1 : Int) (x2 : Int) (x3 : Int) (a3z2 : Option (Nat × Nat)) (l3z2 : Nat) (c3z2 : Option Nat) (k3z2 : Nat) (x4z2 : Int) (x5 : Int) (h : Heap) (K : Out → Nat → List V → Heap → Prop) : (codeP Tryz.Y (Tryz.Y.loc 94) 100 (((post (flat (blockB (post (flat (loopB (post (flat (bodyOf Tryz.f94))))))))).drop 1)) ⟨mk 33 (([1, 2, 3, 4, 5] : List Nat).zip [V.lb [V.i IntKind.u64 x0, V.i IntKind.u64 x1, V.i IntKind.u64 x2, V.i IntKind.u64 x3], V.sl none 0 (some 0) 0, V.sl a3z2 l3z2 c3z2 k3z2, V.i IntKind.i64 x4z2, V.i IntKind.i64 x5]), [], h⟩ (VQ [1, 2, 3, 4] K)) =
  (If (ltI x5 x4z2)
  (∃ (a : Option (Nat × Nat)),
 ∃ (l : Nat),
 ∃ (c : Option Nat),
 ∃ (k : Nat),
 ∃ (h_1 : Heap),
 appendH Tryz.Y h 128 128 (V.sl a3z2 l3z2 c3z2 k3z2)
 (V.ts
 [V.i IntKind.u8 (IntKind.u8.wrap x5),
 V.i IntKind.u8 (IntKind.u8.wrap (IntKind.i64.wrap (x4z2 - (1 : Int))))]
 1 (some 1)) =
 some (V.sl a l c k, h_1) ∧
 K Out.normal 33
 [V.lb [V.i IntKind.u64 x0, V.i IntKind.u64 x1, V.i IntKind.u64 x2, V.i IntKind.u64 x3],
 V.sl none 0 (some 0) 0, V.sl a l c k, V.i IntKind.i64 x4z2]
 h_1)
  (K Out.normal 33
 [V.lb [V.i IntKind.u64 x0, V.i IntKind.u64 x1, V.i IntKind.u64 x2, V.i IntKind.u64 x3],
 V.sl none 0 (some 0) 0, V.sl a3z2 l3z2 c3z2 k3z2, V.i IntKind.i64 x4z2]
 h)) := by kernel_rfl
theorem f94_5 (x0 : Int) (x1 : Int) (x2 : Int) (x3 : Int) (x4z2 : Int) (a3z3 : Option (Nat × Nat)) (l3z3 : Nat) (c3z3 : Option Nat) (k3z3 : Nat) (h : Heap) (K : Out → Nat → List V → Heap → Prop) : (codeP Tryz.Y (Tryz.Y.loc 94) 100 (((post (flat (loopB (post (flat (bodyOf Tryz.f94)))))).drop 1)) ⟨mk 33 (([1, 2, 3, 4] : List Nat).zip [V.lb [V.i IntKind.u64 x0, V.i IntKind.u64 x1, V.i IntKind.u64 x2, V.i IntKind.u64 x3], V.sl none 0 (some 0) 0, V.sl a3z3 l3z3 c3z3 k3z3, V.i IntKind.i64 x4z2]), [], h⟩ (VQ [1, 2, 3, 4] K)) =
  (K Out.normal 33
  [V.lb [V.i IntKind.u64 x0, V.i IntKind.u64 x1, V.i IntKind.u64 x2, V.i IntKind.u64 x3],
 V.sl none 0 (some 0) 0, V.sl a3z3 l3z3 c3z3 k3z3,
 V.i IntKind.i64 (IntKind.i64.wrap (x4z2 + (1 : Int)))]
  h) := by kernel_rfl
theorem f94_6 (a3z2 : Option (Nat × Nat)) (l3z2 : Nat) (c3z2 : Option Nat) (k3z2 : Nat) (h : Heap) (K : Out → Nat → List V → Heap → Prop) : (codeP Tryz.Y (Tryz.Y.loc 94) 100 (((post (flat (bodyOf Tryz.f94))).drop 1)) ⟨mk 33 (([3] : List Nat).zip [V.sl a3z2 l3z2 c3z2 k3z2]), [], h⟩ (VQ [2] K)) =
  (K Out.ret 33 [V.sl a3z2 l3z2 c3z2 k3z2] h) := by kernel_rfl
end Go.Y
