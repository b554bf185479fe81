/- What the pieces of functions come to: printed by program. -/
import Derived.Test.YtlnpmefmmiacaaaGreatYTryzP
import Derived.Test.YtlnpmefmmiacaaaGreatYFun
namespace Go.Y
open Go.Proofs
set_option maxRecDepth 100000
set_option maxHeartbeats 0
theorem f104_0 (s0 : List UInt8) (h : Heap) (K : Out → Nat → List V → Heap → Prop) : (codeP Tryz.Y (Tryz.Y.loc 104) 100 (pre (flat (bodyOf Tryz.f104))) ⟨(V.s s0 :: List.replicate 33 .undef), [], h⟩ (VQ [0, 2, 3, 4, 5, 6] K)) =
  (If (ltI 200 (↑s0.length : Int))
  (K Out.ret 34 [V.s s0, V.sl none 0 (some 0) 0, V.i IntKind.i64 200, V.i IntKind.i64 2, V.undef, V.undef] h)
  (K Out.normal 34
 [V.s s0, V.sl none 0 (some 0) 0, V.i IntKind.i64 0, V.i IntKind.i64 0, V.p (some (h.nx, 0)), V.sl none 0 (some 0) 0]
 (h.push (YObj.arr [V.s s0, V.i IntKind.i64 0, V.b false] true)))) := by kernel_rfl
theorem f104_1 (s0 : List UInt8) (id5 : Nat) (a6 : Option (Nat × Nat)) (l6 : Nat) (c6 : Option Nat) (k6 : Nat) (h : Heap) (K : Out → Nat → List V → Heap → Prop) : (codeP Tryz.Y (Tryz.Y.loc 104) 100 ((flat (loopB (post (flat (bodyOf Tryz.f104)))))) ⟨mk 34 (([0, 5, 6] : List Nat).zip [V.s s0, V.p (some (id5, 0)), V.sl a6 l6 c6 k6]), [], h⟩ (VQ [0, 2, 3, 4, 5, 6] K)) =
  (∃ (n : Int),
  hcells h id5 1 1 = some [V.i IntKind.i64 n] ∧
 If (ltI n (↑s0.length : Int))
 (Con Tryz.Y 110 [V.p (some (id5, 0))] h fun (v : V) (h' : Heap) =>
 ∃ (n : Int),
 ∃ (n_1 : Int),
 ∃ (cs : List V),
 ∃ (l : Nat),
 ∃ (c : Option Nat),
 v = V.agg [V.i IntKind.i64 n, V.i IntKind.u8 n_1, V.ts cs l c] ∧
 ∃ (a : Option (Nat × Nat)),
 ∃ (l_1 : Nat),
 ∃ (c_1 : Option Nat),
 ∃ (k : Nat),
 ∃ (h : Heap),
 appendH Tryz.Y h' 121 121 (V.sl a6 l6 c6 k6)
 (V.ts [V.i IntKind.i64 n, V.i IntKind.u8 n_1, V.ts cs l c] 1 (some 1)) =
 some (V.sl a l_1 c_1 k, h) ∧
 ∃ (b : Bool),
 hcells h id5 2 1 = some [V.b b] ∧
 If b
 (∃ (n : Int),
 hcells h id5 1 1 = some [V.i IntKind.i64 n] ∧
 K Out.ret 34
 [V.s s0, V.sl none 0 (some 0) 0, V.i IntKind.i64 n, V.i IntKind.i64 1,
 V.p (some (id5, 0)), V.sl a l_1 c_1 k]
 h)
 (K Out.normal 34
 [V.s s0, V.undef, V.undef, V.undef, V.p (some (id5, 0)), V.sl a l_1 c_1 k] h))
 (K (Out.exit 0) 34 [V.s s0, V.undef, V.undef, V.undef, V.p (some (id5, 0)), V.sl a6 l6 c6 k6] h)) := by kernel_rfl
theorem f104_2 (a6 : Option (Nat × Nat)) (l6 : Nat) (c6 : Option Nat) (k6 : Nat) (h : Heap) (K : Out → Nat → List V → Heap → Prop) : (codeP Tryz.Y (Tryz.Y.loc 104) 100 (((post (flat (bodyOf Tryz.f104))).drop 1)) ⟨mk 34 (([6] : List Nat).zip [V.sl a6 l6 c6 k6]), [], h⟩ (VQ [2, 3, 4] K)) =
  (K Out.ret 34 [V.sl a6 l6 c6 k6, V.i IntKind.i64 0, V.i IntKind.i64 0] h) := by kernel_rfl
theorem f47_0 (s0 : List UInt8) (h : Heap) (K : Out → Nat → List V → Heap → Prop) : (codeP Tryz.Y (Tryz.Y.loc 47) 100 (pre (flat (bodyOf Tryz.f47))) ⟨(V.s s0 :: List.replicate 70 .undef), [], h⟩ (VQ [0, 2, 3, 4, 5, 6] K)) =
  (If (ltI 200 (↑s0.length : Int))
  (K Out.ret 71 [V.s s0, V.sl none 0 (some 0) 0, V.i IntKind.i64 200, V.i IntKind.i64 2, V.undef, V.undef] h)
  (K Out.normal 71
 [V.s s0, V.sl none 0 (some 0) 0, V.i IntKind.i64 0, V.i IntKind.i64 0, V.sl none 0 (some 0) 0, V.i IntKind.i64 0] h)) := by kernel_rfl
theorem f47_1 (s0 : List UInt8) (a5z5 : Option (Nat × Nat)) (l5z5 : Nat) (c5z5 : Option Nat) (k5z5 : Nat) (x6z5 : Int) (h : Heap) (K : Out → Nat → List V → Heap → Prop) : (codeP Tryz.Y (Tryz.Y.loc 47) 100 ((flat (loopB (post (flat (bodyOf Tryz.f47)))))) ⟨mk 71 (([0, 5, 6] : List Nat).zip [V.s s0, V.sl a5z5 l5z5 c5z5 k5z5, V.i IntKind.i64 x6z5]), [], h⟩ (VQ [0, 2, 3, 4, 5, 6] K)) =
  (If (ltI x6z5 (↑s0.length : Int))
  (∃ (c : UInt8),
 (0 ≤ x6z5 ∧ s0[x6z5.toNat]? = some c) ∧
 If ((↑c.toNat : Int) == 42)
 (∃ (a : Option (Nat × Nat)),
 ∃ (l : Nat),
 ∃ (c : Option Nat),
 ∃ (k : Nat),
 ∃ (h_1 : Heap),
 appendH Tryz.Y h 121 121 (V.sl a5z5 l5z5 c5z5 k5z5)
 (V.ts [V.i IntKind.i64 2, V.i IntKind.u8 0, V.sl none 0 (some 0) 0] 1 (some 1)) =
 some (V.sl a l c k, h_1) ∧
 K Out.normal 71
 [V.s s0, V.undef, V.undef, V.undef, V.sl a l c k, V.i IntKind.i64 (IntKind.i64.wrap (x6z5 + 1))]
 h_1)
 (If ((↑c.toNat : Int) == 63)
 (∃ (a : Option (Nat × Nat)),
 ∃ (l : Nat),
 ∃ (c : Option Nat),
 ∃ (k : Nat),
 ∃ (h_1 : Heap),
 appendH Tryz.Y h 121 121 (V.sl a5z5 l5z5 c5z5 k5z5)
 (V.ts [V.i IntKind.i64 1, V.i IntKind.u8 0, V.sl none 0 (some 0) 0] 1 (some 1)) =
 some (V.sl a l c k, h_1) ∧
 K Out.normal 71
 [V.s s0, V.undef, V.undef, V.undef, V.sl a l c k, V.i IntKind.i64 (IntKind.i64.wrap (x6z5 + 1))]
 h_1)
 (If ((↑c.toNat : Int) == 91)
 (∃ (cs : List V),
 ∃ (l : Nat),
 ∃ (c : Option Nat),
 ∃ (n : Int),
 ∃ (n_1 : Int),
 (PCon Tryz.Y 66 [V.s s0, V.i IntKind.i64 (IntKind.i64.wrap (x6z5 + 1))] fun (v : V) =>
 v = V.tup [V.ts cs l c, V.i IntKind.i64 n, V.i IntKind.i64 n_1]) ∧
 If (ltI n 0)
 (K Out.ret 71
 [V.s s0, V.sl none 0 (some 0) 0, V.i IntKind.i64 n_1, V.i IntKind.i64 1,
 V.sl a5z5 l5z5 c5z5 k5z5, V.i IntKind.i64 (IntKind.i64.wrap (x6z5 + 1))]
 h)
 (∃ (a : Option (Nat × Nat)),
 ∃ (l_1 : Nat),
 ∃ (c_1 : Option Nat),
 ∃ (k : Nat),
 ∃ (h_1 : Heap),
 appendH Tryz.Y h 121 121 (V.sl a5z5 l5z5 c5z5 k5z5)
 (V.ts [V.i IntKind.i64 3, V.i IntKind.u8 0, V.ts cs l c] 1 (some 1)) =
 some (V.sl a l_1 c_1 k, h_1) ∧
 K Out.normal 71
 [V.s s0, V.undef, V.undef, V.undef, V.sl a l_1 c_1 k, V.i IntKind.i64 n] h_1))
 (If ((↑c.toNat : Int) == 92)
 (If (leI (↑s0.length : Int) (IntKind.i64.wrap (x6z5 + 1)))
 (K Out.ret 71
 [V.s s0, V.sl none 0 (some 0) 0, V.i IntKind.i64 (IntKind.i64.wrap (x6z5 + 1)), V.i IntKind.i64 1,
 V.sl a5z5 l5z5 c5z5 k5z5, V.i IntKind.i64 (IntKind.i64.wrap (x6z5 + 1))]
 h)
 (∃ (c : UInt8),
 (0 ≤ IntKind.i64.wrap (x6z5 + 1) ∧ s0[(IntKind.i64.wrap (x6z5 + 1)).toNat]? = some c) ∧
 ∃ (a : Option (Nat × Nat)),
 ∃ (l : Nat),
 ∃ (c_1 : Option Nat),
 ∃ (k : Nat),
 ∃ (h_1 : Heap),
 appendH Tryz.Y h 121 121 (V.sl a5z5 l5z5 c5z5 k5z5)
 (V.ts [V.i IntKind.i64 0, V.i IntKind.u8 (↑c.toNat : Int), V.sl none 0 (some 0) 0] 1
 (some 1)) =
 some (V.sl a l c_1 k, h_1) ∧
 K Out.normal 71
 [V.s s0, V.undef, V.undef, V.undef, V.sl a l c_1 k,
 V.i IntKind.i64 (IntKind.i64.wrap (IntKind.i64.wrap (x6z5 + 1) + 1))]
 h_1))
 (∃ (a : Option (Nat × Nat)),
 ∃ (l : Nat),
 ∃ (c_1 : Option Nat),
 ∃ (k : Nat),
 ∃ (h_1 : Heap),
 appendH Tryz.Y h 121 121 (V.sl a5z5 l5z5 c5z5 k5z5)
 (V.ts [V.i IntKind.i64 0, V.i IntKind.u8 (↑c.toNat : Int), V.sl none 0 (some 0) 0] 1
 (some 1)) =
 some (V.sl a l c_1 k, h_1) ∧
 K Out.normal 71
 [V.s s0, V.undef, V.undef, V.undef, V.sl a l c_1 k,
 V.i IntKind.i64 (IntKind.i64.wrap (x6z5 + 1))]
 h_1)))))
  (K (Out.exit 0) 71 [V.s s0, V.undef, V.undef, V.undef, V.sl a5z5 l5z5 c5z5 k5z5, V.i IntKind.i64 x6z5] h)) := by kernel_rfl
theorem f47_2 (a5z5 : Option (Nat × Nat)) (l5z5 : Nat) (c5z5 : Option Nat) (k5z5 : Nat) (h : Heap) (K : Out → Nat → List V → Heap → Prop) : (codeP Tryz.Y (Tryz.Y.loc 47) 100 (((post (flat (bodyOf Tryz.f47))).drop 1)) ⟨mk 71 (([5] : List Nat).zip [V.sl a5z5 l5z5 c5z5 k5z5]), [], h⟩ (VQ [2, 3, 4] K)) =
  (K Out.ret 71 [V.sl a5z5 l5z5 c5z5 k5z5, V.i IntKind.i64 0, V.i IntKind.i64 0] h) := by kernel_rfl
theorem f66_0 (s0 : List UInt8) (x1 : Int) (h : Heap) (K : Out → Nat → List V → Heap → Prop) : (codeP Tryz.Y (Tryz.Y.loc 66) 100 (pre (flat (bodyOf Tryz.f66))) ⟨(V.s s0 :: V.i IntKind.i64 x1 :: List.replicate 79 .undef), [], h⟩ (VQ [0, 1, 3, 4, 7, 9] K)) =
  (K Out.normal 81 [V.s s0, V.i IntKind.i64 x1, V.undef, V.sl none 0 (some 0) 0, V.sl none 0 (some 0) 0, V.undef] h) := by kernel_rfl
theorem f66_1 (s0 : List UInt8) (x1 : Int) (a7z3 : Option (Nat × Nat)) (l7z3 : Nat) (c7z3 : Option Nat) (k7z3 : Nat) (v9z3 : V) (h : Heap) (K : Out → Nat → List V → Heap → Prop) : (codeP Tryz.Y (Tryz.Y.loc 66) 100 ((flat (loopB (post (flat (bodyOf Tryz.f66)))))) ⟨mk 81 (([0, 1, 3, 4, 7, 9] : List Nat).zip [V.s s0, V.i IntKind.i64 x1, V.undef, V.sl none 0 (some 0) 0, V.sl a7z3 l7z3 c7z3 k7z3, v9z3]), [], h⟩ (VQ [0, 1, 3, 4, 5, 6, 7, 9] K)) =
  (If (ltI 0 (↑l7z3 : Int))
  (If (ltI x1 (↑s0.length : Int))
 (∃ (c : UInt8),
 (0 ≤ x1 ∧ s0[x1.toNat]? = some c) ∧
 If ((↑c.toNat : Int) == 93)
 (K Out.ret 81
 [V.s s0, V.i IntKind.i64 x1, V.undef, V.sl a7z3 l7z3 c7z3 k7z3, V.i IntKind.i64 (IntKind.i64.wrap (x1 + 1)),
 V.i IntKind.i64 0, V.sl a7z3 l7z3 c7z3 k7z3, v9z3]
 h)
 (∃ (n : Int),
 ∃ (n_1 : Int),
 ∃ (n_2 : Int),
 (PCon Tryz.Y 89 [V.s s0, V.i IntKind.i64 x1] fun (v : V) =>
 v = V.tup [V.i IntKind.u8 n, V.i IntKind.i64 n_1, V.i IntKind.i64 n_2]) ∧
 If (ltI n_1 0)
 (K Out.ret 81
 [V.s s0, V.i IntKind.i64 x1, V.undef, V.sl none 0 (some 0) 0, V.i IntKind.i64 (-1),
 V.i IntKind.i64 n_2, V.sl a7z3 l7z3 c7z3 k7z3, V.i IntKind.i64 n_1]
 h)
 (If (ltI (IntKind.i64.wrap (x1 + n_1)) (↑s0.length : Int))
 (∃ (c : UInt8),
 (0 ≤ IntKind.i64.wrap (x1 + n_1) ∧ s0[(IntKind.i64.wrap (x1 + n_1)).toNat]? = some c) ∧
 If ((↑c.toNat : Int) == 45)
 (∃ (n_3 : Int),
 ∃ (n_4 : Int),
 ∃ (n_5 : Int),
 (PCon Tryz.Y 89
 [V.s s0, V.i IntKind.i64 (IntKind.i64.wrap (IntKind.i64.wrap (x1 + n_1) + 1))]
 fun (v : V) =>
 v = V.tup [V.i IntKind.u8 n_3, V.i IntKind.i64 n_4, V.i IntKind.i64 n_5]) ∧
 If (ltI n_4 0)
 (K Out.ret 81
 [V.s s0, V.i IntKind.i64 (IntKind.i64.wrap (x1 + n_1)), V.undef,
 V.sl none 0 (some 0) 0, V.i IntKind.i64 (-1), V.i IntKind.i64 n_5,
 V.sl a7z3 l7z3 c7z3 k7z3, V.i IntKind.i64 n_4]
 h)
 (If (ltI n_3 n)
 (K Out.ret 81
 [V.s s0, V.i IntKind.i64 (IntKind.i64.wrap (x1 + n_1)), V.undef,
 V.sl none 0 (some 0) 0, V.i IntKind.i64 (-1),
 V.i IntKind.i64 (IntKind.i64.wrap (IntKind.i64.wrap (x1 + n_1) + n_4)),
 V.sl a7z3 l7z3 c7z3 k7z3, V.i IntKind.i64 n_4]
 h)
 (∃ (a : Option (Nat × Nat)),
 ∃ (l : Nat),
 ∃ (c : Option Nat),
 ∃ (k : Nat),
 ∃ (h_1 : Heap),
 appendH Tryz.Y h 142 142 (V.sl a7z3 l7z3 c7z3 k7z3)
 (V.ts [V.i IntKind.u8 n, V.i IntKind.u8 n_3] 1 (some 1)) =
 some (V.sl a l c k, h_1) ∧
 K Out.normal 81
 [V.s s0,
 V.i IntKind.i64
 (IntKind.i64.wrap
 (IntKind.i64.wrap (IntKind.i64.wrap (x1 + n_1) + 1) + n_4)),
 V.undef, V.sl none 0 (some 0) 0, V.undef, V.undef, V.sl a l c k,
 V.i IntKind.i64 n_4]
 h_1)))
 (∃ (a : Option (Nat × Nat)),
 ∃ (l : Nat),
 ∃ (c : Option Nat),
 ∃ (k : Nat),
 ∃ (h_1 : Heap),
 appendH Tryz.Y h 142 142 (V.sl a7z3 l7z3 c7z3 k7z3)
 (V.ts [V.i IntKind.u8 n, V.i IntKind.u8 n] 1 (some 1)) =
 some (V.sl a l c k, h_1) ∧
 K Out.normal 81
 [V.s s0, V.i IntKind.i64 (IntKind.i64.wrap (x1 + n_1)), V.undef,
 V.sl none 0 (some 0) 0, V.undef, V.undef, V.sl a l c k, V.i IntKind.i64 n_1]
 h_1))
 (∃ (a : Option (Nat × Nat)),
 ∃ (l : Nat),
 ∃ (c : Option Nat),
 ∃ (k : Nat),
 ∃ (h_1 : Heap),
 appendH Tryz.Y h 142 142 (V.sl a7z3 l7z3 c7z3 k7z3)
 (V.ts [V.i IntKind.u8 n, V.i IntKind.u8 n] 1 (some 1)) =
 some (V.sl a l c k, h_1) ∧
 K Out.normal 81
 [V.s s0, V.i IntKind.i64 (IntKind.i64.wrap (x1 + n_1)), V.undef,
 V.sl none 0 (some 0) 0, V.undef, V.undef, V.sl a l c k, V.i IntKind.i64 n_1]
 h_1))))
 (∃ (n : Int),
 ∃ (n_1 : Int),
 ∃ (n_2 : Int),
 (PCon Tryz.Y 89 [V.s s0, V.i IntKind.i64 x1] fun (v : V) =>
 v = V.tup [V.i IntKind.u8 n, V.i IntKind.i64 n_1, V.i IntKind.i64 n_2]) ∧
 If (ltI n_1 0)
 (K Out.ret 81
 [V.s s0, V.i IntKind.i64 x1, V.undef, V.sl none 0 (some 0) 0, V.i IntKind.i64 (-1), V.i IntKind.i64 n_2,
 V.sl a7z3 l7z3 c7z3 k7z3, V.i IntKind.i64 n_1]
 h)
 (If (ltI (IntKind.i64.wrap (x1 + n_1)) (↑s0.length : Int))
 (∃ (c : UInt8),
 (0 ≤ IntKind.i64.wrap (x1 + n_1) ∧ s0[(IntKind.i64.wrap (x1 + n_1)).toNat]? = some c) ∧
 If ((↑c.toNat : Int) == 45)
 (∃ (n_3 : Int),
 ∃ (n_4 : Int),
 ∃ (n_5 : Int),
 (PCon Tryz.Y 89
 [V.s s0, V.i IntKind.i64 (IntKind.i64.wrap (IntKind.i64.wrap (x1 + n_1) + 1))]
 fun (v : V) =>
 v = V.tup [V.i IntKind.u8 n_3, V.i IntKind.i64 n_4, V.i IntKind.i64 n_5]) ∧
 If (ltI n_4 0)
 (K Out.ret 81
 [V.s s0, V.i IntKind.i64 (IntKind.i64.wrap (x1 + n_1)), V.undef,
 V.sl none 0 (some 0) 0, V.i IntKind.i64 (-1), V.i IntKind.i64 n_5,
 V.sl a7z3 l7z3 c7z3 k7z3, V.i IntKind.i64 n_4]
 h)
 (If (ltI n_3 n)
 (K Out.ret 81
 [V.s s0, V.i IntKind.i64 (IntKind.i64.wrap (x1 + n_1)), V.undef,
 V.sl none 0 (some 0) 0, V.i IntKind.i64 (-1),
 V.i IntKind.i64 (IntKind.i64.wrap (IntKind.i64.wrap (x1 + n_1) + n_4)),
 V.sl a7z3 l7z3 c7z3 k7z3, V.i IntKind.i64 n_4]
 h)
 (∃ (a : Option (Nat × Nat)),
 ∃ (l : Nat),
 ∃ (c : Option Nat),
 ∃ (k : Nat),
 ∃ (h_1 : Heap),
 appendH Tryz.Y h 142 142 (V.sl a7z3 l7z3 c7z3 k7z3)
 (V.ts [V.i IntKind.u8 n, V.i IntKind.u8 n_3] 1 (some 1)) =
 some (V.sl a l c k, h_1) ∧
 K Out.normal 81
 [V.s s0,
 V.i IntKind.i64
 (IntKind.i64.wrap
 (IntKind.i64.wrap (IntKind.i64.wrap (x1 + n_1) + 1) + n_4)),
 V.undef, V.sl none 0 (some 0) 0, V.undef, V.undef, V.sl a l c k,
 V.i IntKind.i64 n_4]
 h_1)))
 (∃ (a : Option (Nat × Nat)),
 ∃ (l : Nat),
 ∃ (c : Option Nat),
 ∃ (k : Nat),
 ∃ (h_1 : Heap),
 appendH Tryz.Y h 142 142 (V.sl a7z3 l7z3 c7z3 k7z3)
 (V.ts [V.i IntKind.u8 n, V.i IntKind.u8 n] 1 (some 1)) =
 some (V.sl a l c k, h_1) ∧
 K Out.normal 81
 [V.s s0, V.i IntKind.i64 (IntKind.i64.wrap (x1 + n_1)), V.undef,
 V.sl none 0 (some 0) 0, V.undef, V.undef, V.sl a l c k, V.i IntKind.i64 n_1]
 h_1))
 (∃ (a : Option (Nat × Nat)),
 ∃ (l : Nat),
 ∃ (c : Option Nat),
 ∃ (k : Nat),
 ∃ (h_1 : Heap),
 appendH Tryz.Y h 142 142 (V.sl a7z3 l7z3 c7z3 k7z3)
 (V.ts [V.i IntKind.u8 n, V.i IntKind.u8 n] 1 (some 1)) =
 some (V.sl a l c k, h_1) ∧
 K Out.normal 81
 [V.s s0, V.i IntKind.i64 (IntKind.i64.wrap (x1 + n_1)), V.undef, V.sl none 0 (some 0) 0,
 V.undef, V.undef, V.sl a l c k, V.i IntKind.i64 n_1]
 h_1))))
  (∃ (n : Int),
 ∃ (n_1 : Int),
 ∃ (n_2 : Int),
 (PCon Tryz.Y 89 [V.s s0, V.i IntKind.i64 x1] fun (v : V) =>
 v = V.tup [V.i IntKind.u8 n, V.i IntKind.i64 n_1, V.i IntKind.i64 n_2]) ∧
 If (ltI n_1 0)
 (K Out.ret 81
 [V.s s0, V.i IntKind.i64 x1, V.undef, V.sl none 0 (some 0) 0, V.i IntKind.i64 (-1), V.i IntKind.i64 n_2,
 V.sl a7z3 l7z3 c7z3 k7z3, V.i IntKind.i64 n_1]
 h)
 (If (ltI (IntKind.i64.wrap (x1 + n_1)) (↑s0.length : Int))
 (∃ (c : UInt8),
 (0 ≤ IntKind.i64.wrap (x1 + n_1) ∧ s0[(IntKind.i64.wrap (x1 + n_1)).toNat]? = some c) ∧
 If ((↑c.toNat : Int) == 45)
 (∃ (n_3 : Int),
 ∃ (n_4 : Int),
 ∃ (n_5 : Int),
 (PCon Tryz.Y 89 [V.s s0, V.i IntKind.i64 (IntKind.i64.wrap (IntKind.i64.wrap (x1 + n_1) + 1))]
 fun (v : V) => v = V.tup [V.i IntKind.u8 n_3, V.i IntKind.i64 n_4, V.i IntKind.i64 n_5]) ∧
 If (ltI n_4 0)
 (K Out.ret 81
 [V.s s0, V.i IntKind.i64 (IntKind.i64.wrap (x1 + n_1)), V.undef, V.sl none 0 (some 0) 0,
 V.i IntKind.i64 (-1), V.i IntKind.i64 n_5, V.sl a7z3 l7z3 c7z3 k7z3,
 V.i IntKind.i64 n_4]
 h)
 (If (ltI n_3 n)
 (K Out.ret 81
 [V.s s0, V.i IntKind.i64 (IntKind.i64.wrap (x1 + n_1)), V.undef,
 V.sl none 0 (some 0) 0, V.i IntKind.i64 (-1),
 V.i IntKind.i64 (IntKind.i64.wrap (IntKind.i64.wrap (x1 + n_1) + n_4)),
 V.sl a7z3 l7z3 c7z3 k7z3, V.i IntKind.i64 n_4]
 h)
 (∃ (a : Option (Nat × Nat)),
 ∃ (l : Nat),
 ∃ (c : Option Nat),
 ∃ (k : Nat),
 ∃ (h_1 : Heap),
 appendH Tryz.Y h 142 142 (V.sl a7z3 l7z3 c7z3 k7z3)
 (V.ts [V.i IntKind.u8 n, V.i IntKind.u8 n_3] 1 (some 1)) =
 some (V.sl a l c k, h_1) ∧
 K Out.normal 81
 [V.s s0,
 V.i IntKind.i64
 (IntKind.i64.wrap
 (IntKind.i64.wrap (IntKind.i64.wrap (x1 + n_1) + 1) + n_4)),
 V.undef, V.sl none 0 (some 0) 0, V.undef, V.undef, V.sl a l c k,
 V.i IntKind.i64 n_4]
 h_1)))
 (∃ (a : Option (Nat × Nat)),
 ∃ (l : Nat),
 ∃ (c : Option Nat),
 ∃ (k : Nat),
 ∃ (h_1 : Heap),
 appendH Tryz.Y h 142 142 (V.sl a7z3 l7z3 c7z3 k7z3)
 (V.ts [V.i IntKind.u8 n, V.i IntKind.u8 n] 1 (some 1)) =
 some (V.sl a l c k, h_1) ∧
 K Out.normal 81
 [V.s s0, V.i IntKind.i64 (IntKind.i64.wrap (x1 + n_1)), V.undef,
 V.sl none 0 (some 0) 0, V.undef, V.undef, V.sl a l c k, V.i IntKind.i64 n_1]
 h_1))
 (∃ (a : Option (Nat × Nat)),
 ∃ (l : Nat),
 ∃ (c : Option Nat),
 ∃ (k : Nat),
 ∃ (h_1 : Heap),
 appendH Tryz.Y h 142 142 (V.sl a7z3 l7z3 c7z3 k7z3)
 (V.ts [V.i IntKind.u8 n, V.i IntKind.u8 n] 1 (some 1)) =
 some (V.sl a l c k, h_1) ∧
 K Out.normal 81
 [V.s s0, V.i IntKind.i64 (IntKind.i64.wrap (x1 + n_1)), V.undef, V.sl none 0 (some 0) 0,
 V.undef, V.undef, V.sl a l c k, V.i IntKind.i64 n_1]
 h_1)))) := by kernel_rfl
theorem f89_0 (s0 : List UInt8) (x1 : Int) (h : Heap) (K : Out → Nat → List V → Heap → Prop) : (codeP Tryz.Y (Tryz.Y.loc 89) 100 ((flat (bodyOf Tryz.f89))) ⟨(V.s s0 :: V.i IntKind.i64 x1 :: List.replicate 40 .undef), [], h⟩ (VQ [4, 5, 6] K)) =
  (If (leI (↑s0.length : Int) x1) (K Out.ret 42 [V.i IntKind.u8 0, V.i IntKind.i64 (-1), V.i IntKind.i64 x1] h)
  (∃ (c : UInt8),
 (0 ≤ x1 ∧ s0[x1.toNat]? = some c) ∧
 If ((↑c.toNat : Int) == 93) (K Out.ret 42 [V.i IntKind.u8 0, V.i IntKind.i64 (-1), V.i IntKind.i64 x1] h)
 (∃ (c : UInt8),
 (0 ≤ x1 ∧ s0[x1.toNat]? = some c) ∧
 If ((↑c.toNat : Int) == 45) (K Out.ret 42 [V.i IntKind.u8 0, V.i IntKind.i64 (-1), V.i IntKind.i64 x1] h)
 (∃ (c : UInt8),
 (0 ≤ x1 ∧ s0[x1.toNat]? = some c) ∧
 If ((↑c.toNat : Int) != 92)
 (∃ (c : UInt8),
 (0 ≤ x1 ∧ s0[x1.toNat]? = some c) ∧
 K Out.ret 42 [V.i IntKind.u8 (↑c.toNat : Int), V.i IntKind.i64 1, V.i IntKind.i64 0] h)
 (If (leI (↑s0.length : Int) (IntKind.i64.wrap (x1 + 1)))
 (K Out.ret 42
 [V.i IntKind.u8 0, V.i IntKind.i64 (-1), V.i IntKind.i64 (IntKind.i64.wrap (x1 + 1))] h)
 (∃ (c : UInt8),
 (0 ≤ IntKind.i64.wrap (x1 + 1) ∧ s0[(IntKind.i64.wrap (x1 + 1)).toNat]? = some c) ∧
 K Out.ret 42 [V.i IntKind.u8 (↑c.toNat : Int), V.i IntKind.i64 2, V.i IntKind.i64 0] h)))))) := by kernel_rfl
end Go.Y
