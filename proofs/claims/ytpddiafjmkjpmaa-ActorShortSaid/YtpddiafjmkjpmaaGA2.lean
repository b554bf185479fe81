/- What the pieces of functions come to: printed by program. -/
import Derived.Test.YtpddiafjmkjpmaaYTryP
import Derived.Test.YtpddiafjmkjpmaaYLoop
namespace Go.Y
open Go.Proofs
set_option maxRecDepth 100000
set_option maxHeartbeats 0
theorem f13_0 (s0 : List UInt8) (h : Heap) (K : Out → Nat → List V → Heap → Prop) : (codeP Try.Y (Try.Y.loc 13) 100 (pre (flat (bodyOf Try.f13))) ⟨(V.s s0 :: List.replicate 33 .undef), [], h⟩ (VQ [0, 2, 3, 4, 5, 6] K)) =
  (If (ltI 200 (↑s0.length : Int))
  (K Out.ret 34 [V.s s0, V.sl none 0 (some 0) 0, V.i IntKind.i64 200, V.i IntKind.i64 2, V.undef, V.undef] h)
  (K Out.normal 34
 [V.s s0, V.sl none 0 (some 0) 0, V.i IntKind.i64 0, V.i IntKind.i64 0, V.p (some (h.nx, 0)), V.sl none 0 (some 0) 0]
 (h.push (YObj.arr [V.s s0, V.i IntKind.i64 0, V.b false] true)))) := by kernel_rfl
theorem f13_1 (s0 : List UInt8) (id5 : Nat) (a6 : Option (Nat × Nat)) (l6 : Nat) (c6 : Option Nat) (k6 : Nat) (h : Heap) (K : Out → Nat → List V → Heap → Prop) : (codeP Try.Y (Try.Y.loc 13) 100 ((flat (loopB (post (flat (bodyOf Try.f13)))))) ⟨mk 34 (([0, 5, 6] : List Nat).zip [V.s s0, V.p (some (id5, 0)), V.sl a6 l6 c6 k6]), [], h⟩ (VQ [0, 2, 3, 4, 5, 6] K)) =
  (∃ (n : Int),
  hcells h id5 1 1 = some [V.i IntKind.i64 n] ∧
 If (ltI n (↑s0.length : Int))
 (Con Try.Y 48 [V.p (some (id5, 0))] h fun (v : V) (h' : Heap) =>
 ∃ (n : Int),
 ∃ (n_1 : Int),
 ∃ (cs : List V),
 ∃ (l : Nat),
 ∃ (c : Option Nat),
 v = V.agg [V.i IntKind.i64 n, V.i IntKind.u8 n_1, V.ts cs l c] ∧
 ∃ (a : Option (Nat × Nat)),
 ∃ (l_1 : Nat),
 ∃ (c_1 : Option Nat),
 ∃ (k : Nat),
 ∃ (h : Heap),
 appendH Try.Y h' 23 23 (V.sl a6 l6 c6 k6)
 (V.ts [V.i IntKind.i64 n, V.i IntKind.u8 n_1, V.ts cs l c] 1 (some 1)) =
 some (V.sl a l_1 c_1 k, h) ∧
 ∃ (b : Bool),
 hcells h id5 2 1 = some [V.b b] ∧
 If b
 (∃ (n : Int),
 hcells h id5 1 1 = some [V.i IntKind.i64 n] ∧
 K Out.ret 34
 [V.s s0, V.sl none 0 (some 0) 0, V.i IntKind.i64 n, V.i IntKind.i64 1,
 V.p (some (id5, 0)), V.sl a l_1 c_1 k]
 h)
 (K Out.normal 34
 [V.s s0, V.undef, V.undef, V.undef, V.p (some (id5, 0)), V.sl a l_1 c_1 k] h))
 (K (Out.exit 0) 34 [V.s s0, V.undef, V.undef, V.undef, V.p (some (id5, 0)), V.sl a6 l6 c6 k6] h)) := by kernel_rfl
theorem f13_2 (a6 : Option (Nat × Nat)) (l6 : Nat) (c6 : Option Nat) (k6 : Nat) (h : Heap) (K : Out → Nat → List V → Heap → Prop) : (codeP Try.Y (Try.Y.loc 13) 100 (((post (flat (bodyOf Try.f13))).drop 1)) ⟨mk 34 (([6] : List Nat).zip [V.sl a6 l6 c6 k6]), [], h⟩ (VQ [2, 3, 4] K)) =
  (K Out.ret 34 [V.sl a6 l6 c6 k6, V.i IntKind.i64 0, V.i IntKind.i64 0] h) := by kernel_rfl
theorem f14_0 (s0 : List UInt8) (h : Heap) (K : Out → Nat → List V → Heap → Prop) : (codeP Try.Y (Try.Y.loc 14) 100 (pre (flat (bodyOf Try.f14))) ⟨(V.s s0 :: List.replicate 70 .undef), [], h⟩ (VQ [0, 2, 3, 4, 5, 6] K)) =
  (If (ltI 200 (↑s0.length : Int))
  (K Out.ret 71 [V.s s0, V.sl none 0 (some 0) 0, V.i IntKind.i64 200, V.i IntKind.i64 2, V.undef, V.undef] h)
  (K Out.normal 71
 [V.s s0, V.sl none 0 (some 0) 0, V.i IntKind.i64 0, V.i IntKind.i64 0, V.sl none 0 (some 0) 0, V.i IntKind.i64 0] h)) := by kernel_rfl
theorem f14_1 (s0 : List UInt8) (a5z5 : Option (Nat × Nat)) (l5z5 : Nat) (c5z5 : Option Nat) (k5z5 : Nat) (x6z5 : Int) (h : Heap) (K : Out → Nat → List V → Heap → Prop) : (codeP Try.Y (Try.Y.loc 14) 100 ((flat (loopB (post (flat (bodyOf Try.f14)))))) ⟨mk 71 (([0, 5, 6] : List Nat).zip [V.s s0, V.sl a5z5 l5z5 c5z5 k5z5, V.i IntKind.i64 x6z5]), [], h⟩ (VQ [0, 2, 3, 4, 5, 6] K)) =
  (If (ltI x6z5 (↑s0.length : Int))
  (∃ (c : UInt8),
 (0 ≤ x6z5 ∧ s0[x6z5.toNat]? = some c) ∧
 If ((↑c.toNat : Int) == 42)
 (∃ (a : Option (Nat × Nat)),
 ∃ (l : Nat),
 ∃ (c : Option Nat),
 ∃ (k : Nat),
 ∃ (h_1 : Heap),
 appendH Try.Y h 23 23 (V.sl a5z5 l5z5 c5z5 k5z5)
 (V.ts [V.i IntKind.i64 2, V.i IntKind.u8 0, V.sl none 0 (some 0) 0] 1 (some 1)) =
 some (V.sl a l c k, h_1) ∧
 K Out.normal 71
 [V.s s0, V.undef, V.undef, V.undef, V.sl a l c k, V.i IntKind.i64 (IntKind.i64.wrap (x6z5 + 1))]
 h_1)
 (If ((↑c.toNat : Int) == 63)
 (∃ (a : Option (Nat × Nat)),
 ∃ (l : Nat),
 ∃ (c : Option Nat),
 ∃ (k : Nat),
 ∃ (h_1 : Heap),
 appendH Try.Y h 23 23 (V.sl a5z5 l5z5 c5z5 k5z5)
 (V.ts [V.i IntKind.i64 1, V.i IntKind.u8 0, V.sl none 0 (some 0) 0] 1 (some 1)) =
 some (V.sl a l c k, h_1) ∧
 K Out.normal 71
 [V.s s0, V.undef, V.undef, V.undef, V.sl a l c k, V.i IntKind.i64 (IntKind.i64.wrap (x6z5 + 1))]
 h_1)
 (If ((↑c.toNat : Int) == 91)
 (∃ (cs : List V),
 ∃ (l : Nat),
 ∃ (c : Option Nat),
 ∃ (n : Int),
 ∃ (n_1 : Int),
 (PCon Try.Y 49 [V.s s0, V.i IntKind.i64 (IntKind.i64.wrap (x6z5 + 1))] fun (v : V) =>
 v = V.tup [V.ts cs l c, V.i IntKind.i64 n, V.i IntKind.i64 n_1]) ∧
 If (ltI n 0)
 (K Out.ret 71
 [V.s s0, V.sl none 0 (some 0) 0, V.i IntKind.i64 n_1, V.i IntKind.i64 1,
 V.sl a5z5 l5z5 c5z5 k5z5, V.i IntKind.i64 (IntKind.i64.wrap (x6z5 + 1))]
 h)
 (∃ (a : Option (Nat × Nat)),
 ∃ (l_1 : Nat),
 ∃ (c_1 : Option Nat),
 ∃ (k : Nat),
 ∃ (h_1 : Heap),
 appendH Try.Y h 23 23 (V.sl a5z5 l5z5 c5z5 k5z5)
 (V.ts [V.i IntKind.i64 3, V.i IntKind.u8 0, V.ts cs l c] 1 (some 1)) =
 some (V.sl a l_1 c_1 k, h_1) ∧
 K Out.normal 71
 [V.s s0, V.undef, V.undef, V.undef, V.sl a l_1 c_1 k, V.i IntKind.i64 n] h_1))
 (If ((↑c.toNat : Int) == 92)
 (If (leI (↑s0.length : Int) (IntKind.i64.wrap (x6z5 + 1)))
 (K Out.ret 71
 [V.s s0, V.sl none 0 (some 0) 0, V.i IntKind.i64 (IntKind.i64.wrap (x6z5 + 1)), V.i IntKind.i64 1,
 V.sl a5z5 l5z5 c5z5 k5z5, V.i IntKind.i64 (IntKind.i64.wrap (x6z5 + 1))]
 h)
 (∃ (c : UInt8),
 (0 ≤ IntKind.i64.wrap (x6z5 + 1) ∧ s0[(IntKind.i64.wrap (x6z5 + 1)).toNat]? = some c) ∧
 ∃ (a : Option (Nat × Nat)),
 ∃ (l : Nat),
 ∃ (c_1 : Option Nat),
 ∃ (k : Nat),
 ∃ (h_1 : Heap),
 appendH Try.Y h 23 23 (V.sl a5z5 l5z5 c5z5 k5z5)
 (V.ts [V.i IntKind.i64 0, V.i IntKind.u8 (↑c.toNat : Int), V.sl none 0 (some 0) 0] 1
 (some 1)) =
 some (V.sl a l c_1 k, h_1) ∧
 K Out.normal 71
 [V.s s0, V.undef, V.undef, V.undef, V.sl a l c_1 k,
 V.i IntKind.i64 (IntKind.i64.wrap (IntKind.i64.wrap (x6z5 + 1) + 1))]
 h_1))
 (∃ (a : Option (Nat × Nat)),
 ∃ (l : Nat),
 ∃ (c_1 : Option Nat),
 ∃ (k : Nat),
 ∃ (h_1 : Heap),
 appendH Try.Y h 23 23 (V.sl a5z5 l5z5 c5z5 k5z5)
 (V.ts [V.i IntKind.i64 0, V.i IntKind.u8 (↑c.toNat : Int), V.sl none 0 (some 0) 0] 1
 (some 1)) =
 some (V.sl a l c_1 k, h_1) ∧
 K Out.normal 71
 [V.s s0, V.undef, V.undef, V.undef, V.sl a l c_1 k,
 V.i IntKind.i64 (IntKind.i64.wrap (x6z5 + 1))]
 h_1)))))
  (K (Out.exit 0) 71 [V.s s0, V.undef, V.undef, V.undef, V.sl a5z5 l5z5 c5z5 k5z5, V.i IntKind.i64 x6z5] h)) := by kernel_rfl
theorem f14_2 (a5z5 : Option (Nat × Nat)) (l5z5 : Nat) (c5z5 : Option Nat) (k5z5 : Nat) (h : Heap) (K : Out → Nat → List V → Heap → Prop) : (codeP Try.Y (Try.Y.loc 14) 100 (((post (flat (bodyOf Try.f14))).drop 1)) ⟨mk 71 (([5] : List Nat).zip [V.sl a5z5 l5z5 c5z5 k5z5]), [], h⟩ (VQ [2, 3, 4] K)) =
  (K Out.ret 71 [V.sl a5z5 l5z5 c5z5 k5z5, V.i IntKind.i64 0, V.i IntKind.i64 0] h) := by kernel_rfl
theorem f15_0 (cs0 : List V) (n0 : Nat) (cs1 : List V) (n1 : Nat) (h : Heap) (K : Out → Nat → List V → Heap → Prop) : (codeP Try.Y (Try.Y.loc 15) 100 (pre (flat (bodyOf Try.f15))) ⟨(V.ts cs0 n0 none :: V.ts cs1 n1 none :: List.replicate 82 .undef), [], h⟩ (VQ [0, 1, 4, 5, 11] K)) =
  (If ((↑n0 : Int) != (↑n1 : Int)) (K Out.ret 84 [V.ts cs0 n0 none, V.ts cs1 n1 none, V.b false, V.undef, V.b true] h)
  (K Out.normal 84 [V.ts cs0 n0 none, V.ts cs1 n1 none, V.b false, V.i IntKind.i64 0, V.b false] h)) := by kernel_rfl
theorem f15_1 (cs0 : List V) (n0 : Nat) (cs1 : List V) (n1 : Nat) (x5 : Int) (h : Heap) (K : Out → Nat → List V → Heap → Prop) : (codeP Try.Y (Try.Y.loc 15) 100 (pre (flat (loopB (post (flat (bodyOf Try.f15)))))) ⟨mk 84 (([0, 1, 5, 11] : List Nat).zip [V.ts cs0 n0 none, V.ts cs1 n1 none, V.i IntKind.i64 x5, V.b false]), [], h⟩ (VQ [0, 1, 5, 11] K)) =
  (If (ltI x5 (↑n0 : Int)) (K Out.normal 84 [V.ts cs0 n0 none, V.ts cs1 n1 none, V.i IntKind.i64 x5, V.b false] h)
  (K (Out.exit 0) 84 [V.ts cs0 n0 none, V.ts cs1 n1 none, V.i IntKind.i64 x5, V.b false] h)) := by kernel_rfl
theorem f15_2 (cs0 : List V) (n0 : Nat) (cs1 : List V) (n1 : Nat) (x5 : Int) (h : Heap) (K : Out → Nat → List V → Heap → Prop) : (codeP Try.Y (Try.Y.loc 15) 100 (pre (flat (blockB (post (flat (loopB (post (flat (bodyOf Try.f15))))))))) ⟨mk 84 (([0, 1, 5, 11] : List Nat).zip [V.ts cs0 n0 none, V.ts cs1 n1 none, V.i IntKind.i64 x5, V.b false]), [], h⟩ (VQ [0, 1, 4, 5, 6, 11] K)) =
  ((0 ≤ x5 ∧ x5 < (↑n0 : Int)) ∧
  ∃ (n : Int),
 takeX 1 (List.drop 0 (List.drop (x5.toNat * 3) cs0)) = some [V.i IntKind.i64 n] ∧
 (0 ≤ x5 ∧ x5 < (↑n1 : Int)) ∧
 ∃ (n_1 : Int),
 takeX 1 (List.drop 0 (List.drop (x5.toNat * 3) cs1)) = some [V.i IntKind.i64 n_1] ∧
 If (n != n_1)
 (K Out.ret 84 [V.ts cs0 n0 none, V.ts cs1 n1 none, V.b false, V.i IntKind.i64 x5, V.undef, V.b false] h)
 ((0 ≤ x5 ∧ x5 < (↑n0 : Int)) ∧
 ∃ (n : Int),
 takeX 1 (List.drop 1 (List.drop (x5.toNat * 3) cs0)) = some [V.i IntKind.u8 n] ∧
 (0 ≤ x5 ∧ x5 < (↑n1 : Int)) ∧
 ∃ (n_2 : Int),
 takeX 1 (List.drop 1 (List.drop (x5.toNat * 3) cs1)) = some [V.i IntKind.u8 n_2] ∧
 If (n != n_2)
 (K Out.ret 84
 [V.ts cs0 n0 none, V.ts cs1 n1 none, V.b false, V.i IntKind.i64 x5, V.undef, V.b false] h)
 ((0 ≤ x5 ∧ x5 < (↑n0 : Int)) ∧
 ∃ (cs : List V),
 ∃ (l : Nat),
 ∃ (c : Option Nat),
 takeX 1 (List.drop 2 (List.drop (x5.toNat * 3) cs0)) = some [V.ts cs l c] ∧
 (0 ≤ x5 ∧ x5 < (↑n1 : Int)) ∧
 ∃ (cs : List V),
 ∃ (l_1 : Nat),
 ∃ (c : Option Nat),
 takeX 1 (List.drop 2 (List.drop (x5.toNat * 3) cs1)) =
 some [V.ts cs l_1 c] ∧
 If ((↑l : Int) != (↑l_1 : Int))
 (K Out.ret 84
 [V.ts cs0 n0 none, V.ts cs1 n1 none, V.b false, V.i IntKind.i64 x5,
 V.undef, V.b false]
 h)
 (K Out.normal 84
 [V.ts cs0 n0 none, V.ts cs1 n1 none, V.undef, V.i IntKind.i64 x5,
 V.i IntKind.i64 0, V.b false]
 h)))) := by kernel_rfl
theorem f15_3 (cs0 : List V) (n0 : Nat) (cs1 : List V) (n1 : Nat) (x5 : Int) (x6z2 : Int) (h : Heap) (K : Out → Nat → List V → Heap → Prop) : (codeP Try.Y (Try.Y.loc 15) 100 ((flat (loopB (post (flat (blockB (post (flat (loopB (post (flat (bodyOf Try.f15)))))))))))) ⟨mk 84 (([0, 1, 5, 6, 11] : List Nat).zip [V.ts cs0 n0 none, V.ts cs1 n1 none, V.i IntKind.i64 x5, V.i IntKind.i64 x6z2, V.b false]), [], h⟩ (VQ [0, 1, 4, 5, 6, 11] K)) =
  ((0 ≤ x5 ∧ x5 < (↑n0 : Int)) ∧
  ∃ (cs : List V),
 ∃ (l : Nat),
 ∃ (c : Option Nat),
 takeX 1 (List.drop 2 (List.drop (x5.toNat * 3) cs0)) = some [V.ts cs l c] ∧
 If (ltI x6z2 (↑l : Int))
 ((0 ≤ x5 ∧ x5 < (↑n0 : Int)) ∧
 ∃ (cs : List V),
 ∃ (l : Nat),
 ∃ (c : Option Nat),
 takeX 1 (List.drop 2 (List.drop (x5.toNat * 3) cs0)) = some [V.ts cs l c] ∧
 (0 ≤ x6z2 ∧ x6z2 < (↑l : Int)) ∧
 ∃ (n : Int),
 ∃ (n_1 : Int),
 takeX 2 (List.drop (x6z2.toNat * 2) cs) = some [V.i IntKind.u8 n, V.i IntKind.u8 n_1] ∧
 (0 ≤ x5 ∧ x5 < (↑n1 : Int)) ∧
 ∃ (cs : List V),
 ∃ (l : Nat),
 ∃ (c : Option Nat),
 takeX 1 (List.drop 2 (List.drop (x5.toNat * 3) cs1)) = some [V.ts cs l c] ∧
 (0 ≤ x6z2 ∧ x6z2 < (↑l : Int)) ∧
 ∃ (n_2 : Int),
 ∃ (n_3 : Int),
 takeX 2 (List.drop (x6z2.toNat * 2) cs) =
 some [V.i IntKind.u8 n_2, V.i IntKind.u8 n_3] ∧
 If (!(n == n_2 && (n_1 == n_3 && true)))
 (K Out.ret 84
 [V.ts cs0 n0 none, V.ts cs1 n1 none, V.b false, V.i IntKind.i64 x5,
 V.i IntKind.i64 x6z2, V.b false]
 h)
 (K Out.normal 84
 [V.ts cs0 n0 none, V.ts cs1 n1 none, V.undef, V.i IntKind.i64 x5,
 V.i IntKind.i64 (IntKind.i64.wrap (x6z2 + 1)), V.b false]
 h))
 (K (Out.exit 2) 84
 [V.ts cs0 n0 none, V.ts cs1 n1 none, V.undef, V.i IntKind.i64 x5, V.i IntKind.i64 x6z2, V.b false] h)) := by kernel_rfl
theorem f15_4 (cs0 : List V) (n0 : Nat) (cs1 : List V) (n1 : Nat) (x5 : Int) (h : Heap) (K : Out → Nat → List V → Heap → Prop) : (codeP Try.Y (Try.Y.loc 15) 100 (((post (flat (loopB (post (flat (bodyOf Try.f15)))))).drop 1)) ⟨mk 84 (([0, 1, 5, 11] : List Nat).zip [V.ts cs0 n0 none, V.ts cs1 n1 none, V.i IntKind.i64 x5, V.b false]), [], h⟩ (VQ [0, 1, 5, 11] K)) =
  (K Out.normal 84 [V.ts cs0 n0 none, V.ts cs1 n1 none, V.i IntKind.i64 (IntKind.i64.wrap (x5 + 1)), V.b false] h) := by kernel_rfl
theorem f15_5  (h : Heap) (K : Out → Nat → List V → Heap → Prop) : (codeP Try.Y (Try.Y.loc 15) 100 (((post (flat (bodyOf Try.f15))).drop 1)) ⟨mk 84 (([] : List Nat).zip []), [], h⟩ (VQ [4] K)) =
  (K Out.ret 84 [V.b true] h) := by kernel_rfl
theorem f49_0 (s0 : List UInt8) (x1 : Int) (h : Heap) (K : Out → Nat → List V → Heap → Prop) : (codeP Try.Y (Try.Y.loc 49) 100 (pre (flat (bodyOf Try.f49))) ⟨(V.s s0 :: V.i IntKind.i64 x1 :: List.replicate 79 .undef), [], h⟩ (VQ [0, 1, 3, 4, 7, 9] K)) =
  (K Out.normal 81 [V.s s0, V.i IntKind.i64 x1, V.undef, V.sl none 0 (some 0) 0, V.sl none 0 (some 0) 0, V.undef] h) := by kernel_rfl
theorem f49_1 (s0 : List UInt8) (x1 : Int) (a7z3 : Option (Nat × Nat)) (l7z3 : Nat) (c7z3 : Option Nat) (k7z3 : Nat) (v9z3 : V) (h : Heap) (K : Out → Nat → List V → Heap → Prop) : (codeP Try.Y (Try.Y.loc 49) 100 ((flat (loopB (post (flat (bodyOf Try.f49)))))) ⟨mk 81 (([0, 1, 3, 4, 7, 9] : List Nat).zip [V.s s0, V.i IntKind.i64 x1, V.undef, V.sl none 0 (some 0) 0, V.sl a7z3 l7z3 c7z3 k7z3, v9z3]), [], h⟩ (VQ [0, 1, 3, 4, 5, 6, 7, 9] K)) =
  (If (ltI 0 (↑l7z3 : Int))
  (If (ltI x1 (↑s0.length : Int))
 (∃ (c : UInt8),
 (0 ≤ x1 ∧ s0[x1.toNat]? = some c) ∧
 If ((↑c.toNat : Int) == 93)
 (K Out.ret 81
 [V.s s0, V.i IntKind.i64 x1, V.undef, V.sl a7z3 l7z3 c7z3 k7z3, V.i IntKind.i64 (IntKind.i64.wrap (x1 + 1)),
 V.i IntKind.i64 0, V.sl a7z3 l7z3 c7z3 k7z3, v9z3]
 h)
 (∃ (n : Int),
 ∃ (n_1 : Int),
 ∃ (n_2 : Int),
 (PCon Try.Y 92 [V.s s0, V.i IntKind.i64 x1] fun (v : V) =>
 v = V.tup [V.i IntKind.u8 n, V.i IntKind.i64 n_1, V.i IntKind.i64 n_2]) ∧
 If (ltI n_1 0)
 (K Out.ret 81
 [V.s s0, V.i IntKind.i64 x1, V.undef, V.sl none 0 (some 0) 0, V.i IntKind.i64 (-1),
 V.i IntKind.i64 n_2, V.sl a7z3 l7z3 c7z3 k7z3, V.i IntKind.i64 n_1]
 h)
 (If (ltI (IntKind.i64.wrap (x1 + n_1)) (↑s0.length : Int))
 (∃ (c : UInt8),
 (0 ≤ IntKind.i64.wrap (x1 + n_1) ∧ s0[(IntKind.i64.wrap (x1 + n_1)).toNat]? = some c) ∧
 If ((↑c.toNat : Int) == 45)
 (∃ (n_3 : Int),
 ∃ (n_4 : Int),
 ∃ (n_5 : Int),
 (PCon Try.Y 92
 [V.s s0, V.i IntKind.i64 (IntKind.i64.wrap (IntKind.i64.wrap (x1 + n_1) + 1))]
 fun (v : V) =>
 v = V.tup [V.i IntKind.u8 n_3, V.i IntKind.i64 n_4, V.i IntKind.i64 n_5]) ∧
 If (ltI n_4 0)
 (K Out.ret 81
 [V.s s0, V.i IntKind.i64 (IntKind.i64.wrap (x1 + n_1)), V.undef,
 V.sl none 0 (some 0) 0, V.i IntKind.i64 (-1), V.i IntKind.i64 n_5,
 V.sl a7z3 l7z3 c7z3 k7z3, V.i IntKind.i64 n_4]
 h)
 (If (ltI n_3 n)
 (K Out.ret 81
 [V.s s0, V.i IntKind.i64 (IntKind.i64.wrap (x1 + n_1)), V.undef,
 V.sl none 0 (some 0) 0, V.i IntKind.i64 (-1),
 V.i IntKind.i64 (IntKind.i64.wrap (IntKind.i64.wrap (x1 + n_1) + n_4)),
 V.sl a7z3 l7z3 c7z3 k7z3, V.i IntKind.i64 n_4]
 h)
 (∃ (a : Option (Nat × Nat)),
 ∃ (l : Nat),
 ∃ (c : Option Nat),
 ∃ (k : Nat),
 ∃ (h_1 : Heap),
 appendH Try.Y h 75 75 (V.sl a7z3 l7z3 c7z3 k7z3)
 (V.ts [V.i IntKind.u8 n, V.i IntKind.u8 n_3] 1 (some 1)) =
 some (V.sl a l c k, h_1) ∧
 K Out.normal 81
 [V.s s0,
 V.i IntKind.i64
 (IntKind.i64.wrap
 (IntKind.i64.wrap (IntKind.i64.wrap (x1 + n_1) + 1) + n_4)),
 V.undef, V.sl none 0 (some 0) 0, V.undef, V.undef, V.sl a l c k,
 V.i IntKind.i64 n_4]
 h_1)))
 (∃ (a : Option (Nat × Nat)),
 ∃ (l : Nat),
 ∃ (c : Option Nat),
 ∃ (k : Nat),
 ∃ (h_1 : Heap),
 appendH Try.Y h 75 75 (V.sl a7z3 l7z3 c7z3 k7z3)
 (V.ts [V.i IntKind.u8 n, V.i IntKind.u8 n] 1 (some 1)) =
 some (V.sl a l c k, h_1) ∧
 K Out.normal 81
 [V.s s0, V.i IntKind.i64 (IntKind.i64.wrap (x1 + n_1)), V.undef,
 V.sl none 0 (some 0) 0, V.undef, V.undef, V.sl a l c k, V.i IntKind.i64 n_1]
 h_1))
 (∃ (a : Option (Nat × Nat)),
 ∃ (l : Nat),
 ∃ (c : Option Nat),
 ∃ (k : Nat),
 ∃ (h_1 : Heap),
 appendH Try.Y h 75 75 (V.sl a7z3 l7z3 c7z3 k7z3)
 (V.ts [V.i IntKind.u8 n, V.i IntKind.u8 n] 1 (some 1)) =
 some (V.sl a l c k, h_1) ∧
 K Out.normal 81
 [V.s s0, V.i IntKind.i64 (IntKind.i64.wrap (x1 + n_1)), V.undef,
 V.sl none 0 (some 0) 0, V.undef, V.undef, V.sl a l c k, V.i IntKind.i64 n_1]
 h_1))))
 (∃ (n : Int),
 ∃ (n_1 : Int),
 ∃ (n_2 : Int),
 (PCon Try.Y 92 [V.s s0, V.i IntKind.i64 x1] fun (v : V) =>
 v = V.tup [V.i IntKind.u8 n, V.i IntKind.i64 n_1, V.i IntKind.i64 n_2]) ∧
 If (ltI n_1 0)
 (K Out.ret 81
 [V.s s0, V.i IntKind.i64 x1, V.undef, V.sl none 0 (some 0) 0, V.i IntKind.i64 (-1), V.i IntKind.i64 n_2,
 V.sl a7z3 l7z3 c7z3 k7z3, V.i IntKind.i64 n_1]
 h)
 (If (ltI (IntKind.i64.wrap (x1 + n_1)) (↑s0.length : Int))
 (∃ (c : UInt8),
 (0 ≤ IntKind.i64.wrap (x1 + n_1) ∧ s0[(IntKind.i64.wrap (x1 + n_1)).toNat]? = some c) ∧
 If ((↑c.toNat : Int) == 45)
 (∃ (n_3 : Int),
 ∃ (n_4 : Int),
 ∃ (n_5 : Int),
 (PCon Try.Y 92
 [V.s s0, V.i IntKind.i64 (IntKind.i64.wrap (IntKind.i64.wrap (x1 + n_1) + 1))]
 fun (v : V) =>
 v = V.tup [V.i IntKind.u8 n_3, V.i IntKind.i64 n_4, V.i IntKind.i64 n_5]) ∧
 If (ltI n_4 0)
 (K Out.ret 81
 [V.s s0, V.i IntKind.i64 (IntKind.i64.wrap (x1 + n_1)), V.undef,
 V.sl none 0 (some 0) 0, V.i IntKind.i64 (-1), V.i IntKind.i64 n_5,
 V.sl a7z3 l7z3 c7z3 k7z3, V.i IntKind.i64 n_4]
 h)
 (If (ltI n_3 n)
 (K Out.ret 81
 [V.s s0, V.i IntKind.i64 (IntKind.i64.wrap (x1 + n_1)), V.undef,
 V.sl none 0 (some 0) 0, V.i IntKind.i64 (-1),
 V.i IntKind.i64 (IntKind.i64.wrap (IntKind.i64.wrap (x1 + n_1) + n_4)),
 V.sl a7z3 l7z3 c7z3 k7z3, V.i IntKind.i64 n_4]
 h)
 (∃ (a : Option (Nat × Nat)),
 ∃ (l : Nat),
 ∃ (c : Option Nat),
 ∃ (k : Nat),
 ∃ (h_1 : Heap),
 appendH Try.Y h 75 75 (V.sl a7z3 l7z3 c7z3 k7z3)
 (V.ts [V.i IntKind.u8 n, V.i IntKind.u8 n_3] 1 (some 1)) =
 some (V.sl a l c k, h_1) ∧
 K Out.normal 81
 [V.s s0,
 V.i IntKind.i64
 (IntKind.i64.wrap
 (IntKind.i64.wrap (IntKind.i64.wrap (x1 + n_1) + 1) + n_4)),
 V.undef, V.sl none 0 (some 0) 0, V.undef, V.undef, V.sl a l c k,
 V.i IntKind.i64 n_4]
 h_1)))
 (∃ (a : Option (Nat × Nat)),
 ∃ (l : Nat),
 ∃ (c : Option Nat),
 ∃ (k : Nat),
 ∃ (h_1 : Heap),
 appendH Try.Y h 75 75 (V.sl a7z3 l7z3 c7z3 k7z3)
 (V.ts [V.i IntKind.u8 n, V.i IntKind.u8 n] 1 (some 1)) =
 some (V.sl a l c k, h_1) ∧
 K Out.normal 81
 [V.s s0, V.i IntKind.i64 (IntKind.i64.wrap (x1 + n_1)), V.undef,
 V.sl none 0 (some 0) 0, V.undef, V.undef, V.sl a l c k, V.i IntKind.i64 n_1]
 h_1))
 (∃ (a : Option (Nat × Nat)),
 ∃ (l : Nat),
 ∃ (c : Option Nat),
 ∃ (k : Nat),
 ∃ (h_1 : Heap),
 appendH Try.Y h 75 75 (V.sl a7z3 l7z3 c7z3 k7z3)
 (V.ts [V.i IntKind.u8 n, V.i IntKind.u8 n] 1 (some 1)) =
 some (V.sl a l c k, h_1) ∧
 K Out.normal 81
 [V.s s0, V.i IntKind.i64 (IntKind.i64.wrap (x1 + n_1)), V.undef, V.sl none 0 (some 0) 0,
 V.undef, V.undef, V.sl a l c k, V.i IntKind.i64 n_1]
 h_1))))
  (∃ (n : Int),
 ∃ (n_1 : Int),
 ∃ (n_2 : Int),
 (PCon Try.Y 92 [V.s s0, V.i IntKind.i64 x1] fun (v : V) =>
 v = V.tup [V.i IntKind.u8 n, V.i IntKind.i64 n_1, V.i IntKind.i64 n_2]) ∧
 If (ltI n_1 0)
 (K Out.ret 81
 [V.s s0, V.i IntKind.i64 x1, V.undef, V.sl none 0 (some 0) 0, V.i IntKind.i64 (-1), V.i IntKind.i64 n_2,
 V.sl a7z3 l7z3 c7z3 k7z3, V.i IntKind.i64 n_1]
 h)
 (If (ltI (IntKind.i64.wrap (x1 + n_1)) (↑s0.length : Int))
 (∃ (c : UInt8),
 (0 ≤ IntKind.i64.wrap (x1 + n_1) ∧ s0[(IntKind.i64.wrap (x1 + n_1)).toNat]? = some c) ∧
 If ((↑c.toNat : Int) == 45)
 (∃ (n_3 : Int),
 ∃ (n_4 : Int),
 ∃ (n_5 : Int),
 (PCon Try.Y 92 [V.s s0, V.i IntKind.i64 (IntKind.i64.wrap (IntKind.i64.wrap (x1 + n_1) + 1))]
 fun (v : V) => v = V.tup [V.i IntKind.u8 n_3, V.i IntKind.i64 n_4, V.i IntKind.i64 n_5]) ∧
 If (ltI n_4 0)
 (K Out.ret 81
 [V.s s0, V.i IntKind.i64 (IntKind.i64.wrap (x1 + n_1)), V.undef, V.sl none 0 (some 0) 0,
 V.i IntKind.i64 (-1), V.i IntKind.i64 n_5, V.sl a7z3 l7z3 c7z3 k7z3,
 V.i IntKind.i64 n_4]
 h)
 (If (ltI n_3 n)
 (K Out.ret 81
 [V.s s0, V.i IntKind.i64 (IntKind.i64.wrap (x1 + n_1)), V.undef,
 V.sl none 0 (some 0) 0, V.i IntKind.i64 (-1),
 V.i IntKind.i64 (IntKind.i64.wrap (IntKind.i64.wrap (x1 + n_1) + n_4)),
 V.sl a7z3 l7z3 c7z3 k7z3, V.i IntKind.i64 n_4]
 h)
 (∃ (a : Option (Nat × Nat)),
 ∃ (l : Nat),
 ∃ (c : Option Nat),
 ∃ (k : Nat),
 ∃ (h_1 : Heap),
 appendH Try.Y h 75 75 (V.sl a7z3 l7z3 c7z3 k7z3)
 (V.ts [V.i IntKind.u8 n, V.i IntKind.u8 n_3] 1 (some 1)) =
 some (V.sl a l c k, h_1) ∧
 K Out.normal 81
 [V.s s0,
 V.i IntKind.i64
 (IntKind.i64.wrap
 (IntKind.i64.wrap (IntKind.i64.wrap (x1 + n_1) + 1) + n_4)),
 V.undef, V.sl none 0 (some 0) 0, V.undef, V.undef, V.sl a l c k,
 V.i IntKind.i64 n_4]
 h_1)))
 (∃ (a : Option (Nat × Nat)),
 ∃ (l : Nat),
 ∃ (c : Option Nat),
 ∃ (k : Nat),
 ∃ (h_1 : Heap),
 appendH Try.Y h 75 75 (V.sl a7z3 l7z3 c7z3 k7z3)
 (V.ts [V.i IntKind.u8 n, V.i IntKind.u8 n] 1 (some 1)) =
 some (V.sl a l c k, h_1) ∧
 K Out.normal 81
 [V.s s0, V.i IntKind.i64 (IntKind.i64.wrap (x1 + n_1)), V.undef,
 V.sl none 0 (some 0) 0, V.undef, V.undef, V.sl a l c k, V.i IntKind.i64 n_1]
 h_1))
 (∃ (a : Option (Nat × Nat)),
 ∃ (l : Nat),
 ∃ (c : Option Nat),
 ∃ (k : Nat),
 ∃ (h_1 : Heap),
 appendH Try.Y h 75 75 (V.sl a7z3 l7z3 c7z3 k7z3)
 (V.ts [V.i IntKind.u8 n, V.i IntKind.u8 n] 1 (some 1)) =
 some (V.sl a l c k, h_1) ∧
 K Out.normal 81
 [V.s s0, V.i IntKind.i64 (IntKind.i64.wrap (x1 + n_1)), V.undef, V.sl none 0 (some 0) 0,
 V.undef, V.undef, V.sl a l c k, V.i IntKind.i64 n_1]
 h_1)))) := by kernel_rfl
theorem f92_0 (s0 : List UInt8) (x1 : Int) (h : Heap) (K : Out → Nat → List V → Heap → Prop) : (codeP Try.Y (Try.Y.loc 92) 100 ((flat (bodyOf Try.f92))) ⟨(V.s s0 :: V.i IntKind.i64 x1 :: List.replicate 40 .undef), [], h⟩ (VQ [4, 5, 6] K)) =
  (If (leI (↑s0.length : Int) x1) (K Out.ret 42 [V.i IntKind.u8 0, V.i IntKind.i64 (-1), V.i IntKind.i64 x1] h)
  (∃ (c : UInt8),
 (0 ≤ x1 ∧ s0[x1.toNat]? = some c) ∧
 If ((↑c.toNat : Int) == 93) (K Out.ret 42 [V.i IntKind.u8 0, V.i IntKind.i64 (-1), V.i IntKind.i64 x1] h)
 (∃ (c : UInt8),
 (0 ≤ x1 ∧ s0[x1.toNat]? = some c) ∧
 If ((↑c.toNat : Int) == 45) (K Out.ret 42 [V.i IntKind.u8 0, V.i IntKind.i64 (-1), V.i IntKind.i64 x1] h)
 (∃ (c : UInt8),
 (0 ≤ x1 ∧ s0[x1.toNat]? = some c) ∧
 If ((↑c.toNat : Int) != 92)
 (∃ (c : UInt8),
 (0 ≤ x1 ∧ s0[x1.toNat]? = some c) ∧
 K Out.ret 42 [V.i IntKind.u8 (↑c.toNat : Int), V.i IntKind.i64 1, V.i IntKind.i64 0] h)
 (If (leI (↑s0.length : Int) (IntKind.i64.wrap (x1 + 1)))
 (K Out.ret 42
 [V.i IntKind.u8 0, V.i IntKind.i64 (-1), V.i IntKind.i64 (IntKind.i64.wrap (x1 + 1))] h)
 (∃ (c : UInt8),
 (0 ≤ IntKind.i64.wrap (x1 + 1) ∧ s0[(IntKind.i64.wrap (x1 + 1)).toNat]? = some c) ∧
 K Out.ret 42 [V.i IntKind.u8 (↑c.toNat : Int), V.i IntKind.i64 2, V.i IntKind.i64 0] h)))))) := by kernel_rfl
theorem f16_0 (cs0 : List V) (n0 : Nat) (h : Heap) (K : Out → Nat → List V → Heap → Prop) : (codeP Try.Y (Try.Y.loc 16) 100 (pre (flat (bodyOf Try.f16))) ⟨(V.ts cs0 n0 none :: List.replicate 18 .undef), [], h⟩ (VQ [2, 8, 9, 10] K)) =
  (If (ltI 80 (↑n0 : Int)) (K Out.ret 19 [V.b false, V.undef, V.undef, V.undef] h)
  (K Out.normal 19 [V.b false, V.ts cs0 n0 none, V.i IntKind.i64 (↑n0 : Int), V.i IntKind.i64 0] h)) := by kernel_rfl
theorem f16_1 (cs0 : List V) (n0 : Nat) (x10 : Int) (h : Heap) (K : Out → Nat → List V → Heap → Prop) : (codeP Try.Y (Try.Y.loc 16) 100 ((flat (loopB (post (flat (bodyOf Try.f16)))))) ⟨mk 19 (([8, 9, 10] : List Nat).zip [V.ts cs0 n0 none, V.i IntKind.i64 (↑n0 : Int), V.i IntKind.i64 x10]), [], h⟩ (VQ [2, 8, 9, 10] K)) =
  (If (ltI x10 (↑n0 : Int))
  ((0 ≤ x10 ∧ x10 < (↑n0 : Int)) ∧
 ∃ (n : Int),
 ∃ (n_1 : Int),
 ∃ (cs : List V),
 ∃ (l : Nat),
 ∃ (c : Option Nat),
 takeX 3 (List.drop (x10.toNat * 3) cs0) = some [V.i IntKind.i64 n, V.i IntKind.u8 n_1, V.ts cs l c] ∧
 If (ltI 40 (↑l : Int))
 (K Out.ret 19 [V.b false, V.ts cs0 n0 none, V.i IntKind.i64 (↑n0 : Int), V.i IntKind.i64 x10] h)
 (K Out.normal 19
 [V.undef, V.ts cs0 n0 none, V.i IntKind.i64 (↑n0 : Int),
 V.i IntKind.i64 (IntKind.i64.wrap (x10 + 1))]
 h))
  (K (Out.exit 0) 19 [V.undef, V.ts cs0 n0 none, V.i IntKind.i64 (↑n0 : Int), V.i IntKind.i64 x10] h)) := by kernel_rfl
theorem f16_2  (h : Heap) (K : Out → Nat → List V → Heap → Prop) : (codeP Try.Y (Try.Y.loc 16) 100 (((post (flat (bodyOf Try.f16))).drop 1)) ⟨mk 19 (([] : List Nat).zip []), [], h⟩ (VQ [2] K)) =
  (K Out.ret 19 [V.b true] h) := by kernel_rfl
theorem f17_0 (cs0 : List V) (n0 : Nat) (h : Heap) (K : Out → Nat → List V → Heap → Prop) : (codeP Try.Y (Try.Y.loc 17) 100 (pre (flat (bodyOf Try.f17))) ⟨(V.ts cs0 n0 none :: List.replicate 15 .undef), [], h⟩ (VQ [0, 3] K)) =
  (K Out.normal 16 [V.ts cs0 n0 none, V.i IntKind.i64 0] h) := by kernel_rfl
theorem f17_1 (cs0 : List V) (n0 : Nat) (x3 : Int) (h : Heap) (K : Out → Nat → List V → Heap → Prop) : (codeP Try.Y (Try.Y.loc 17) 100 ((flat (loopB (post (flat (bodyOf Try.f17)))))) ⟨mk 16 (([0, 3] : List Nat).zip [V.ts cs0 n0 none, V.i IntKind.i64 x3]), [], h⟩ (VQ [0, 2, 3] K)) =
  (If (ltI x3 (↑n0 : Int))
  ((0 ≤ x3 ∧ x3 < (↑n0 : Int)) ∧
 ∃ (n : Int),
 ∃ (n_1 : Int),
 ∃ (cs : List V),
 ∃ (l : Nat),
 ∃ (c : Option Nat),
 takeX 3 (List.drop (x3.toNat * 3) cs0) = some [V.i IntKind.i64 n, V.i IntKind.u8 n_1, V.ts cs l c] ∧
 ∃ (b : Bool),
 (PCon Try.Y 50 [V.agg [V.i IntKind.i64 n, V.i IntKind.u8 n_1, V.ts cs l c]] fun (v : V) =>
 v = V.b b) ∧
 If (!b) (K Out.ret 16 [V.ts cs0 n0 none, V.b false, V.i IntKind.i64 x3] h)
 (K Out.normal 16 [V.ts cs0 n0 none, V.undef, V.i IntKind.i64 (IntKind.i64.wrap (x3 + 1))] h))
  (K (Out.exit 0) 16 [V.ts cs0 n0 none, V.undef, V.i IntKind.i64 x3] h)) := by kernel_rfl
theorem f17_2  (h : Heap) (K : Out → Nat → List V → Heap → Prop) : (codeP Try.Y (Try.Y.loc 17) 100 (((post (flat (bodyOf Try.f17))).drop 1)) ⟨mk 16 (([] : List Nat).zip []), [], h⟩ (VQ [2] K)) =
  (K Out.ret 16 [V.b true] h) := by kernel_rfl
theorem f50_0 (x0Kind : Int) (x0Byte : Int) (cs0Spans : List V) (n0Spans : Nat) (h : Heap) (K : Out → Nat → List V → Heap → Prop) : (codeP Try.Y (Try.Y.loc 50) 100 (pre (flat (bodyOf Try.f50))) ⟨(V.agg [V.i IntKind.i64 x0Kind, V.i IntKind.u8 x0Byte, V.ts cs0Spans n0Spans none] :: List.replicate 53 .undef), [], h⟩ (VQ [1, 2, 3] K)) =
  (If (x0Kind == 0)
  (K Out.ret 54
 [V.lb [V.i IntKind.i64 x0Kind, V.i IntKind.u8 x0Byte, V.ts cs0Spans n0Spans none], V.b ((↑n0Spans : Int) == 0),
 V.undef]
 h)
  (If (x0Byte != 0)
 (K Out.ret 54 [V.lb [V.i IntKind.i64 x0Kind, V.i IntKind.u8 x0Byte, V.ts cs0Spans n0Spans none], V.b false, V.undef]
 h)
 (If (ltI x0Kind 1)
 (K Out.ret 54
 [V.lb [V.i IntKind.i64 x0Kind, V.i IntKind.u8 x0Byte, V.ts cs0Spans n0Spans none], V.b false, V.undef] h)
 (If (ltI 3 x0Kind)
 (K Out.ret 54
 [V.lb [V.i IntKind.i64 x0Kind, V.i IntKind.u8 x0Byte, V.ts cs0Spans n0Spans none], V.b false, V.undef] h)
 (If (!(x0Kind == 3) == ltI 0 (↑n0Spans : Int))
 (K Out.ret 54
 [V.lb [V.i IntKind.i64 x0Kind, V.i IntKind.u8 x0Byte, V.ts cs0Spans n0Spans none], V.b false, V.undef] h)
 (K Out.normal 54
 [V.lb [V.i IntKind.i64 x0Kind, V.i IntKind.u8 x0Byte, V.ts cs0Spans n0Spans none], V.b false,
 V.i IntKind.i64 0]
 h)))))) := by kernel_rfl
theorem f50_1 (x0Kind : Int) (x0Byte : Int) (cs0Spans : List V) (n0Spans : Nat) (x3 : Int) (h : Heap) (K : Out → Nat → List V → Heap → Prop) : (codeP Try.Y (Try.Y.loc 50) 100 ((flat (loopB (post (flat (bodyOf Try.f50)))))) ⟨mk 54 (([1, 3] : List Nat).zip [V.lb [V.i IntKind.i64 x0Kind, V.i IntKind.u8 x0Byte, V.ts cs0Spans n0Spans none], V.i IntKind.i64 x3]), [], h⟩ (VQ [1, 2, 3] K)) =
  (If (ltI x3 (↑n0Spans : Int))
  ((0 ≤ x3 ∧ x3 < (↑n0Spans : Int)) ∧
 ∃ (n : Int),
 takeX 1 (List.drop 0 (List.drop (x3.toNat * 2) cs0Spans)) = some [V.i IntKind.u8 n] ∧
 (0 ≤ x3 ∧ x3 < (↑n0Spans : Int)) ∧
 ∃ (n_1 : Int),
 takeX 1 (List.drop 1 (List.drop (x3.toNat * 2) cs0Spans)) = some [V.i IntKind.u8 n_1] ∧
 If (ltI n_1 n)
 (K Out.ret 54
 [V.lb [V.i IntKind.i64 x0Kind, V.i IntKind.u8 x0Byte, V.ts cs0Spans n0Spans none], V.b false,
 V.i IntKind.i64 x3]
 h)
 (K Out.normal 54
 [V.lb [V.i IntKind.i64 x0Kind, V.i IntKind.u8 x0Byte, V.ts cs0Spans n0Spans none], V.undef,
 V.i IntKind.i64 (IntKind.i64.wrap (x3 + 1))]
 h))
  (K (Out.exit 0) 54
 [V.lb [V.i IntKind.i64 x0Kind, V.i IntKind.u8 x0Byte, V.ts cs0Spans n0Spans none], V.undef, V.i IntKind.i64 x3] h)) := by kernel_rfl
theorem f50_2  (h : Heap) (K : Out → Nat → List V → Heap → Prop) : (codeP Try.Y (Try.Y.loc 50) 100 (((post (flat (bodyOf Try.f50))).drop 1)) ⟨mk 54 (([] : List Nat).zip []), [], h⟩ (VQ [2] K)) =
  (K Out.ret 54 [V.b true] h) := by kernel_rfl
end Go.Y
