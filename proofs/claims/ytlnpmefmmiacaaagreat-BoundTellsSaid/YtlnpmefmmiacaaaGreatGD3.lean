/- What the pieces of functions come to: printed by program. -/
import Derived.Test.YtlnpmefmmiacaaaGreatYTryzP
import Derived.Test.YtlnpmefmmiacaaaGreatYFun
namespace Go.Y
open Go.Proofs
set_option maxRecDepth 100000
set_option maxHeartbeats 0
theorem f84_0 (x0Kind : Int) (s0Text : List UInt8) (x0Lo : Int) (x0Hi : Int) (x0To : Int) (x1Cap : Int) (cs1Places : List V) (n1Places : Nat) (h : Heap) (K : Out → Nat → List V → Heap → Prop) : (codeP Tryz.Y (Tryz.Y.loc 84) 100 ((flat (bodyOf Tryz.f84))) ⟨(V.agg [V.i IntKind.i64 x0Kind, V.s s0Text, V.i IntKind.i64 x0Lo, V.i IntKind.i64 x0Hi, V.i IntKind.i64 x0To] :: V.agg [V.i IntKind.i64 x1Cap, V.ts cs1Places n1Places none] :: List.replicate 78 .undef), [], h⟩ (VQ [4] K)) =
  (If (leI (0 : Int) x0To)
  (If (x0Kind == (1 : Int))
 (If (ltI x0To (↑n1Places : Int))
 (∃ (b : Bool),
 (PCon Tryz.Y (103 : Nat)
 [V.agg
 [V.i IntKind.i64 x0Kind, V.s s0Text, V.i IntKind.i64 x0Lo, V.i IntKind.i64 x0Hi, V.i IntKind.i64 x0To]]
 fun (v : V) => v = V.b b) ∧
 If b
 (If (!s0Text == #[].toList) (K Out.ret 80 [V.b (leI (↑s0Text.length : Int) x1Cap)] h)
 (K Out.ret 80 [V.b false] h))
 (K Out.ret 80 [V.b false] h))
 (K Out.ret 80 [V.b false] h))
 (If (x0Kind == (2 : Int))
 (∃ (cs : List V),
 ∃ (l : Nat),
 ∃ (c : Option Nat),
 ∃ (n : Int),
 ∃ (n_1 : Int),
 (PCon Tryz.Y (104 : Nat) [V.s s0Text] fun (v : V) =>
 v = V.tup [V.ts cs l c, V.i IntKind.i64 n, V.i IntKind.i64 n_1]) ∧
 If (ltI x0To (↑n1Places : Int))
 (If (x0Lo == (0 : Int))
 (If (x0Hi == (0 : Int)) (K Out.ret 80 [V.b (n_1 == (0 : Int))] h)
 (K Out.ret 80 [V.b false] h))
 (K Out.ret 80 [V.b false] h))
 (K Out.ret 80 [V.b false] h))
 (If (x0Kind == (3 : Int))
 (If (x0To == (0 : Int))
 (If (s0Text == #[].toList)
 (∃ (b : Bool),
 (PCon Tryz.Y (103 : Nat)
 [V.agg
 [V.i IntKind.i64 x0Kind, V.s s0Text, V.i IntKind.i64 x0Lo, V.i IntKind.i64 x0Hi,
 V.i IntKind.i64 x0To]]
 fun (v : V) => v = V.b b) ∧
 K Out.ret 80 [V.b b] h)
 (K Out.ret 80 [V.b false] h))
 (K Out.ret 80 [V.b false] h))
 (K Out.ret 80 [V.b false] h))))
  (If (x0Kind == (1 : Int)) (K Out.ret 80 [V.b false] h)
 (If (x0Kind == (2 : Int))
 (∃ (cs : List V),
 ∃ (l : Nat),
 ∃ (c : Option Nat),
 ∃ (n : Int),
 ∃ (n_1 : Int),
 (PCon Tryz.Y (104 : Nat) [V.s s0Text] fun (v : V) =>
 v = V.tup [V.ts cs l c, V.i IntKind.i64 n, V.i IntKind.i64 n_1]) ∧
 K Out.ret 80 [V.b false] h)
 (If (x0Kind == (3 : Int))
 (If (x0To == (0 : Int))
 (If (s0Text == #[].toList)
 (∃ (b : Bool),
 (PCon Tryz.Y (103 : Nat)
 [V.agg
 [V.i IntKind.i64 x0Kind, V.s s0Text, V.i IntKind.i64 x0Lo, V.i IntKind.i64 x0Hi,
 V.i IntKind.i64 x0To]]
 fun (v : V) => v = V.b b) ∧
 K Out.ret 80 [V.b b] h)
 (K Out.ret 80 [V.b false] h))
 (K Out.ret 80 [V.b false] h))
 (K Out.ret 80 [V.b false] h))))) := by kernel_rfl
theorem f23_0 (x0Cap : Int) (cs0Places : List V) (n0Places : Nat) (h : Heap) (K : Out → Nat → List V → Heap → Prop) : (codeP Tryz.Y (Tryz.Y.loc 23) 100 (pre (flat (bodyOf Tryz.f23))) ⟨(V.agg [V.i IntKind.i64 x0Cap, V.ts cs0Places n0Places none] :: List.replicate 83 .undef), [], h⟩ (VQ [1, 2, 3, 10] K)) =
  (If (ltI x0Cap (1 : Int))
  (K Out.ret 84 [V.lb [V.i IntKind.i64 x0Cap, V.ts cs0Places n0Places none], V.b false, V.undef, V.b true] h)
  (If (ltI (16 : Int) x0Cap)
 (K Out.ret 84 [V.lb [V.i IntKind.i64 x0Cap, V.ts cs0Places n0Places none], V.b false, V.undef, V.b false]
 h)
 (If (ltI (↑n0Places : Int) (1 : Int))
 (K Out.ret 84
 [V.lb [V.i IntKind.i64 x0Cap, V.ts cs0Places n0Places none], V.b false, V.undef, V.b false] h)
 (If (ltI (16 : Int) (↑n0Places : Int))
 (K Out.ret 84
 [V.lb [V.i IntKind.i64 x0Cap, V.ts cs0Places n0Places none], V.b false, V.undef, V.b false] h)
 (K Out.normal 84
 [V.lb [V.i IntKind.i64 x0Cap, V.ts cs0Places n0Places none], V.b false, V.i IntKind.i64 (0 : Int), V.b false]
 h))))) := by kernel_rfl
theorem f23_1 (x0Cap : Int) (cs0Places : List V) (n0Places : Nat) (x3 : Int) (b10z5 : Bool) (h : Heap) (K : Out → Nat → List V → Heap → Prop) : (codeP Tryz.Y (Tryz.Y.loc 23) 100 (pre (flat (loopB (post (flat (bodyOf Tryz.f23)))))) ⟨mk 84 (([1, 3, 10] : List Nat).zip [V.lb [V.i IntKind.i64 x0Cap, V.ts cs0Places n0Places none], V.i IntKind.i64 x3, V.b b10z5]), [], h⟩ (VQ [1, 3, 10] K)) =
  (If (ltI x3 (↑n0Places : Int))
  (K Out.normal 84 [V.lb [V.i IntKind.i64 x0Cap, V.ts cs0Places n0Places none], V.i IntKind.i64 x3, V.b b10z5]
 h)
  (K (Out.exit 0) 84
 [V.lb [V.i IntKind.i64 x0Cap, V.ts cs0Places n0Places none], V.i IntKind.i64 x3, V.b b10z5] h)) := by kernel_rfl
theorem f23_2 (x0Cap : Int) (cs0Places : List V) (n0Places : Nat) (x3 : Int) (b10z5 : Bool) (h : Heap) (K : Out → Nat → List V → Heap → Prop) : (codeP Tryz.Y (Tryz.Y.loc 23) 100 (pre (flat (blockB (post (flat (loopB (post (flat (bodyOf Tryz.f23))))))))) ⟨mk 84 (([1, 3, 10] : List Nat).zip [V.lb [V.i IntKind.i64 x0Cap, V.ts cs0Places n0Places none], V.i IntKind.i64 x3, V.b b10z5]), [], h⟩ (VQ [1, 2, 3, 4, 5, 10] K)) =
  (((0 : Int) ≤ x3 ∧ x3 < (↑n0Places : Int)) ∧
  ∃ (s : List UInt8),
 ∃ (b : Bool),
 ∃ (cs : List V),
 ∃ (l : Nat),
 ∃ (c : Option Nat),
 takeX 3 (List.drop (x3.toNat * (3 : Nat)) cs0Places) = some [V.s s, V.b b, V.ts cs l c] ∧
 ∃ (b_1 : Bool),
 (PCon Tryz.Y (40 : Nat) [V.s s] fun (v : V) => v = V.b b_1) ∧
 If (!b_1)
 (K Out.ret 84
 [V.lb [V.i IntKind.i64 x0Cap, V.ts cs0Places n0Places none], V.b false, V.i IntKind.i64 x3,
 V.lb [V.s s, V.b b, V.ts cs l c], V.undef, V.b b10z5]
 h)
 (∃ (c_1 : UInt8),
 ((0 : Int) ≤ (0 : Int) ∧ s[Int.toNat (0 : Int)]? = some c_1) ∧
 If (ltI (↑c_1.toNat : Int) (97 : Int))
 (K Out.ret 84
 [V.lb [V.i IntKind.i64 x0Cap, V.ts cs0Places n0Places none], V.b false, V.i IntKind.i64 x3,
 V.lb [V.s s, V.b b, V.ts cs l c], V.undef, V.b b10z5]
 h)
 (If (ltI (8 : Int) (↑l : Int))
 (K Out.ret 84
 [V.lb [V.i IntKind.i64 x0Cap, V.ts cs0Places n0Places none], V.b false,
 V.i IntKind.i64 x3, V.lb [V.s s, V.b b, V.ts cs l c], V.undef, V.b b10z5]
 h)
 (K Out.normal 84
 [V.lb [V.i IntKind.i64 x0Cap, V.ts cs0Places n0Places none], V.undef, V.i IntKind.i64 x3,
 V.lb [V.s s, V.b b, V.ts cs l c], V.i IntKind.i64 (0 : Int), V.b b10z5]
 h)))) := by kernel_rfl
theorem f23_3 (x0Cap : Int) (cs0Places : List V) (n0Places : Nat) (x3 : Int) (s4_0z4 : List UInt8) (b4_1z4 : Bool) (c4_2z2 : Option Nat) (cs4_2z2 : List V) (n4_2z2 : Nat) (b10z6 : Bool) (x5 : Int) (h : Heap) (K : Out → Nat → List V → Heap → Prop) : (codeP Tryz.Y (Tryz.Y.loc 23) 100 ((flat (loopB (post (flat (blockB (post (flat (loopB (post (flat (bodyOf Tryz.f23)))))))))))) ⟨mk 84 (([1, 3, 4, 5, 10] : List Nat).zip [V.lb [V.i IntKind.i64 x0Cap, V.ts cs0Places n0Places none], V.i IntKind.i64 x3, V.lb [V.s s4_0z4, V.b b4_1z4, V.ts cs4_2z2 n4_2z2 c4_2z2], V.i IntKind.i64 x5, V.b b10z6]), [], h⟩ (VQ [1, 2, 3, 4, 5, 10] K)) =
  (If (ltI x5 x3)
  (((0 : Int) ≤ x5 ∧ x5 < (↑n0Places : Int)) ∧
 ∃ (s : List UInt8),
 takeX 1 (List.drop (0 : Nat) (List.drop (x5.toNat * (3 : Nat)) cs0Places)) = some [V.s s] ∧
 If (s == s4_0z4)
 (K Out.ret 84
 [V.lb [V.i IntKind.i64 x0Cap, V.ts cs0Places n0Places none], V.b false, V.i IntKind.i64 x3,
 V.lb [V.s s4_0z4, V.b b4_1z4, V.ts cs4_2z2 n4_2z2 c4_2z2], V.i IntKind.i64 x5, V.b b10z6]
 h)
 (K Out.normal 84
 [V.lb [V.i IntKind.i64 x0Cap, V.ts cs0Places n0Places none], V.undef, V.i IntKind.i64 x3,
 V.lb [V.s s4_0z4, V.b b4_1z4, V.ts cs4_2z2 n4_2z2 c4_2z2],
 V.i IntKind.i64 (IntKind.i64.wrap (x5 + (1 : Int))), V.b b10z6]
 h))
  (K (Out.exit 2) 84
 [V.lb [V.i IntKind.i64 x0Cap, V.ts cs0Places n0Places none], V.undef, V.i IntKind.i64 x3,
 V.lb [V.s s4_0z4, V.b b4_1z4, V.ts cs4_2z2 n4_2z2 c4_2z2], V.i IntKind.i64 x5, V.b b10z6]
 h)) := by kernel_rfl
theorem f23_4 (x0Cap : Int) (cs0Places : List V) (n0Places : Nat) (x3 : Int) (c4_2z2 : Option Nat) (cs4_2z2 : List V) (n4_2z2 : Nat) (s4_0z5 : List UInt8) (b4_1z5 : Bool) (b10z7 : Bool) (h : Heap) (K : Out → Nat → List V → Heap → Prop) : (codeP Tryz.Y (Tryz.Y.loc 23) 100 (pre ((post (flat (blockB (post (flat (loopB (post (flat (bodyOf Tryz.f23))))))))).drop 1)) ⟨mk 84 (([1, 3, 4, 10] : List Nat).zip [V.lb [V.i IntKind.i64 x0Cap, V.ts cs0Places n0Places none], V.i IntKind.i64 x3, V.lb [V.s s4_0z5, V.b b4_1z5, V.ts cs4_2z2 n4_2z2 c4_2z2], V.b b10z7]), [], h⟩ (VQ [1, 3, 4, 6, 10] K)) =
  (K Out.normal 84
  [V.lb [V.i IntKind.i64 x0Cap, V.ts cs0Places n0Places none], V.i IntKind.i64 x3,
 V.lb [V.s s4_0z5, V.b b4_1z5, V.ts cs4_2z2 n4_2z2 c4_2z2], V.i IntKind.i64 (0 : Int), V.b b10z7]
  h) := by kernel_rfl
theorem f23_5 (x0Cap : Int) (cs0Places : List V) (n0Places : Nat) (x3 : Int) (c4_2z2 : Option Nat) (cs4_2z2 : List V) (n4_2z2 : Nat) (s4_0z6 : List UInt8) (b4_1z6 : Bool) (b10z8 : Bool) (x6z2 : Int) (h : Heap) (K : Out → Nat → List V → Heap → Prop) : (codeP Tryz.Y (Tryz.Y.loc 23) 100 ((flat (loopB (post ((post (flat (blockB (post (flat (loopB (post (flat (bodyOf Tryz.f23))))))))).drop 1))))) ⟨mk 84 (([1, 3, 4, 6, 10] : List Nat).zip [V.lb [V.i IntKind.i64 x0Cap, V.ts cs0Places n0Places none], V.i IntKind.i64 x3, V.lb [V.s s4_0z6, V.b b4_1z6, V.ts cs4_2z2 n4_2z2 c4_2z2], V.i IntKind.i64 x6z2, V.b b10z8]), [], h⟩ (VQ [1, 2, 3, 4, 6, 10] K)) =
  (If (ltI x6z2 (↑n4_2z2 : Int))
  (((0 : Int) ≤ x6z2 ∧ x6z2 < (↑n4_2z2 : Int)) ∧
 ∃ (n : Int),
 ∃ (s : List UInt8),
 ∃ (n_1 : Int),
 ∃ (n_2 : Int),
 ∃ (n_3 : Int),
 takeX 5 (List.drop (x6z2.toNat * (5 : Nat)) cs4_2z2) =
 some [V.i IntKind.i64 n, V.s s, V.i IntKind.i64 n_1, V.i IntKind.i64 n_2, V.i IntKind.i64 n_3] ∧
 ∃ (b : Bool),
 (PCon Tryz.Y (41 : Nat)
 [V.agg [V.i IntKind.i64 n, V.s s, V.i IntKind.i64 n_1, V.i IntKind.i64 n_2, V.i IntKind.i64 n_3],
 V.agg [V.i IntKind.i64 x0Cap, V.ts cs0Places n0Places none]]
 fun (v : V) => v = V.b b) ∧
 If (!b)
 (K Out.ret 84
 [V.lb [V.i IntKind.i64 x0Cap, V.ts cs0Places n0Places none], V.b false, V.i IntKind.i64 x3,
 V.lb [V.s s4_0z6, V.b b4_1z6, V.ts cs4_2z2 n4_2z2 c4_2z2], V.i IntKind.i64 x6z2, V.b b10z8]
 h)
 (K Out.normal 84
 [V.lb [V.i IntKind.i64 x0Cap, V.ts cs0Places n0Places none], V.undef, V.i IntKind.i64 x3,
 V.lb [V.s s4_0z6, V.b b4_1z6, V.ts cs4_2z2 n4_2z2 c4_2z2],
 V.i IntKind.i64 (IntKind.i64.wrap (x6z2 + (1 : Int))), V.b b10z8]
 h))
  (K (Out.exit 4) 84
 [V.lb [V.i IntKind.i64 x0Cap, V.ts cs0Places n0Places none], V.undef, V.i IntKind.i64 x3,
 V.lb [V.s s4_0z6, V.b b4_1z6, V.ts cs4_2z2 n4_2z2 c4_2z2], V.i IntKind.i64 x6z2, V.b b10z8]
 h)) := by kernel_rfl
theorem f23_6 (x0Cap : Int) (cs0Places : List V) (n0Places : Nat) (x3 : Int) (b10z9 : Bool) (h : Heap) (K : Out → Nat → List V → Heap → Prop) : (codeP Tryz.Y (Tryz.Y.loc 23) 100 (((post (flat (loopB (post (flat (bodyOf Tryz.f23)))))).drop 1)) ⟨mk 84 (([1, 3, 10] : List Nat).zip [V.lb [V.i IntKind.i64 x0Cap, V.ts cs0Places n0Places none], V.i IntKind.i64 x3, V.b b10z9]), [], h⟩ (VQ [1, 3, 10] K)) =
  (K Out.normal 84
  [V.lb [V.i IntKind.i64 x0Cap, V.ts cs0Places n0Places none], V.i IntKind.i64 (IntKind.i64.wrap (x3 + (1 : Int))),
 V.b b10z9]
  h) := by kernel_rfl
theorem f23_7  (h : Heap) (K : Out → Nat → List V → Heap → Prop) : (codeP Tryz.Y (Tryz.Y.loc 23) 100 (((post (flat (bodyOf Tryz.f23))).drop 1)) ⟨mk 84 (([] : List Nat).zip []), [], h⟩ (VQ [2] K)) =
  (K Out.ret 84 [V.b true] h) := by kernel_rfl
end Go.Y
