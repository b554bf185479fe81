/- What the pieces of functions come to: printed by program. -/
import Derived.Test.YtdoanndgjipbmaaYTryP
import Derived.Test.YtdoanndgjipbmaaYFun
namespace Go.Y
open Go.Proofs
set_option maxRecDepth 100000
set_option maxHeartbeats 0
theorem f3_0 (cs0Next : List V) (n0Next : Nat) (x1 : Int) (h : Heap) (K : Out → Nat → List V → Heap → Prop) : (codeP Try.Y (Try.Y.loc 3) 100 (pre (flat (bodyOf Try.f3))) ⟨(V.agg [V.ts cs0Next n0Next none] :: V.i IntKind.i64 x1 :: List.replicate 57 .undef), [], h⟩ (VQ [1, 2, 4, 5, 12, 14, 15, 16, 19] K)) =
  (∃ (b : Bool),
  (PCon Try.Y (6 : Nat) [] fun (v : V) => v = V.b b) ∧
 If (!b)
 (K Out.ret 59
 [V.i IntKind.i64 x1, V.lb [V.ts cs0Next n0Next none], V.b false, V.undef, V.undef, V.undef, V.undef, V.undef,
 V.undef]
 h)
 (If (ltI (30 : Int) (↑n0Next : Int))
 (K Out.ret 59
 [V.i IntKind.i64 x1, V.lb [V.ts cs0Next n0Next none], V.b true, V.undef, V.b true, V.undef, V.undef, V.undef,
 V.undef]
 h)
 (K Out.normal 59
 [V.i IntKind.i64 x1, V.lb [V.ts cs0Next n0Next none], V.b false, V.undef, V.b false, V.ts cs0Next n0Next none,
 V.i IntKind.i64 (↑n0Next : Int), V.i IntKind.i64 (0 : Int), V.undef]
 h))) := by kernel_rfl
theorem f3_1 (cs0Next : List V) (n0Next : Nat) (x1 : Int) (b12 : Bool) (x16 : Int) (v19 : V) (h : Heap) (K : Out → Nat → List V → Heap → Prop) : (codeP Try.Y (Try.Y.loc 3) 100 ((flat (loopB (post (flat (bodyOf Try.f3)))))) ⟨mk 59 (([1, 2, 5, 12, 14, 15, 16, 19] : List Nat).zip [V.i IntKind.i64 x1, V.lb [V.ts cs0Next n0Next none], V.undef, V.b b12, V.ts cs0Next n0Next none, V.i IntKind.i64 (↑n0Next : Int), V.i IntKind.i64 x16, v19]), [], h⟩ (VQ [1, 2, 4, 5, 12, 14, 15, 16, 19] K)) =
  (If (ltI x16 (↑n0Next : Int))
  (((0 : Int) ≤ x16 ∧ x16 < (↑n0Next : Int)) ∧
 ∃ (cs : List V),
 ∃ (l : Nat),
 ∃ (c : Option Nat),
 takeX 1 (List.drop (x16.toNat * (1 : Nat)) cs0Next) = some [V.ts cs l c] ∧
 If (ltI (12 : Int) (↑l : Int))
 (K Out.ret 59
 [V.i IntKind.i64 x1, V.lb [V.ts cs0Next n0Next none], V.b true, V.undef, V.b b12,
 V.ts cs0Next n0Next none, V.i IntKind.i64 (↑n0Next : Int), V.i IntKind.i64 x16, V.ts cs l c]
 h)
 (K Out.normal 59
 [V.i IntKind.i64 x1, V.lb [V.ts cs0Next n0Next none], V.undef, V.undef, V.b b12,
 V.ts cs0Next n0Next none, V.i IntKind.i64 (↑n0Next : Int),
 V.i IntKind.i64 (IntKind.i64.wrap (x16 + (1 : Int))), V.ts cs l c]
 h))
  (K (Out.exit 0) 59
 [V.i IntKind.i64 x1, V.lb [V.ts cs0Next n0Next none], V.undef, V.undef, V.b b12, V.ts cs0Next n0Next none,
 V.i IntKind.i64 (↑n0Next : Int), V.i IntKind.i64 x16, v19]
 h)) := by kernel_rfl
theorem f3_2 (cs0Next : List V) (n0Next : Nat) (x1 : Int) (v19 : V) (b12z2 : Bool) (h : Heap) (K : Out → Nat → List V → Heap → Prop) : (codeP Try.Y (Try.Y.loc 3) 100 (((post (flat (bodyOf Try.f3))).drop 1)) ⟨mk 59 (([1, 2, 5, 12, 19] : List Nat).zip [V.i IntKind.i64 x1, V.lb [V.ts cs0Next n0Next none], V.undef, V.b b12z2, v19]), [], h⟩ (VQ [4] K)) =
  (∃ (b : Bool),
  (PCon Try.Y (7 : Nat) [V.agg [V.ts cs0Next n0Next none]] fun (v : V) => v = V.b b) ∧
 ∃ (b_1 : Bool),
 (PCon Try.Y (8 : Nat) [V.agg [V.ts cs0Next n0Next none]] fun (v : V) => v = V.b b_1) ∧
 If (b == b_1)
 (∃ (cs : List V),
 ∃ (l : Nat),
 ∃ (c : Option Nat),
 (PCon Try.Y (10 : Nat) [V.agg [V.ts cs0Next n0Next none]] fun (v : V) => v = V.ts cs l c) ∧
 ∃ (cs_1 : List V),
 ∃ (l_1 : Nat),
 ∃ (c_1 : Option Nat),
 (PCon Try.Y (11 : Nat) [V.agg [V.ts cs0Next n0Next none]] fun (v : V) =>
 v = V.ts cs_1 l_1 c_1) ∧
 ∃ (b : Bool),
 (PCon Try.Y (9 : Nat) [V.ts cs l c, V.ts cs_1 l_1 c_1] fun (v : V) => v = V.b b) ∧
 If b
 (∃ (cs : List V),
 ∃ (l : Nat),
 ∃ (c : Option Nat),
 (PCon Try.Y (13 : Nat) [V.agg [V.ts cs0Next n0Next none]] fun (v : V) =>
 v = V.ts cs l c) ∧
 ∃ (cs_2 : List V),
 ∃ (l_2 : Nat),
 ∃ (c_2 : Option Nat),
 (PCon Try.Y (14 : Nat) [V.agg [V.ts cs0Next n0Next none]] fun (v : V) =>
 v = V.ts cs_2 l_2 c_2) ∧
 ∃ (b : Bool),
 (PCon Try.Y (12 : Nat) [V.ts cs l c, V.ts cs_2 l_2 c_2] fun (v : V) =>
 v = V.b b) ∧
 If b
 (∃ (cs : List V),
 ∃ (l : Nat),
 ∃ (c : Option Nat),
 (PCon Try.Y (15 : Nat) [V.agg [V.ts cs0Next n0Next none]]
 fun (v : V) => v = V.ts cs l c) ∧
 ∃ (cs_3 : List V),
 ∃ (l_3 : Nat),
 ∃ (c_3 : Option Nat),
 (PCon Try.Y (16 : Nat)
 [V.agg [V.ts cs0Next n0Next none]]
 fun (v : V) => v = V.ts cs_3 l_3 c_3) ∧
 ∃ (b : Bool),
 (PCon Try.Y (9 : Nat)
 [V.ts cs l c, V.ts cs_3 l_3 c_3]
 fun (v : V) => v = V.b b) ∧
 If b
 (∃ (cs : List V),
 ∃ (l : Nat),
 ∃ (c : Option Nat),
 (PCon Try.Y (17 : Nat)
 [V.agg [V.ts cs0Next n0Next none],
 V.i IntKind.i64 x1]
 fun (v : V) => v = V.ts cs l c) ∧
 ∃ (cs_4 : List V),
 ∃ (l_4 : Nat),
 ∃ (c_4 : Option Nat),
 (PCon Try.Y (18 : Nat)
 [V.agg
 [V.ts cs0Next n0Next
 none],
 V.i IntKind.i64 x1]
 fun (v : V) =>
 v = V.ts cs_4 l_4 c_4) ∧
 ∃ (b : Bool),
 (PCon Try.Y (9 : Nat)
 [V.ts cs l c,
 V.ts cs_4 l_4 c_4]
 fun (v : V) =>
 v = V.b b) ∧
 K Out.ret 59
 [V.b b] h)
 (K Out.ret 59 [V.b false] h))
 (K Out.ret 59 [V.b false] h))
 (K Out.ret 59 [V.b false] h))
 (K Out.ret 59 [V.b false] h)) := by kernel_rfl
theorem f4_0 (cs0Next : List V) (n0Next : Nat) (x1 : Int) (x2 : Int) (h : Heap) (K : Out → Nat → List V → Heap → Prop) : (codeP Try.Y (Try.Y.loc 4) 100 (pre (flat (bodyOf Try.f4))) ⟨(V.agg [V.ts cs0Next n0Next none] :: V.i IntKind.u8 x1 :: V.i IntKind.u8 x2 :: List.replicate 96 .undef), [], h⟩ (VQ [1, 3, 6, 7, 8, 9, 10, 17, 47, 48, 49] K)) =
  (∃ (b : Bool),
  (PCon Try.Y (6 : Nat) [] fun (v : V) => v = V.b b) ∧
 If (!b)
 (K Out.ret 99
 [V.i IntKind.u8 x1, V.lb [V.ts cs0Next n0Next none], V.b false, V.undef, V.undef, V.undef, V.undef, V.b true,
 V.undef, V.undef, V.undef]
 h)
 (If (ltI (60 : Int) (↑n0Next : Int))
 (K Out.ret 99
 [V.i IntKind.u8 x1, V.lb [V.ts cs0Next n0Next none], V.b true, V.undef, V.undef, V.undef, V.undef, V.b false,
 V.undef, V.undef, V.undef]
 h)
 (If ((↑n0Next : Int) == (0 : Int))
 (K Out.ret 99
 [V.i IntKind.u8 x1, V.lb [V.ts cs0Next n0Next none], V.b true, V.undef, V.undef, V.undef, V.undef,
 V.b false, V.undef, V.undef, V.undef]
 h)
 (∃ (b : Bool),
 (PCon Try.Y (8 : Nat) [V.agg [V.ts cs0Next n0Next none]] fun (v : V) => v = V.b b) ∧
 If (!b)
 (K Out.ret 99
 [V.i IntKind.u8 x1, V.lb [V.ts cs0Next n0Next none], V.b true, V.undef, V.undef, V.undef, V.undef,
 V.b false, V.undef, V.undef, V.undef]
 h)
 (((↑n0Next : Int) = (0 : Int) → False) ∧
 ((↑n0Next : Int) = (0 : Int) → False) ∧
 ∃ (cs : List V),
 ∃ (l : Nat),
 ∃ (c : Option Nat),
 (PCon Try.Y (17 : Nat)
 [V.agg [V.ts cs0Next n0Next none],
 V.i IntKind.i64 ((IntKind.i64.wrap x1).tmod (↑n0Next : Int))]
 fun (v : V) => v = V.ts cs l c) ∧
 K Out.normal 99
 [V.i IntKind.u8 x1, V.lb [V.ts cs0Next n0Next none], V.b false,
 V.i IntKind.i64 ((IntKind.i64.wrap x1).tmod (↑n0Next : Int)),
 V.i IntKind.i64 ((IntKind.i64.wrap x2).tmod (↑n0Next : Int)), V.b false, V.b false,
 V.b false, V.ts cs l c, V.i IntKind.i64 (↑l : Int), V.i IntKind.i64 (0 : Int)]
 h))))) := by kernel_rfl
theorem f4_1 (cs0Next : List V) (n0Next : Nat) (x1 : Int) (x2 : Int) (b6 : Bool) (b9 : Bool) (b10 : Bool) (b17 : Bool) (c47 : Option Nat) (cs47 : List V) (n47 : Nat) (x48 : Int) (x49z2 : Int) (h : Heap) (K : Out → Nat → List V → Heap → Prop) : (codeP Try.Y (Try.Y.loc 4) 100 ((flat (loopB (post (flat (bodyOf Try.f4)))))) ⟨mk 99 (([1, 3, 6, 7, 8, 9, 10, 17, 47, 48, 49] : List Nat).zip [V.i IntKind.u8 x1, V.lb [V.ts cs0Next n0Next none], V.b b6, V.i IntKind.i64 ((IntKind.i64.wrap x1).tmod (↑n0Next : Int)), V.i IntKind.i64 ((IntKind.i64.wrap x2).tmod (↑n0Next : Int)), V.b b9, V.b b10, V.b b17, V.ts cs47 n47 c47, V.i IntKind.i64 x48, V.i IntKind.i64 x49z2]), [], h⟩ (VQ [1, 3, 6, 7, 8, 9, 10, 17, 47, 48, 49] K)) =
  (If (ltI x49z2 x48)
  (((0 : Int) ≤ x49z2 ∧ x49z2 < (↑n47 : Int)) ∧
 ∃ (n : Int),
 takeX 1 (List.drop (x49z2.toNat * (1 : Nat)) cs47) = some [V.i IntKind.i64 n] ∧
 If b9
 (K Out.normal 99
 [V.i IntKind.u8 x1, V.lb [V.ts cs0Next n0Next none], V.b b6,
 V.i IntKind.i64 ((IntKind.i64.wrap x1).tmod (↑n0Next : Int)),
 V.i IntKind.i64 ((IntKind.i64.wrap x2).tmod (↑n0Next : Int)), V.b true, V.b b10, V.b b17,
 V.ts cs47 n47 c47, V.i IntKind.i64 x48, V.i IntKind.i64 (IntKind.i64.wrap (x49z2 + (1 : Int)))]
 h)
 (K Out.normal 99
 [V.i IntKind.u8 x1, V.lb [V.ts cs0Next n0Next none], V.b b6,
 V.i IntKind.i64 ((IntKind.i64.wrap x1).tmod (↑n0Next : Int)),
 V.i IntKind.i64 ((IntKind.i64.wrap x2).tmod (↑n0Next : Int)),
 V.b (n == (IntKind.i64.wrap x2).tmod (↑n0Next : Int)), V.b b10, V.b b17, V.ts cs47 n47 c47,
 V.i IntKind.i64 x48, V.i IntKind.i64 (IntKind.i64.wrap (x49z2 + (1 : Int)))]
 h))
  (K (Out.exit 0) 99
 [V.i IntKind.u8 x1, V.lb [V.ts cs0Next n0Next none], V.b b6,
 V.i IntKind.i64 ((IntKind.i64.wrap x1).tmod (↑n0Next : Int)),
 V.i IntKind.i64 ((IntKind.i64.wrap x2).tmod (↑n0Next : Int)), V.b b9, V.b b10, V.b b17, V.ts cs47 n47 c47,
 V.i IntKind.i64 x48, V.i IntKind.i64 x49z2]
 h)) := by kernel_rfl
theorem f4_2 (cs0Next : List V) (n0Next : Nat) (x1 : Int) (x2 : Int) (b6z2 : Bool) (b9z2 : Bool) (b10z2 : Bool) (b17z2 : Bool) (h : Heap) (K : Out → Nat → List V → Heap → Prop) : (codeP Try.Y (Try.Y.loc 4) 100 (pre ((post (flat (bodyOf Try.f4))).drop 1)) ⟨mk 99 (([1, 3, 6, 7, 8, 9, 10, 17] : List Nat).zip [V.i IntKind.u8 x1, V.lb [V.ts cs0Next n0Next none], V.b b6z2, V.i IntKind.i64 ((IntKind.i64.wrap x1).tmod (↑n0Next : Int)), V.i IntKind.i64 ((IntKind.i64.wrap x2).tmod (↑n0Next : Int)), V.b b9z2, V.b b10z2, V.b b17z2]), [], h⟩ (VQ [1, 3, 6, 7, 8, 9, 10, 17, 62, 63, 64] K)) =
  (∃ (cs : List V),
  ∃ (l : Nat),
 ∃ (c : Option Nat),
 (PCon Try.Y (17 : Nat)
 [V.agg [V.ts cs0Next n0Next none], V.i IntKind.i64 ((IntKind.i64.wrap x2).tmod (↑n0Next : Int))]
 fun (v : V) => v = V.ts cs l c) ∧
 K Out.normal 99
 [V.i IntKind.u8 x1, V.lb [V.ts cs0Next n0Next none], V.b b6z2,
 V.i IntKind.i64 ((IntKind.i64.wrap x1).tmod (↑n0Next : Int)),
 V.i IntKind.i64 ((IntKind.i64.wrap x2).tmod (↑n0Next : Int)), V.b b9z2, V.b b10z2, V.b b17z2, V.ts cs l c,
 V.i IntKind.i64 (↑l : Int), V.i IntKind.i64 (0 : Int)]
 h) := by kernel_rfl
theorem f4_3 (cs0Next : List V) (n0Next : Nat) (x1 : Int) (x2 : Int) (b6z3 : Bool) (b9z3 : Bool) (b10z3 : Bool) (b17z3 : Bool) (c62 : Option Nat) (cs62 : List V) (n62 : Nat) (x63 : Int) (x64z2 : Int) (h : Heap) (K : Out → Nat → List V → Heap → Prop) : (codeP Try.Y (Try.Y.loc 4) 100 ((flat (loopB (post ((post (flat (bodyOf Try.f4))).drop 1))))) ⟨mk 99 (([1, 3, 6, 7, 8, 9, 10, 17, 62, 63, 64] : List Nat).zip [V.i IntKind.u8 x1, V.lb [V.ts cs0Next n0Next none], V.b b6z3, V.i IntKind.i64 ((IntKind.i64.wrap x1).tmod (↑n0Next : Int)), V.i IntKind.i64 ((IntKind.i64.wrap x2).tmod (↑n0Next : Int)), V.b b9z3, V.b b10z3, V.b b17z3, V.ts cs62 n62 c62, V.i IntKind.i64 x63, V.i IntKind.i64 x64z2]), [], h⟩ (VQ [1, 3, 6, 7, 8, 9, 10, 17, 62, 63, 64] K)) =
  (If (ltI x64z2 x63)
  (((0 : Int) ≤ x64z2 ∧ x64z2 < (↑n62 : Int)) ∧
 ∃ (n : Int),
 takeX 1 (List.drop (x64z2.toNat * (1 : Nat)) cs62) = some [V.i IntKind.i64 n] ∧
 If b10z3
 (K Out.normal 99
 [V.i IntKind.u8 x1, V.lb [V.ts cs0Next n0Next none], V.b b6z3,
 V.i IntKind.i64 ((IntKind.i64.wrap x1).tmod (↑n0Next : Int)),
 V.i IntKind.i64 ((IntKind.i64.wrap x2).tmod (↑n0Next : Int)), V.b b9z3, V.b true, V.b b17z3,
 V.ts cs62 n62 c62, V.i IntKind.i64 x63, V.i IntKind.i64 (IntKind.i64.wrap (x64z2 + (1 : Int)))]
 h)
 (K Out.normal 99
 [V.i IntKind.u8 x1, V.lb [V.ts cs0Next n0Next none], V.b b6z3,
 V.i IntKind.i64 ((IntKind.i64.wrap x1).tmod (↑n0Next : Int)),
 V.i IntKind.i64 ((IntKind.i64.wrap x2).tmod (↑n0Next : Int)), V.b b9z3,
 V.b (n == (IntKind.i64.wrap x1).tmod (↑n0Next : Int)), V.b b17z3, V.ts cs62 n62 c62, V.i IntKind.i64 x63,
 V.i IntKind.i64 (IntKind.i64.wrap (x64z2 + (1 : Int)))]
 h))
  (K (Out.exit 2) 99
 [V.i IntKind.u8 x1, V.lb [V.ts cs0Next n0Next none], V.b b6z3,
 V.i IntKind.i64 ((IntKind.i64.wrap x1).tmod (↑n0Next : Int)),
 V.i IntKind.i64 ((IntKind.i64.wrap x2).tmod (↑n0Next : Int)), V.b b9z3, V.b b10z3, V.b b17z3, V.ts cs62 n62 c62,
 V.i IntKind.i64 x63, V.i IntKind.i64 x64z2]
 h)) := by kernel_rfl
theorem f4_4 (cs0Next : List V) (n0Next : Nat) (x1 : Int) (x2 : Int) (b6z4 : Bool) (b9z4 : Bool) (b10z4 : Bool) (b17z4 : Bool) (h : Heap) (K : Out → Nat → List V → Heap → Prop) : (codeP Try.Y (Try.Y.loc 4) 100 (((post ((post (flat (bodyOf Try.f4))).drop 1)).drop 1)) ⟨mk 99 (([3, 6, 7, 8, 9, 10, 17] : List Nat).zip [V.lb [V.ts cs0Next n0Next none], V.b b6z4, V.i IntKind.i64 ((IntKind.i64.wrap x1).tmod (↑n0Next : Int)), V.i IntKind.i64 ((IntKind.i64.wrap x2).tmod (↑n0Next : Int)), V.b b9z4, V.b b10z4, V.b b17z4]), [], h⟩ (VQ [6] K)) =
  (∃ (cs : List V),
  ∃ (l : Nat),
 ∃ (c : Option Nat),
 (PCon Try.Y (10 : Nat) [V.agg [V.ts cs0Next n0Next none]] fun (v : V) => v = V.ts cs l c) ∧
 If ((↑l : Int) == (↑n0Next : Int))
 (((0 : Int) ≤ (IntKind.i64.wrap x1).tmod (↑n0Next : Int) ∧
 (IntKind.i64.wrap x1).tmod (↑n0Next : Int) < (↑l : Int)) ∧
 ∃ (n : Int),
 takeX 1 (List.drop (((IntKind.i64.wrap x1).tmod (↑n0Next : Int)).toNat * (1 : Nat)) cs) =
 some [V.i IntKind.i64 n] ∧
 ((0 : Int) ≤ (IntKind.i64.wrap x2).tmod (↑n0Next : Int) ∧
 (IntKind.i64.wrap x2).tmod (↑n0Next : Int) < (↑l : Int)) ∧
 ∃ (n_1 : Int),
 takeX 1 (List.drop (((IntKind.i64.wrap x2).tmod (↑n0Next : Int)).toNat * (1 : Nat)) cs) =
 some [V.i IntKind.i64 n_1] ∧
 If b9z4 (K Out.ret 99 [V.b ((n == n_1) == b10z4)] h)
 (K Out.ret 99 [V.b ((n == n_1) == false)] h))
 (K Out.ret 99 [V.b false] h)) := by kernel_rfl
theorem f5_0 (cs0Next : List V) (n0Next : Nat) (h : Heap) (K : Out → Nat → List V → Heap → Prop) : (codeP Try.Y (Try.Y.loc 5) 100 (pre (flat (bodyOf Try.f5))) ⟨(V.agg [V.ts cs0Next n0Next none] :: List.replicate 84 .undef), [], h⟩ (VQ [1, 2, 3, 4, 30, 31, 32] K)) =
  (∃ (b : Bool),
  (PCon Try.Y (6 : Nat) [] fun (v : V) => v = V.b b) ∧
 If (!b)
 (K Out.ret 85 [V.lb [V.ts cs0Next n0Next none], V.b false, V.undef, V.undef, V.undef, V.undef, V.undef]
 h)
 (If (ltI (40 : Int) (↑n0Next : Int))
 (K Out.ret 85 [V.lb [V.ts cs0Next n0Next none], V.b true, V.undef, V.undef, V.undef, V.undef, V.undef]
 h)
 (∃ (b : Bool),
 (PCon Try.Y (8 : Nat) [V.agg [V.ts cs0Next n0Next none]] fun (v : V) => v = V.b b) ∧
 If (!b)
 (K Out.ret 85
 [V.lb [V.ts cs0Next n0Next none], V.b true, V.undef, V.undef, V.undef, V.undef, V.undef] h)
 (∃ (cs : List V),
 ∃ (l : Nat),
 ∃ (c : Option Nat),
 (PCon Try.Y (15 : Nat) [V.agg [V.ts cs0Next n0Next none]] fun (v : V) => v = V.ts cs l c) ∧
 ∃ (cs_1 : List V),
 ∃ (l_1 : Nat),
 ∃ (c_1 : Option Nat),
 (PCon Try.Y (13 : Nat) [V.agg [V.ts cs0Next n0Next none]] fun (v : V) =>
 v = V.ts cs_1 l_1 c_1) ∧
 K Out.normal 85
 [V.lb [V.ts cs0Next n0Next none], V.b false, V.ts cs l c, V.ts cs_1 l_1 c_1,
 V.ts cs_1 l_1 c_1, V.i IntKind.i64 (↑l_1 : Int), V.i IntKind.i64 (0 : Int)]
 h)))) := by kernel_rfl
theorem f5_1 (cs0Next : List V) (n0Next : Nat) (c3 : Option Nat) (cs3 : List V) (n3 : Nat) (c4 : Option Nat) (cs4 : List V) (n4 : Nat) (c30 : Option Nat) (cs30 : List V) (n30 : Nat) (x31 : Int) (x32 : Int) (h : Heap) (K : Out → Nat → List V → Heap → Prop) : (codeP Try.Y (Try.Y.loc 5) 100 (pre (flat (loopB (post (flat (bodyOf Try.f5)))))) ⟨mk 85 (([1, 3, 4, 30, 31, 32] : List Nat).zip [V.lb [V.ts cs0Next n0Next none], V.ts cs3 n3 c3, V.ts cs4 n4 c4, V.ts cs30 n30 c30, V.i IntKind.i64 x31, V.i IntKind.i64 x32]), [], h⟩ (VQ [1, 3, 4, 30, 31, 32] K)) =
  (If (ltI x32 x31)
  (K Out.normal 85
 [V.lb [V.ts cs0Next n0Next none], V.ts cs3 n3 c3, V.ts cs4 n4 c4, V.ts cs30 n30 c30, V.i IntKind.i64 x31,
 V.i IntKind.i64 x32]
 h)
  (K (Out.exit 0) 85
 [V.lb [V.ts cs0Next n0Next none], V.ts cs3 n3 c3, V.ts cs4 n4 c4, V.ts cs30 n30 c30, V.i IntKind.i64 x31,
 V.i IntKind.i64 x32]
 h)) := by kernel_rfl
theorem f5_2 (cs0Next : List V) (n0Next : Nat) (c3 : Option Nat) (cs3 : List V) (n3 : Nat) (c4 : Option Nat) (cs4 : List V) (n4 : Nat) (c30 : Option Nat) (cs30 : List V) (n30 : Nat) (x31 : Int) (x32 : Int) (h : Heap) (K : Out → Nat → List V → Heap → Prop) : (codeP Try.Y (Try.Y.loc 5) 100 (pre (flat (blockB (post (flat (loopB (post (flat (bodyOf Try.f5))))))))) ⟨mk 85 (([1, 3, 4, 30, 31, 32] : List Nat).zip [V.lb [V.ts cs0Next n0Next none], V.ts cs3 n3 c3, V.ts cs4 n4 c4, V.ts cs30 n30 c30, V.i IntKind.i64 x31, V.i IntKind.i64 x32]), [], h⟩ (VQ [1, 3, 4, 30, 31, 32, 36, 37, 38] K)) =
  (((0 : Int) ≤ x32 ∧ x32 < (↑n30 : Int)) ∧
  ∃ (cs : List V),
 ∃ (l : Nat),
 ∃ (c : Option Nat),
 takeX 1 (List.drop (x32.toNat * (1 : Nat)) cs30) = some [V.ts cs l c] ∧
 K Out.normal 85
 [V.lb [V.ts cs0Next n0Next none], V.ts cs3 n3 c3, V.ts cs4 n4 c4, V.ts cs30 n30 c30, V.i IntKind.i64 x31,
 V.i IntKind.i64 x32, V.ts cs l c, V.i IntKind.i64 (↑l : Int), V.i IntKind.i64 (0 : Int)]
 h) := by kernel_rfl
theorem f5_3 (cs0Next : List V) (n0Next : Nat) (c3 : Option Nat) (cs3 : List V) (n3 : Nat) (c4 : Option Nat) (cs4 : List V) (n4 : Nat) (c30 : Option Nat) (cs30 : List V) (n30 : Nat) (x31 : Int) (x32 : Int) (c36z2 : Option Nat) (cs36z2 : List V) (n36z2 : Nat) (x37z2 : Int) (x38z2 : Int) (h : Heap) (K : Out → Nat → List V → Heap → Prop) : (codeP Try.Y (Try.Y.loc 5) 100 ((flat (loopB (post (flat (blockB (post (flat (loopB (post (flat (bodyOf Try.f5)))))))))))) ⟨mk 85 (([1, 3, 4, 30, 31, 32, 36, 37, 38] : List Nat).zip [V.lb [V.ts cs0Next n0Next none], V.ts cs3 n3 c3, V.ts cs4 n4 c4, V.ts cs30 n30 c30, V.i IntKind.i64 x31, V.i IntKind.i64 x32, V.ts cs36z2 n36z2 c36z2, V.i IntKind.i64 x37z2, V.i IntKind.i64 x38z2]), [], h⟩ (VQ [1, 2, 3, 4, 30, 31, 32, 36, 37, 38] K)) =
  (If (ltI x38z2 x37z2)
  (((0 : Int) ≤ x38z2 ∧ x38z2 < (↑n36z2 : Int)) ∧
 ∃ (n : Int),
 takeX 1 (List.drop (x38z2.toNat * (1 : Nat)) cs36z2) = some [V.i IntKind.i64 n] ∧
 ((0 : Int) ≤ n ∧ n < (↑n0Next : Int)) ∧
 ∃ (cs : List V),
 ∃ (l : Nat),
 ∃ (c : Option Nat),
 takeX 1 (List.drop (n.toNat * (1 : Nat)) cs0Next) = some [V.ts cs l c] ∧
 If ((↑l : Int) == (0 : Int))
 (K Out.ret 85
 [V.lb [V.ts cs0Next n0Next none], V.b false, V.ts cs3 n3 c3, V.ts cs4 n4 c4, V.ts cs30 n30 c30,
 V.i IntKind.i64 x31, V.i IntKind.i64 x32, V.ts cs36z2 n36z2 c36z2, V.i IntKind.i64 x37z2,
 V.i IntKind.i64 x38z2]
 h)
 (K Out.normal 85
 [V.lb [V.ts cs0Next n0Next none], V.undef, V.ts cs3 n3 c3, V.ts cs4 n4 c4, V.ts cs30 n30 c30,
 V.i IntKind.i64 x31, V.i IntKind.i64 x32, V.ts cs36z2 n36z2 c36z2, V.i IntKind.i64 x37z2,
 V.i IntKind.i64 (IntKind.i64.wrap (x38z2 + (1 : Int)))]
 h))
  (K (Out.exit 2) 85
 [V.lb [V.ts cs0Next n0Next none], V.undef, V.ts cs3 n3 c3, V.ts cs4 n4 c4, V.ts cs30 n30 c30, V.i IntKind.i64 x31,
 V.i IntKind.i64 x32, V.ts cs36z2 n36z2 c36z2, V.i IntKind.i64 x37z2, V.i IntKind.i64 x38z2]
 h)) := by kernel_rfl
theorem f5_4 (cs0Next : List V) (n0Next : Nat) (c3 : Option Nat) (cs3 : List V) (n3 : Nat) (c4 : Option Nat) (cs4 : List V) (n4 : Nat) (c30 : Option Nat) (cs30 : List V) (n30 : Nat) (x31 : Int) (x32 : Int) (h : Heap) (K : Out → Nat → List V → Heap → Prop) : (codeP Try.Y (Try.Y.loc 5) 100 (((post (flat (loopB (post (flat (bodyOf Try.f5)))))).drop 1)) ⟨mk 85 (([1, 3, 4, 30, 31, 32] : List Nat).zip [V.lb [V.ts cs0Next n0Next none], V.ts cs3 n3 c3, V.ts cs4 n4 c4, V.ts cs30 n30 c30, V.i IntKind.i64 x31, V.i IntKind.i64 x32]), [], h⟩ (VQ [1, 3, 4, 30, 31, 32] K)) =
  (K Out.normal 85
  [V.lb [V.ts cs0Next n0Next none], V.ts cs3 n3 c3, V.ts cs4 n4 c4, V.ts cs30 n30 c30, V.i IntKind.i64 x31,
 V.i IntKind.i64 (IntKind.i64.wrap (x32 + (1 : Int)))]
  h) := by kernel_rfl
theorem f5_5 (cs0Next : List V) (n0Next : Nat) (c3 : Option Nat) (cs3 : List V) (n3 : Nat) (c4 : Option Nat) (cs4 : List V) (n4 : Nat) (h : Heap) (K : Out → Nat → List V → Heap → Prop) : (codeP Try.Y (Try.Y.loc 5) 100 (pre ((post (flat (bodyOf Try.f5))).drop 1)) ⟨mk 85 (([1, 3, 4] : List Nat).zip [V.lb [V.ts cs0Next n0Next none], V.ts cs3 n3 c3, V.ts cs4 n4 c4]), [], h⟩ (VQ [1, 3, 4, 53, 54] K)) =
  (K Out.normal 85
  [V.lb [V.ts cs0Next n0Next none], V.ts cs3 n3 c3, V.ts cs4 n4 c4, V.i IntKind.i64 (↑n0Next : Int),
 V.i IntKind.i64 (0 : Int)]
  h) := by kernel_rfl
theorem f5_6 (cs0Next : List V) (n0Next : Nat) (c3 : Option Nat) (cs3 : List V) (n3 : Nat) (c4 : Option Nat) (cs4 : List V) (n4 : Nat) (x54 : Int) (h : Heap) (K : Out → Nat → List V → Heap → Prop) : (codeP Try.Y (Try.Y.loc 5) 100 (pre (flat (loopB (post ((post (flat (bodyOf Try.f5))).drop 1))))) ⟨mk 85 (([1, 3, 4, 53, 54] : List Nat).zip [V.lb [V.ts cs0Next n0Next none], V.ts cs3 n3 c3, V.ts cs4 n4 c4, V.i IntKind.i64 (↑n0Next : Int), V.i IntKind.i64 x54]), [], h⟩ (VQ [1, 3, 4, 53, 54] K)) =
  (If (ltI x54 (↑n0Next : Int))
  (K Out.normal 85
 [V.lb [V.ts cs0Next n0Next none], V.ts cs3 n3 c3, V.ts cs4 n4 c4, V.i IntKind.i64 (↑n0Next : Int),
 V.i IntKind.i64 x54]
 h)
  (K (Out.exit 4) 85
 [V.lb [V.ts cs0Next n0Next none], V.ts cs3 n3 c3, V.ts cs4 n4 c4, V.i IntKind.i64 (↑n0Next : Int),
 V.i IntKind.i64 x54]
 h)) := by kernel_rfl
theorem f5_7 (cs0Next : List V) (n0Next : Nat) (c3 : Option Nat) (cs3 : List V) (n3 : Nat) (c4 : Option Nat) (cs4 : List V) (n4 : Nat) (x54 : Int) (h : Heap) (K : Out → Nat → List V → Heap → Prop) : (codeP Try.Y (Try.Y.loc 5) 100 (pre (flat (blockB (post (flat (loopB (post ((post (flat (bodyOf Try.f5))).drop 1)))))))) ⟨mk 85 (([1, 3, 4, 53, 54] : List Nat).zip [V.lb [V.ts cs0Next n0Next none], V.ts cs3 n3 c3, V.ts cs4 n4 c4, V.i IntKind.i64 (↑n0Next : Int), V.i IntKind.i64 x54]), [], h⟩ (VQ [1, 3, 4, 10, 53, 54, 62, 63, 64] K)) =
  (∃ (cs : List V),
  ∃ (l : Nat),
 ∃ (c : Option Nat),
 (PCon Try.Y (17 : Nat) [V.agg [V.ts cs0Next n0Next none], V.i IntKind.i64 x54] fun (v : V) => v = V.ts cs l c) ∧
 K Out.normal 85
 [V.lb [V.ts cs0Next n0Next none], V.ts cs3 n3 c3, V.ts cs4 n4 c4, V.b (ltI (0 : Int) (↑n4 : Int)),
 V.i IntKind.i64 (↑n0Next : Int), V.i IntKind.i64 x54, V.ts cs l c, V.i IntKind.i64 (↑l : Int),
 V.i IntKind.i64 (0 : Int)]
 h) := by kernel_rfl
theorem f5_8 (cs0Next : List V) (n0Next : Nat) (c3 : Option Nat) (cs3 : List V) (n3 : Nat) (c4 : Option Nat) (cs4 : List V) (n4 : Nat) (x54 : Int) (c62z2 : Option Nat) (cs62z2 : List V) (n62z2 : Nat) (x63z2 : Int) (b10z6 : Bool) (x64z2 : Int) (h : Heap) (K : Out → Nat → List V → Heap → Prop) : (codeP Try.Y (Try.Y.loc 5) 100 (pre (flat (loopB (post (flat (blockB (post (flat (loopB (post ((post (flat (bodyOf Try.f5))).drop 1))))))))))) ⟨mk 85 (([1, 3, 4, 10, 53, 54, 62, 63, 64] : List Nat).zip [V.lb [V.ts cs0Next n0Next none], V.ts cs3 n3 c3, V.ts cs4 n4 c4, V.b b10z6, V.i IntKind.i64 (↑n0Next : Int), V.i IntKind.i64 x54, V.ts cs62z2 n62z2 c62z2, V.i IntKind.i64 x63z2, V.i IntKind.i64 x64z2]), [], h⟩ (VQ [1, 3, 4, 10, 53, 54, 62, 63, 64] K)) =
  (If (ltI x64z2 x63z2)
  (K Out.normal 85
 [V.lb [V.ts cs0Next n0Next none], V.ts cs3 n3 c3, V.ts cs4 n4 c4, V.b b10z6, V.i IntKind.i64 (↑n0Next : Int),
 V.i IntKind.i64 x54, V.ts cs62z2 n62z2 c62z2, V.i IntKind.i64 x63z2, V.i IntKind.i64 x64z2]
 h)
  (K (Out.exit 6) 85
 [V.lb [V.ts cs0Next n0Next none], V.ts cs3 n3 c3, V.ts cs4 n4 c4, V.b b10z6, V.i IntKind.i64 (↑n0Next : Int),
 V.i IntKind.i64 x54, V.ts cs62z2 n62z2 c62z2, V.i IntKind.i64 x63z2, V.i IntKind.i64 x64z2]
 h)) := by kernel_rfl
theorem f5_9 (cs0Next : List V) (n0Next : Nat) (c3 : Option Nat) (cs3 : List V) (n3 : Nat) (c4 : Option Nat) (cs4 : List V) (n4 : Nat) (x54 : Int) (c62z2 : Option Nat) (cs62z2 : List V) (n62z2 : Nat) (x63z2 : Int) (b10z6 : Bool) (x64z2 : Int) (h : Heap) (K : Out → Nat → List V → Heap → Prop) : (codeP Try.Y (Try.Y.loc 5) 100 (pre (flat (blockB (post (flat (loopB (post (flat (blockB (post (flat (loopB (post ((post (flat (bodyOf Try.f5))).drop 1)))))))))))))) ⟨mk 85 (([1, 3, 4, 10, 53, 54, 62, 63, 64] : List Nat).zip [V.lb [V.ts cs0Next n0Next none], V.ts cs3 n3 c3, V.ts cs4 n4 c4, V.b b10z6, V.i IntKind.i64 (↑n0Next : Int), V.i IntKind.i64 x54, V.ts cs62z2 n62z2 c62z2, V.i IntKind.i64 x63z2, V.i IntKind.i64 x64z2]), [], h⟩ (VQ [1, 3, 4, 10, 12, 53, 54, 62, 63, 64, 68, 69, 70] K)) =
  (((0 : Int) ≤ x64z2 ∧ x64z2 < (↑n62z2 : Int)) ∧
  ∃ (n : Int),
 takeX 1 (List.drop (x64z2.toNat * (1 : Nat)) cs62z2) = some [V.i IntKind.i64 n] ∧
 K Out.normal 85
 [V.lb [V.ts cs0Next n0Next none], V.ts cs3 n3 c3, V.ts cs4 n4 c4, V.b b10z6, V.i IntKind.i64 n,
 V.i IntKind.i64 (↑n0Next : Int), V.i IntKind.i64 x54, V.ts cs62z2 n62z2 c62z2, V.i IntKind.i64 x63z2,
 V.i IntKind.i64 x64z2, V.ts cs3 n3 c3, V.i IntKind.i64 (↑n3 : Int), V.i IntKind.i64 (0 : Int)]
 h) := by kernel_rfl
theorem f5_10 (cs0Next : List V) (n0Next : Nat) (c3 : Option Nat) (cs3 : List V) (n3 : Nat) (c4 : Option Nat) (cs4 : List V) (n4 : Nat) (x54 : Int) (c62z2 : Option Nat) (cs62z2 : List V) (n62z2 : Nat) (x63z2 : Int) (b10z6 : Bool) (x64z2 : Int) (x12z4 : Int) (x70z8 : Int) (h : Heap) (K : Out → Nat → List V → Heap → Prop) : (codeP Try.Y (Try.Y.loc 5) 100 ((flat (loopB (post (flat (blockB (post (flat (loopB (post (flat (blockB (post (flat (loopB (post ((post (flat (bodyOf Try.f5))).drop 1))))))))))))))))) ⟨mk 85 (([1, 3, 4, 10, 12, 53, 54, 62, 63, 64, 68, 69, 70] : List Nat).zip [V.lb [V.ts cs0Next n0Next none], V.ts cs3 n3 c3, V.ts cs4 n4 c4, V.b b10z6, V.i IntKind.i64 x12z4, V.i IntKind.i64 (↑n0Next : Int), V.i IntKind.i64 x54, V.ts cs62z2 n62z2 c62z2, V.i IntKind.i64 x63z2, V.i IntKind.i64 x64z2, V.ts cs3 n3 c3, V.i IntKind.i64 (↑n3 : Int), V.i IntKind.i64 x70z8]), [], h⟩ (VQ [1, 3, 4, 10, 12, 53, 54, 62, 63, 64, 68, 69, 70] K)) =
  (If (ltI x70z8 (↑n3 : Int))
  (((0 : Int) ≤ x70z8 ∧ x70z8 < (↑n3 : Int)) ∧
 ∃ (n : Int),
 takeX 1 (List.drop (x70z8.toNat * (1 : Nat)) cs3) = some [V.i IntKind.i64 n] ∧
 If b10z6
 (K Out.normal 85
 [V.lb [V.ts cs0Next n0Next none], V.ts cs3 n3 c3, V.ts cs4 n4 c4, V.b true, V.i IntKind.i64 x12z4,
 V.i IntKind.i64 (↑n0Next : Int), V.i IntKind.i64 x54, V.ts cs62z2 n62z2 c62z2, V.i IntKind.i64 x63z2,
 V.i IntKind.i64 x64z2, V.ts cs3 n3 c3, V.i IntKind.i64 (↑n3 : Int),
 V.i IntKind.i64 (IntKind.i64.wrap (x70z8 + (1 : Int)))]
 h)
 (K Out.normal 85
 [V.lb [V.ts cs0Next n0Next none], V.ts cs3 n3 c3, V.ts cs4 n4 c4, V.b (x12z4 == n), V.i IntKind.i64 x12z4,
 V.i IntKind.i64 (↑n0Next : Int), V.i IntKind.i64 x54, V.ts cs62z2 n62z2 c62z2, V.i IntKind.i64 x63z2,
 V.i IntKind.i64 x64z2, V.ts cs3 n3 c3, V.i IntKind.i64 (↑n3 : Int),
 V.i IntKind.i64 (IntKind.i64.wrap (x70z8 + (1 : Int)))]
 h))
  (K (Out.exit 8) 85
 [V.lb [V.ts cs0Next n0Next none], V.ts cs3 n3 c3, V.ts cs4 n4 c4, V.b b10z6, V.i IntKind.i64 x12z4,
 V.i IntKind.i64 (↑n0Next : Int), V.i IntKind.i64 x54, V.ts cs62z2 n62z2 c62z2, V.i IntKind.i64 x63z2,
 V.i IntKind.i64 x64z2, V.ts cs3 n3 c3, V.i IntKind.i64 (↑n3 : Int), V.i IntKind.i64 x70z8]
 h)) := by kernel_rfl
theorem f5_11 (cs0Next : List V) (n0Next : Nat) (c3 : Option Nat) (cs3 : List V) (n3 : Nat) (c4 : Option Nat) (cs4 : List V) (n4 : Nat) (x54 : Int) (c62z2 : Option Nat) (cs62z2 : List V) (n62z2 : Nat) (x63z2 : Int) (b10z6 : Bool) (x64z2 : Int) (h : Heap) (K : Out → Nat → List V → Heap → Prop) : (codeP Try.Y (Try.Y.loc 5) 100 (((post (flat (loopB (post (flat (blockB (post (flat (loopB (post ((post (flat (bodyOf Try.f5))).drop 1))))))))))).drop 1)) ⟨mk 85 (([1, 3, 4, 10, 53, 54, 62, 63, 64] : List Nat).zip [V.lb [V.ts cs0Next n0Next none], V.ts cs3 n3 c3, V.ts cs4 n4 c4, V.b b10z6, V.i IntKind.i64 (↑n0Next : Int), V.i IntKind.i64 x54, V.ts cs62z2 n62z2 c62z2, V.i IntKind.i64 x63z2, V.i IntKind.i64 x64z2]), [], h⟩ (VQ [1, 3, 4, 10, 53, 54, 62, 63, 64] K)) =
  (K Out.normal 85
  [V.lb [V.ts cs0Next n0Next none], V.ts cs3 n3 c3, V.ts cs4 n4 c4, V.b b10z6, V.i IntKind.i64 (↑n0Next : Int),
 V.i IntKind.i64 x54, V.ts cs62z2 n62z2 c62z2, V.i IntKind.i64 x63z2,
 V.i IntKind.i64 (IntKind.i64.wrap (x64z2 + (1 : Int)))]
  h) := by kernel_rfl
theorem f5_12 (cs0Next : List V) (n0Next : Nat) (c3 : Option Nat) (cs3 : List V) (n3 : Nat) (c4 : Option Nat) (cs4 : List V) (n4 : Nat) (x54 : Int) (b10z6 : Bool) (h : Heap) (K : Out → Nat → List V → Heap → Prop) : (codeP Try.Y (Try.Y.loc 5) 100 (((post (flat (blockB (post (flat (loopB (post ((post (flat (bodyOf Try.f5))).drop 1)))))))).drop 1)) ⟨mk 85 (([1, 3, 4, 10, 53, 54] : List Nat).zip [V.lb [V.ts cs0Next n0Next none], V.ts cs3 n3 c3, V.ts cs4 n4 c4, V.b b10z6, V.i IntKind.i64 (↑n0Next : Int), V.i IntKind.i64 x54]), [], h⟩ (VQ [1, 2, 3, 4, 53, 54] K)) =
  (If (!b10z6)
  (K Out.ret 85
 [V.lb [V.ts cs0Next n0Next none], V.b false, V.ts cs3 n3 c3, V.ts cs4 n4 c4, V.i IntKind.i64 (↑n0Next : Int),
 V.i IntKind.i64 x54]
 h)
  (K Out.normal 85
 [V.lb [V.ts cs0Next n0Next none], V.undef, V.ts cs3 n3 c3, V.ts cs4 n4 c4, V.i IntKind.i64 (↑n0Next : Int),
 V.i IntKind.i64 x54]
 h)) := by kernel_rfl
theorem f5_13 (cs0Next : List V) (n0Next : Nat) (c3 : Option Nat) (cs3 : List V) (n3 : Nat) (c4 : Option Nat) (cs4 : List V) (n4 : Nat) (x54 : Int) (h : Heap) (K : Out → Nat → List V → Heap → Prop) : (codeP Try.Y (Try.Y.loc 5) 100 (((post (flat (loopB (post ((post (flat (bodyOf Try.f5))).drop 1))))).drop 1)) ⟨mk 85 (([1, 3, 4, 53, 54] : List Nat).zip [V.lb [V.ts cs0Next n0Next none], V.ts cs3 n3 c3, V.ts cs4 n4 c4, V.i IntKind.i64 (↑n0Next : Int), V.i IntKind.i64 x54]), [], h⟩ (VQ [1, 3, 4, 53, 54] K)) =
  (K Out.normal 85
  [V.lb [V.ts cs0Next n0Next none], V.ts cs3 n3 c3, V.ts cs4 n4 c4, V.i IntKind.i64 (↑n0Next : Int),
 V.i IntKind.i64 (IntKind.i64.wrap (x54 + (1 : Int)))]
  h) := by kernel_rfl
theorem f5_14  (h : Heap) (K : Out → Nat → List V → Heap → Prop) : (codeP Try.Y (Try.Y.loc 5) 100 (((post ((post (flat (bodyOf Try.f5))).drop 1)).drop 1)) ⟨mk 85 (([] : List Nat).zip []), [], h⟩ (VQ [2] K)) =
  (K Out.ret 85 [V.b true] h) := by kernel_rfl
end Go.Y
