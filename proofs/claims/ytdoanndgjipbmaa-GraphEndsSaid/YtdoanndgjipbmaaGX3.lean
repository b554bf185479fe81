/- What the pieces of functions come to: printed by program. -/
import Derived.Test.YtdoanndgjipbmaaYTryP
import Derived.Test.YtdoanndgjipbmaaYFun
namespace Go.Y
open Go.Proofs
set_option maxRecDepth 100000
set_option maxHeartbeats 0
theorem f17_0 (cs0Next : List V) (n0Next : Nat) (x1 : Int) (h : Heap) (K : Out → Nat → List V → Heap → Prop) : (codeP Try.Y (Try.Y.loc 17) 100 (pre (flat (bodyOf Try.f17))) ⟨(V.agg [V.ts cs0Next n0Next none] :: V.i IntKind.i64 x1 :: List.replicate 66 .undef), [], h⟩ (VQ [2, 4, 5, 6, 7] K)) =
  (∃ (b : Bool),
  (PCon Try.Y (7 : Nat) [V.agg [V.ts cs0Next n0Next none]] fun (v : V) => v = V.b b) ∧
 If (!b)
 (K Out.ret 68
 [V.lb [V.ts cs0Next n0Next none], V.sl none 0 (some 0) 0, V.undef, V.undef,
 V.undef]
 h)
 (If (ltI x1 (0 : Int))
 (K Out.ret 68
 [V.lb [V.ts cs0Next n0Next none], V.sl none 0 (some 0) 0, V.undef, V.undef,
 V.undef]
 h)
 (If (leI (↑n0Next : Int) x1)
 (K Out.ret 68
 [V.lb [V.ts cs0Next n0Next none], V.sl none 0 (some 0) 0, V.undef, V.undef,
 V.undef]
 h)
 (((0 : Int) ≤ (↑n0Next : Int) ∧
 (↑n0Next : Int) ≤ (↑n0Next : Int) ∧
 (↑n0Next : Int) ≤ (↑most : Int) ∧ (↑n0Next : Int) * (↑(1 : Nat) : Int) ≤ (↑most : Int)) ∧
 ((0 : Int) ≤ x1 ∧ x1 < (↑(↑n0Next : Int).toNat : Int)) ∧
 1 = 1 ∧
 ∃ (h_1 : Heap),
 hstore (h.push (YObj.arr (List.replicate (↑n0Next : Int).toNat [V.b false]).flatten true)) h.nx
 ((0 : Nat) + x1.toNat * (1 : Nat)) [V.b true] =
 some h_1 ∧
 K Out.normal 68
 [V.lb [V.ts cs0Next n0Next none], V.sl none 0 (some 0) 0,
 V.sl (some (h.nx, 0)) (↑n0Next : Int).toNat (some (↑n0Next : Int).toNat) 1,
 V.sl (some (h_1.nx, 0)) 1 (some 1) 1,
 V.i IntKind.i64 (0 : Int)]
 (h_1.push (YObj.arr [V.i IntKind.i64 x1] true)))))) := by kernel_rfl
theorem f17_1 (cs0Next : List V) (n0Next : Nat) (id5 : Nat) (l5 : Nat) (c5 : Nat) (a6z3 : Option (Nat × Nat)) (l6z4 : Nat) (c6z4 : Option Nat) (k6z3 : Nat) (x7 : Int) (h : Heap) (K : Out → Nat → List V → Heap → Prop) : (codeP Try.Y (Try.Y.loc 17) 100 (pre (flat (loopB (post (flat (bodyOf Try.f17)))))) ⟨mk 68 (([2, 5, 6, 7] : List Nat).zip [V.lb [V.ts cs0Next n0Next none], V.sl (some (id5, 0)) l5 (some c5) 1, V.sl a6z3 l6z4 c6z4 k6z3, V.i IntKind.i64 x7]), [], h⟩ (VQ [2, 5, 6, 7] K)) =
  (If (ltI x7 (↑l6z4 : Int))
  (K Out.normal 68
 [V.lb [V.ts cs0Next n0Next none], V.sl (some (id5, 0)) l5 (some c5) 1, V.sl a6z3 l6z4 c6z4 k6z3,
 V.i IntKind.i64 x7]
 h)
  (K (Out.exit 0) 68
 [V.lb [V.ts cs0Next n0Next none], V.sl (some (id5, 0)) l5 (some c5) 1, V.sl a6z3 l6z4 c6z4 k6z3,
 V.i IntKind.i64 x7]
 h)) := by kernel_rfl
theorem f17_2 (cs0Next : List V) (n0Next : Nat) (id5 : Nat) (l5 : Nat) (c5 : Nat) (a6z3 : Option (Nat × Nat)) (l6z4 : Nat) (c6z4 : Option Nat) (k6z3 : Nat) (x7 : Int) (h : Heap) (K : Out → Nat → List V → Heap → Prop) : (codeP Try.Y (Try.Y.loc 17) 100 (pre (flat (blockB (post (flat (loopB (post (flat (bodyOf Try.f17))))))))) ⟨mk 68 (([2, 5, 6, 7] : List Nat).zip [V.lb [V.ts cs0Next n0Next none], V.sl (some (id5, 0)) l5 (some c5) 1, V.sl a6z3 l6z4 c6z4 k6z3, V.i IntKind.i64 x7]), [], h⟩ (VQ [2, 5, 6, 7, 46, 47, 48] K)) =
  (SlO a6z3 False fun (id off : Nat) =>
  ((0 : Int) ≤ x7 ∧ x7 < (↑l6z4 : Int)) ∧
 k6z3 = 1 ∧
 ∃ (n : Int),
 hcells h id (off + x7.toNat * (1 : Nat)) 1 = some [V.i IntKind.i64 n] ∧
 ((0 : Int) ≤ n ∧ n < (↑n0Next : Int)) ∧
 ∃ (cs : List V),
 ∃ (l : Nat),
 ∃ (c : Option Nat),
 takeX 1 (List.drop (n.toNat * (1 : Nat)) cs0Next) = some [V.ts cs l c] ∧
 K Out.normal 68
 [V.lb [V.ts cs0Next n0Next none], V.sl (some (id5, 0)) l5 (some c5) 1,
 V.sl a6z3 l6z4 c6z4 k6z3, V.i IntKind.i64 x7, V.ts cs l c, V.i IntKind.i64 (↑l : Int),
 V.i IntKind.i64 (0 : Int)]
 h) := by kernel_rfl
theorem f17_3 (cs0Next : List V) (n0Next : Nat) (id5 : Nat) (l5 : Nat) (c5 : Nat) (a6z3 : Option (Nat × Nat)) (l6z4 : Nat) (c6z4 : Option Nat) (k6z3 : Nat) (x7 : Int) (c46z2 : Option Nat) (cs46z2 : List V) (n46z2 : Nat) (x47z2 : Int) (x48z4 : Int) (h : Heap) (K : Out → Nat → List V → Heap → Prop) : (codeP Try.Y (Try.Y.loc 17) 100 ((flat (loopB (post (flat (blockB (post (flat (loopB (post (flat (bodyOf Try.f17)))))))))))) ⟨mk 68 (([2, 5, 6, 7, 46, 47, 48] : List Nat).zip [V.lb [V.ts cs0Next n0Next none], V.sl (some (id5, 0)) l5 (some c5) 1, V.sl a6z3 l6z4 c6z4 k6z3, V.i IntKind.i64 x7, V.ts cs46z2 n46z2 c46z2, V.i IntKind.i64 x47z2, V.i IntKind.i64 x48z4]), [], h⟩ (VQ [2, 5, 6, 7, 46, 47, 48] K)) =
  (If (ltI x48z4 x47z2)
  (((0 : Int) ≤ x48z4 ∧ x48z4 < (↑n46z2 : Int)) ∧
 ∃ (n : Int),
 takeX 1 (List.drop (x48z4.toNat * (1 : Nat)) cs46z2) = some [V.i IntKind.i64 n] ∧
 ((0 : Int) ≤ n ∧ n < (↑l5 : Int)) ∧
 1 = 1 ∧
 ∃ (b : Bool),
 hcells h id5 ((0 : Nat) + n.toNat * (1 : Nat)) 1 = some [V.b b] ∧
 If (!b)
 (((0 : Int) ≤ n ∧ n < (↑l5 : Int)) ∧
 1 = 1 ∧
 ∃ (h_1 : Heap),
 hstore h id5 ((0 : Nat) + n.toNat * (1 : Nat)) [V.b true] = some h_1 ∧
 ∃ (a : Option (Nat × Nat)),
 ∃ (l : Nat),
 ∃ (c : Option Nat),
 ∃ (k : Nat),
 ∃ (h : Heap),
 appendH Try.Y h_1 26 26 (V.sl a6z3 l6z4 c6z4 k6z3)
 (V.ts [V.i IntKind.i64 n] 1 (some 1)) =
 some (V.sl a l c k, h) ∧
 K Out.normal 68
 [V.lb [V.ts cs0Next n0Next none],
 V.sl (some (id5, 0)) l5 (some c5) 1, V.sl a l c k,
 V.i IntKind.i64 x7, V.ts cs46z2 n46z2 c46z2, V.i IntKind.i64 x47z2,
 V.i IntKind.i64 (IntKind.i64.wrap (x48z4 + (1 : Int)))]
 h)
 (K Out.normal 68
 [V.lb [V.ts cs0Next n0Next none], V.sl (some (id5, 0)) l5 (some c5) 1,
 V.sl a6z3 l6z4 c6z4 k6z3, V.i IntKind.i64 x7, V.ts cs46z2 n46z2 c46z2, V.i IntKind.i64 x47z2,
 V.i IntKind.i64 (IntKind.i64.wrap (x48z4 + (1 : Int)))]
 h))
  (K (Out.exit 2) 68
 [V.lb [V.ts cs0Next n0Next none], V.sl (some (id5, 0)) l5 (some c5) 1, V.sl a6z3 l6z4 c6z4 k6z3,
 V.i IntKind.i64 x7, V.ts cs46z2 n46z2 c46z2, V.i IntKind.i64 x47z2, V.i IntKind.i64 x48z4]
 h)) := by kernel_rfl
theorem f17_4 (cs0Next : List V) (n0Next : Nat) (id5 : Nat) (l5 : Nat) (c5 : Nat) (a6z3 : Option (Nat × Nat)) (l6z4 : Nat) (c6z4 : Option Nat) (k6z3 : Nat) (x7 : Int) (h : Heap) (K : Out → Nat → List V → Heap → Prop) : (codeP Try.Y (Try.Y.loc 17) 100 (((post (flat (loopB (post (flat (bodyOf Try.f17)))))).drop 1)) ⟨mk 68 (([2, 5, 6, 7] : List Nat).zip [V.lb [V.ts cs0Next n0Next none], V.sl (some (id5, 0)) l5 (some c5) 1, V.sl a6z3 l6z4 c6z4 k6z3, V.i IntKind.i64 x7]), [], h⟩ (VQ [2, 5, 6, 7] K)) =
  (K Out.normal 68
  [V.lb [V.ts cs0Next n0Next none], V.sl (some (id5, 0)) l5 (some c5) 1, V.sl a6z3 l6z4 c6z4 k6z3,
 V.i IntKind.i64 (IntKind.i64.wrap (x7 + (1 : Int)))]
  h) := by kernel_rfl
theorem f17_5 (a6z3 : Option (Nat × Nat)) (l6z4 : Nat) (c6z4 : Option Nat) (k6z3 : Nat) (h : Heap) (K : Out → Nat → List V → Heap → Prop) : (codeP Try.Y (Try.Y.loc 17) 100 (((post (flat (bodyOf Try.f17))).drop 1)) ⟨mk 68 (([6] : List Nat).zip [V.sl a6z3 l6z4 c6z4 k6z3]), [], h⟩ (VQ [4] K)) =
  (Con Try.Y (26 : Nat) [V.sl a6z3 l6z4 c6z4 k6z3] h fun (v : V) (h' : Heap) =>
  v = V.tup [] ∧ K Out.ret 68 [V.sl a6z3 l6z4 c6z4 k6z3] h') := by kernel_rfl
theorem f11_0 (cs0Next : List V) (n0Next : Nat) (h : Heap) (K : Out → Nat → List V → Heap → Prop) : (codeP Try.Y (Try.Y.loc 11) 100 (pre (flat (bodyOf Try.f11))) ⟨(V.agg [V.ts cs0Next n0Next none] :: List.replicate 65 .undef), [], h⟩ (VQ [1, 2, 3, 4] K)) =
  (∃ (b : Bool),
  (PCon Try.Y (8 : Nat) [V.agg [V.ts cs0Next n0Next none]] fun (v : V) => v = V.b b) ∧
 If (!b)
 (K Out.ret 66
 [V.lb [V.ts cs0Next n0Next none], V.sl none 0 (some 0) 0, V.undef, V.undef] h)
 (K Out.normal 66
 [V.lb [V.ts cs0Next n0Next none], V.sl none 0 (some 0) 0,
 V.sl none 0 (some 0) 0, V.i IntKind.i64 (0 : Int)]
 h)) := by kernel_rfl
theorem f11_1 (cs0Next : List V) (n0Next : Nat) (a3 : Option (Nat × Nat)) (l3 : Nat) (c3 : Option Nat) (k3 : Nat) (x4 : Int) (h : Heap) (K : Out → Nat → List V → Heap → Prop) : (codeP Try.Y (Try.Y.loc 11) 100 ((flat (loopB (post (flat (bodyOf Try.f11)))))) ⟨mk 66 (([1, 3, 4] : List Nat).zip [V.lb [V.ts cs0Next n0Next none], V.sl a3 l3 c3 k3, V.i IntKind.i64 x4]), [], h⟩ (VQ [1, 3, 4] K)) =
  (If (ltI x4 (↑n0Next : Int))
  (∃ (cs : List V),
 ∃ (l : Nat),
 ∃ (c : Option Nat),
 (PCon Try.Y (18 : Nat) [V.agg [V.ts cs0Next n0Next none], V.i IntKind.i64 x4] fun (v : V) => v = V.ts cs l c) ∧
 ∃ (a : Option (Nat × Nat)),
 ∃ (l_1 : Nat),
 ∃ (c_1 : Option Nat),
 ∃ (k : Nat),
 ∃ (h_1 : Heap),
 appendH Try.Y h 22 22 (V.sl a3 l3 c3 k3)
 (V.ts [V.ts cs l c] 1 (some 1)) =
 some (V.sl a l_1 c_1 k, h_1) ∧
 K Out.normal 66
 [V.lb [V.ts cs0Next n0Next none], V.sl a l_1 c_1 k,
 V.i IntKind.i64 (IntKind.i64.wrap (x4 + (1 : Int)))]
 h_1)
  (K (Out.exit 0) 66 [V.lb [V.ts cs0Next n0Next none], V.sl a3 l3 c3 k3, V.i IntKind.i64 x4] h)) := by kernel_rfl
theorem f11_2 (cs0Next : List V) (n0Next : Nat) (a3 : Option (Nat × Nat)) (l3 : Nat) (c3 : Option Nat) (k3 : Nat) (h : Heap) (K : Out → Nat → List V → Heap → Prop) : (codeP Try.Y (Try.Y.loc 11) 100 (pre ((post (flat (bodyOf Try.f11))).drop 1)) ⟨mk 66 (([1, 3] : List Nat).zip [V.lb [V.ts cs0Next n0Next none], V.sl a3 l3 c3 k3]), [], h⟩ (VQ [1, 3, 5, 6, 7] K)) =
  (K Out.normal 66
  [V.lb [V.ts cs0Next n0Next none], V.sl a3 l3 c3 k3, V.sl none 0 (some 0) 0,
 V.i IntKind.i64 (0 : Int), V.i IntKind.i64 (0 : Int)]
  h) := by kernel_rfl
theorem f11_3 (cs0Next : List V) (n0Next : Nat) (a3 : Option (Nat × Nat)) (l3 : Nat) (c3 : Option Nat) (k3 : Nat) (a5z2 : Option (Nat × Nat)) (l5z2 : Nat) (c5z2 : Option Nat) (k5z2 : Nat) (x6 : Int) (x7 : Int) (h : Heap) (K : Out → Nat → List V → Heap → Prop) : (codeP Try.Y (Try.Y.loc 11) 100 (pre (flat (loopB (post ((post (flat (bodyOf Try.f11))).drop 1))))) ⟨mk 66 (([1, 3, 5, 6, 7] : List Nat).zip [V.lb [V.ts cs0Next n0Next none], V.sl a3 l3 c3 k3, V.sl a5z2 l5z2 c5z2 k5z2, V.i IntKind.i64 x6, V.i IntKind.i64 x7]), [], h⟩ (VQ [1, 3, 5, 6, 7] K)) =
  (If (ltI x7 (↑n0Next : Int))
  (K Out.normal 66
 [V.lb [V.ts cs0Next n0Next none], V.sl a3 l3 c3 k3, V.sl a5z2 l5z2 c5z2 k5z2, V.i IntKind.i64 x6,
 V.i IntKind.i64 x7]
 h)
  (K (Out.exit 2) 66
 [V.lb [V.ts cs0Next n0Next none], V.sl a3 l3 c3 k3, V.sl a5z2 l5z2 c5z2 k5z2, V.i IntKind.i64 x6,
 V.i IntKind.i64 x7]
 h)) := by kernel_rfl
theorem f11_4 (cs0Next : List V) (n0Next : Nat) (a3 : Option (Nat × Nat)) (l3 : Nat) (c3 : Option Nat) (k3 : Nat) (a5z2 : Option (Nat × Nat)) (l5z2 : Nat) (c5z2 : Option Nat) (k5z2 : Nat) (x6 : Int) (x7 : Int) (h : Heap) (K : Out → Nat → List V → Heap → Prop) : (codeP Try.Y (Try.Y.loc 11) 100 (pre (flat (blockB (post (flat (loopB (post ((post (flat (bodyOf Try.f11))).drop 1)))))))) ⟨mk 66 (([1, 3, 5, 6, 7] : List Nat).zip [V.lb [V.ts cs0Next n0Next none], V.sl a3 l3 c3 k3, V.sl a5z2 l5z2 c5z2 k5z2, V.i IntKind.i64 x6, V.i IntKind.i64 x7]), [], h⟩ (VQ [1, 3, 5, 6, 7, 8, 9] K)) =
  (K Out.normal 66
  [V.lb [V.ts cs0Next n0Next none], V.sl a3 l3 c3 k3, V.sl a5z2 l5z2 c5z2 k5z2, V.i IntKind.i64 x6, V.i IntKind.i64 x7,
 V.i IntKind.i64 (-1 : Int), V.i IntKind.i64 (0 : Int)]
  h) := by kernel_rfl
theorem f11_5 (cs0Next : List V) (n0Next : Nat) (a3 : Option (Nat × Nat)) (l3 : Nat) (c3 : Option Nat) (k3 : Nat) (a5z2 : Option (Nat × Nat)) (l5z2 : Nat) (c5z2 : Option Nat) (k5z2 : Nat) (x6 : Int) (x7 : Int) (x8z3 : Int) (x9z3 : Int) (h : Heap) (K : Out → Nat → List V → Heap → Prop) : (codeP Try.Y (Try.Y.loc 11) 100 ((flat (loopB (post (flat (blockB (post (flat (loopB (post ((post (flat (bodyOf Try.f11))).drop 1))))))))))) ⟨mk 66 (([1, 3, 5, 6, 7, 8, 9] : List Nat).zip [V.lb [V.ts cs0Next n0Next none], V.sl a3 l3 c3 k3, V.sl a5z2 l5z2 c5z2 k5z2, V.i IntKind.i64 x6, V.i IntKind.i64 x7, V.i IntKind.i64 x8z3, V.i IntKind.i64 x9z3]), [], h⟩ (VQ [1, 3, 5, 6, 7, 8, 9] K)) =
  (If (ltI x9z3 x7)
  (SlO a3 False fun (id off : Nat) =>
 ((0 : Int) ≤ x7 ∧ x7 < (↑l3 : Int)) ∧
 k3 = 1 ∧
 ∃ (cs : List V),
 ∃ (l : Nat),
 ∃ (c : Option Nat),
 hcells h id (off + x7.toNat * (1 : Nat)) 1 = some [V.ts cs l c] ∧
 ∃ (b : Bool),
 (PCon Try.Y (22 : Nat) [V.ts cs l c, V.i IntKind.i64 x9z3] fun (v : V) => v = V.b b) ∧
 If b
 (SlO a3 False fun (id off : Nat) =>
 ((0 : Int) ≤ x9z3 ∧ x9z3 < (↑l3 : Int)) ∧
 k3 = 1 ∧
 ∃ (cs : List V),
 ∃ (l : Nat),
 ∃ (c : Option Nat),
 hcells h id (off + x9z3.toNat * (1 : Nat)) 1 = some [V.ts cs l c] ∧
 ∃ (b : Bool),
 (PCon Try.Y (22 : Nat) [V.ts cs l c, V.i IntKind.i64 x7] fun (v : V) =>
 v = V.b b) ∧
 If b
 (SlO a5z2 False fun (id off : Nat) =>
 ((0 : Int) ≤ x9z3 ∧ x9z3 < (↑l5z2 : Int)) ∧
 k5z2 = 1 ∧
 ∃ (n : Int),
 hcells h id (off + x9z3.toNat * (1 : Nat)) 1 =
 some [V.i IntKind.i64 n] ∧
 K Out.normal 66
 [V.lb [V.ts cs0Next n0Next none], V.sl a3 l3 c3 k3,
 V.sl a5z2 l5z2 c5z2 k5z2, V.i IntKind.i64 x6,
 V.i IntKind.i64 x7, V.i IntKind.i64 n,
 V.i IntKind.i64 (IntKind.i64.wrap (x9z3 + (1 : Int)))]
 h)
 (K Out.normal 66
 [V.lb [V.ts cs0Next n0Next none], V.sl a3 l3 c3 k3,
 V.sl a5z2 l5z2 c5z2 k5z2, V.i IntKind.i64 x6, V.i IntKind.i64 x7,
 V.i IntKind.i64 x8z3,
 V.i IntKind.i64 (IntKind.i64.wrap (x9z3 + (1 : Int)))]
 h))
 (K Out.normal 66
 [V.lb [V.ts cs0Next n0Next none], V.sl a3 l3 c3 k3, V.sl a5z2 l5z2 c5z2 k5z2,
 V.i IntKind.i64 x6, V.i IntKind.i64 x7, V.i IntKind.i64 x8z3,
 V.i IntKind.i64 (IntKind.i64.wrap (x9z3 + (1 : Int)))]
 h))
  (K (Out.exit 4) 66
 [V.lb [V.ts cs0Next n0Next none], V.sl a3 l3 c3 k3, V.sl a5z2 l5z2 c5z2 k5z2, V.i IntKind.i64 x6,
 V.i IntKind.i64 x7, V.i IntKind.i64 x8z3, V.i IntKind.i64 x9z3]
 h)) := by kernel_rfl
theorem f11_6 (cs0Next : List V) (n0Next : Nat) (a3 : Option (Nat × Nat)) (l3 : Nat) (c3 : Option Nat) (k3 : Nat) (a5z2 : Option (Nat × Nat)) (l5z2 : Nat) (c5z2 : Option Nat) (k5z2 : Nat) (x6 : Int) (x7 : Int) (x8z3 : Int) (h : Heap) (K : Out → Nat → List V → Heap → Prop) : (codeP Try.Y (Try.Y.loc 11) 100 (((post (flat (blockB (post (flat (loopB (post ((post (flat (bodyOf Try.f11))).drop 1)))))))).drop 1)) ⟨mk 66 (([1, 3, 5, 6, 7, 8] : List Nat).zip [V.lb [V.ts cs0Next n0Next none], V.sl a3 l3 c3 k3, V.sl a5z2 l5z2 c5z2 k5z2, V.i IntKind.i64 x6, V.i IntKind.i64 x7, V.i IntKind.i64 x8z3]), [], h⟩ (VQ [1, 3, 5, 6, 7] K)) =
  (If (ltI x8z3 (0 : Int))
  (∃ (a : Option (Nat × Nat)),
 ∃ (l : Nat),
 ∃ (c : Option Nat),
 ∃ (k : Nat),
 ∃ (h_1 : Heap),
 appendH Try.Y h 26 26 (V.sl a5z2 l5z2 c5z2 k5z2)
 (V.ts [V.i IntKind.i64 x6] 1 (some 1)) =
 some (V.sl a l c k, h_1) ∧
 K Out.normal 66
 [V.lb [V.ts cs0Next n0Next none], V.sl a3 l3 c3 k3, V.sl a l c k,
 V.i IntKind.i64 (IntKind.i64.wrap (x6 + (1 : Int))), V.i IntKind.i64 x7]
 h_1)
  (∃ (a : Option (Nat × Nat)),
 ∃ (l : Nat),
 ∃ (c : Option Nat),
 ∃ (k : Nat),
 ∃ (h_1 : Heap),
 appendH Try.Y h 26 26 (V.sl a5z2 l5z2 c5z2 k5z2)
 (V.ts [V.i IntKind.i64 x8z3] 1 (some 1)) =
 some (V.sl a l c k, h_1) ∧
 K Out.normal 66
 [V.lb [V.ts cs0Next n0Next none], V.sl a3 l3 c3 k3, V.sl a l c k, V.i IntKind.i64 x6,
 V.i IntKind.i64 x7]
 h_1)) := by kernel_rfl
theorem f11_7 (cs0Next : List V) (n0Next : Nat) (a3 : Option (Nat × Nat)) (l3 : Nat) (c3 : Option Nat) (k3 : Nat) (x7 : Int) (a5z3 : Option (Nat × Nat)) (l5z3 : Nat) (c5z3 : Option Nat) (k5z3 : Nat) (x6z2 : Int) (h : Heap) (K : Out → Nat → List V → Heap → Prop) : (codeP Try.Y (Try.Y.loc 11) 100 (((post (flat (loopB (post ((post (flat (bodyOf Try.f11))).drop 1))))).drop 1)) ⟨mk 66 (([1, 3, 5, 6, 7] : List Nat).zip [V.lb [V.ts cs0Next n0Next none], V.sl a3 l3 c3 k3, V.sl a5z3 l5z3 c5z3 k5z3, V.i IntKind.i64 x6z2, V.i IntKind.i64 x7]), [], h⟩ (VQ [1, 3, 5, 6, 7] K)) =
  (K Out.normal 66
  [V.lb [V.ts cs0Next n0Next none], V.sl a3 l3 c3 k3, V.sl a5z3 l5z3 c5z3 k5z3, V.i IntKind.i64 x6z2,
 V.i IntKind.i64 (IntKind.i64.wrap (x7 + (1 : Int)))]
  h) := by kernel_rfl
theorem f11_8 (a5z2 : Option (Nat × Nat)) (l5z2 : Nat) (c5z2 : Option Nat) (k5z2 : Nat) (h : Heap) (K : Out → Nat → List V → Heap → Prop) : (codeP Try.Y (Try.Y.loc 11) 100 (((post ((post (flat (bodyOf Try.f11))).drop 1)).drop 1)) ⟨mk 66 (([5] : List Nat).zip [V.sl a5z2 l5z2 c5z2 k5z2]), [], h⟩ (VQ [2] K)) =
  (K Out.ret 66 [V.sl a5z2 l5z2 c5z2 k5z2] h) := by kernel_rfl
theorem f14_0 (cs0Next : List V) (n0Next : Nat) (h : Heap) (K : Out → Nat → List V → Heap → Prop) : (codeP Try.Y (Try.Y.loc 14) 100 (pre (flat (bodyOf Try.f14))) ⟨(V.agg [V.ts cs0Next n0Next none] :: List.replicate 53 .undef), [], h⟩ (VQ [1, 3, 4, 5] K)) =
  (∃ (cs : List V),
  ∃ (l : Nat),
 ∃ (c : Option Nat),
 (PCon Try.Y (11 : Nat) [V.agg [V.ts cs0Next n0Next none]] fun (v : V) => v = V.ts cs l c) ∧
 K Out.normal 54
 [V.lb [V.ts cs0Next n0Next none], V.sl none 0 (some 0) 0, V.ts cs l c,
 V.i IntKind.i64 (0 : Int)]
 h) := by kernel_rfl
theorem f14_1 (cs0Next : List V) (n0Next : Nat) (c4 : Option Nat) (cs4 : List V) (n4 : Nat) (a3z2 : Option (Nat × Nat)) (l3z2 : Nat) (c3z2 : Option Nat) (k3z2 : Nat) (x5 : Int) (h : Heap) (K : Out → Nat → List V → Heap → Prop) : (codeP Try.Y (Try.Y.loc 14) 100 (pre (flat (loopB (post (flat (bodyOf Try.f14)))))) ⟨mk 54 (([1, 3, 4, 5] : List Nat).zip [V.lb [V.ts cs0Next n0Next none], V.sl a3z2 l3z2 c3z2 k3z2, V.ts cs4 n4 c4, V.i IntKind.i64 x5]), [], h⟩ (VQ [1, 3, 4, 5] K)) =
  (If (ltI x5 (↑n4 : Int))
  (K Out.normal 54
 [V.lb [V.ts cs0Next n0Next none], V.sl a3z2 l3z2 c3z2 k3z2, V.ts cs4 n4 c4, V.i IntKind.i64 x5] h)
  (K (Out.exit 0) 54
 [V.lb [V.ts cs0Next n0Next none], V.sl a3z2 l3z2 c3z2 k3z2, V.ts cs4 n4 c4, V.i IntKind.i64 x5] h)) := by kernel_rfl
theorem f14_2 (cs0Next : List V) (n0Next : Nat) (c4 : Option Nat) (cs4 : List V) (n4 : Nat) (a3z2 : Option (Nat × Nat)) (l3z2 : Nat) (c3z2 : Option Nat) (k3z2 : Nat) (x5 : Int) (h : Heap) (K : Out → Nat → List V → Heap → Prop) : (codeP Try.Y (Try.Y.loc 14) 100 (pre (flat (blockB (post (flat (loopB (post (flat (bodyOf Try.f14))))))))) ⟨mk 54 (([1, 3, 4, 5] : List Nat).zip [V.lb [V.ts cs0Next n0Next none], V.sl a3z2 l3z2 c3z2 k3z2, V.ts cs4 n4 c4, V.i IntKind.i64 x5]), [], h⟩ (VQ [1, 3, 4, 5, 6, 7, 8] K)) =
  (K Out.normal 54
  [V.lb [V.ts cs0Next n0Next none], V.sl a3z2 l3z2 c3z2 k3z2, V.ts cs4 n4 c4, V.i IntKind.i64 x5,
 V.sl none 0 (some 0) 0, V.b false, V.i IntKind.i64 (0 : Int)]
  h) := by kernel_rfl
theorem f14_3 (cs0Next : List V) (n0Next : Nat) (c4 : Option Nat) (cs4 : List V) (n4 : Nat) (a3z2 : Option (Nat × Nat)) (l3z2 : Nat) (c3z2 : Option Nat) (k3z2 : Nat) (x5 : Int) (a6z4 : Option (Nat × Nat)) (l6z4 : Nat) (c6z4 : Option Nat) (k6z4 : Nat) (b7z5 : Bool) (x8z4 : Int) (h : Heap) (K : Out → Nat → List V → Heap → Prop) : (codeP Try.Y (Try.Y.loc 14) 100 ((flat (loopB (post (flat (blockB (post (flat (loopB (post (flat (bodyOf Try.f14)))))))))))) ⟨mk 54 (([1, 3, 4, 5, 6, 7, 8] : List Nat).zip [V.lb [V.ts cs0Next n0Next none], V.sl a3z2 l3z2 c3z2 k3z2, V.ts cs4 n4 c4, V.i IntKind.i64 x5, V.sl a6z4 l6z4 c6z4 k6z4, V.b b7z5, V.i IntKind.i64 x8z4]), [], h⟩ (VQ [1, 3, 4, 5, 6, 7, 8] K)) =
  (If (ltI x8z4 (↑n4 : Int))
  (((0 : Int) ≤ x8z4 ∧ x8z4 < (↑n4 : Int)) ∧
 ∃ (n : Int),
 takeX 1 (List.drop (x8z4.toNat * (1 : Nat)) cs4) = some [V.i IntKind.i64 n] ∧
 If (n == x5)
 (∃ (a : Option (Nat × Nat)),
 ∃ (l : Nat),
 ∃ (c : Option Nat),
 ∃ (k : Nat),
 ∃ (h_1 : Heap),
 appendH Try.Y h 26 26 (V.sl a6z4 l6z4 c6z4 k6z4)
 (V.ts [V.i IntKind.i64 x8z4] 1 (some 1)) =
 some (V.sl a l c k, h_1) ∧
 If b7z5
 (K Out.normal 54
 [V.lb [V.ts cs0Next n0Next none], V.sl a3z2 l3z2 c3z2 k3z2, V.ts cs4 n4 c4,
 V.i IntKind.i64 x5, V.sl a l c k, V.b true,
 V.i IntKind.i64 (IntKind.i64.wrap (x8z4 + (1 : Int)))]
 h_1)
 (((0 : Int) ≤ x8z4 ∧ x8z4 < (↑n0Next : Int)) ∧
 ∃ (cs : List V),
 ∃ (l_1 : Nat),
 ∃ (c_1 : Option Nat),
 takeX 1 (List.drop (x8z4.toNat * (1 : Nat)) cs0Next) =
 some [V.ts cs l_1 c_1] ∧
 ∃ (b : Bool),
 (PCon Try.Y (22 : Nat) [V.ts cs l_1 c_1, V.i IntKind.i64 x8z4] fun (v : V) =>
 v = V.b b) ∧
 K Out.normal 54
 [V.lb [V.ts cs0Next n0Next none], V.sl a3z2 l3z2 c3z2 k3z2, V.ts cs4 n4 c4,
 V.i IntKind.i64 x5, V.sl a l c k, V.b b,
 V.i IntKind.i64 (IntKind.i64.wrap (x8z4 + (1 : Int)))]
 h_1))
 (K Out.normal 54
 [V.lb [V.ts cs0Next n0Next none], V.sl a3z2 l3z2 c3z2 k3z2, V.ts cs4 n4 c4, V.i IntKind.i64 x5,
 V.sl a6z4 l6z4 c6z4 k6z4, V.b b7z5, V.i IntKind.i64 (IntKind.i64.wrap (x8z4 + (1 : Int)))]
 h))
  (K (Out.exit 2) 54
 [V.lb [V.ts cs0Next n0Next none], V.sl a3z2 l3z2 c3z2 k3z2, V.ts cs4 n4 c4, V.i IntKind.i64 x5,
 V.sl a6z4 l6z4 c6z4 k6z4, V.b b7z5, V.i IntKind.i64 x8z4]
 h)) := by kernel_rfl
theorem f14_4 (cs0Next : List V) (n0Next : Nat) (c4 : Option Nat) (cs4 : List V) (n4 : Nat) (a3z2 : Option (Nat × Nat)) (l3z2 : Nat) (c3z2 : Option Nat) (k3z2 : Nat) (x5 : Int) (a6z4 : Option (Nat × Nat)) (l6z4 : Nat) (c6z4 : Option Nat) (k6z4 : Nat) (b7z6 : Bool) (h : Heap) (K : Out → Nat → List V → Heap → Prop) : (codeP Try.Y (Try.Y.loc 14) 100 (((post (flat (blockB (post (flat (loopB (post (flat (bodyOf Try.f14))))))))).drop 1)) ⟨mk 54 (([1, 3, 4, 5, 6, 7] : List Nat).zip [V.lb [V.ts cs0Next n0Next none], V.sl a3z2 l3z2 c3z2 k3z2, V.ts cs4 n4 c4, V.i IntKind.i64 x5, V.sl a6z4 l6z4 c6z4 k6z4, V.b b7z6]), [], h⟩ (VQ [1, 3, 4, 5] K)) =
  (If (ltI (1 : Int) (↑l6z4 : Int))
  (∃ (a : Option (Nat × Nat)),
 ∃ (l : Nat),
 ∃ (c : Option Nat),
 ∃ (k : Nat),
 ∃ (h_1 : Heap),
 appendH Try.Y (h.push (YObj.arr [V.sl a6z4 l6z4 c6z4 k6z4] true)) 22 22
 (V.sl a3z2 l3z2 c3z2 k3z2)
 (V.sl (some (h.nx, 0)) 1 (some 1) 1) =
 some (V.sl a l c k, h_1) ∧
 K Out.normal 54
 [V.lb [V.ts cs0Next n0Next none], V.sl a l c k, V.ts cs4 n4 c4, V.i IntKind.i64 x5] h_1)
  (If b7z6
 (∃ (a : Option (Nat × Nat)),
 ∃ (l : Nat),
 ∃ (c : Option Nat),
 ∃ (k : Nat),
 ∃ (h_1 : Heap),
 appendH Try.Y (h.push (YObj.arr [V.sl a6z4 l6z4 c6z4 k6z4] true)) 22 22
 (V.sl a3z2 l3z2 c3z2 k3z2)
 (V.sl (some (h.nx, 0)) 1 (some 1) 1) =
 some (V.sl a l c k, h_1) ∧
 K Out.normal 54
 [V.lb [V.ts cs0Next n0Next none], V.sl a l c k, V.ts cs4 n4 c4, V.i IntKind.i64 x5] h_1)
 (K Out.normal 54
 [V.lb [V.ts cs0Next n0Next none], V.sl a3z2 l3z2 c3z2 k3z2, V.ts cs4 n4 c4, V.i IntKind.i64 x5] h))) := by kernel_rfl
theorem f14_5 (cs0Next : List V) (n0Next : Nat) (c4 : Option Nat) (cs4 : List V) (n4 : Nat) (x5 : Int) (a3z3 : Option (Nat × Nat)) (l3z3 : Nat) (c3z3 : Option Nat) (k3z3 : Nat) (h : Heap) (K : Out → Nat → List V → Heap → Prop) : (codeP Try.Y (Try.Y.loc 14) 100 (((post (flat (loopB (post (flat (bodyOf Try.f14)))))).drop 1)) ⟨mk 54 (([1, 3, 4, 5] : List Nat).zip [V.lb [V.ts cs0Next n0Next none], V.sl a3z3 l3z3 c3z3 k3z3, V.ts cs4 n4 c4, V.i IntKind.i64 x5]), [], h⟩ (VQ [1, 3, 4, 5] K)) =
  (K Out.normal 54
  [V.lb [V.ts cs0Next n0Next none], V.sl a3z3 l3z3 c3z3 k3z3, V.ts cs4 n4 c4,
 V.i IntKind.i64 (IntKind.i64.wrap (x5 + (1 : Int)))]
  h) := by kernel_rfl
theorem f14_6 (a3z2 : Option (Nat × Nat)) (l3z2 : Nat) (c3z2 : Option Nat) (k3z2 : Nat) (h : Heap) (K : Out → Nat → List V → Heap → Prop) : (codeP Try.Y (Try.Y.loc 14) 100 (((post (flat (bodyOf Try.f14))).drop 1)) ⟨mk 54 (([3] : List Nat).zip [V.sl a3z2 l3z2 c3z2 k3z2]), [], h⟩ (VQ [2] K)) =
  (K Out.ret 54 [V.sl a3z2 l3z2 c3z2 k3z2] h) := by kernel_rfl
theorem f13_0 (cs0Next : List V) (n0Next : Nat) (h : Heap) (K : Out → Nat → List V → Heap → Prop) : (codeP Try.Y (Try.Y.loc 13) 100 (pre (flat (bodyOf Try.f13))) ⟨(V.agg [V.ts cs0Next n0Next none] :: List.replicate 36 .undef), [], h⟩ (VQ [1, 4, 9, 10, 11] K)) =
  (∃ (cs : List V),
  ∃ (l : Nat),
 ∃ (c : Option Nat),
 hcells (h.push (YObj.arr [V.ts cs0Next n0Next none] true)) h.nx 0 1 = some [V.ts cs l c] ∧
 ∃ (cs_1 : List V),
 ∃ (l_1 : Nat),
 ∃ (c_1 : Option Nat),
 (PCon Try.Y (10 : Nat) [V.agg [V.ts cs l c]] fun (v : V) => v = V.ts cs_1 l_1 c_1) ∧
 K Out.normal 37
 [V.p (some (h.nx, 0)), V.sl none 0 (some 0) 0,
 V.ts cs_1 l_1 c_1, V.i IntKind.i64 (↑l_1 : Int), V.i IntKind.i64 (0 : Int)]
 (h.push (YObj.arr [V.ts cs0Next n0Next none] true))) := by kernel_rfl
theorem f13_1 (id1 : Nat) (c9 : Option Nat) (cs9 : List V) (n9 : Nat) (x10 : Int) (a4 : Option (Nat × Nat)) (l4 : Nat) (c4 : Option Nat) (k4 : Nat) (x11 : Int) (h : Heap) (K : Out → Nat → List V → Heap → Prop) : (codeP Try.Y (Try.Y.loc 13) 100 ((flat (loopB (post (flat (bodyOf Try.f13)))))) ⟨mk 37 (([1, 4, 9, 10, 11] : List Nat).zip [V.p (some (id1, 0)), V.sl a4 l4 c4 k4, V.ts cs9 n9 c9, V.i IntKind.i64 x10, V.i IntKind.i64 x11]), [], h⟩ (VQ [1, 4, 9, 10, 11] K)) =
  (If (ltI x11 x10)
  (((0 : Int) ≤ x11 ∧ x11 < (↑n9 : Int)) ∧
 ∃ (n : Int),
 takeX 1 (List.drop (x11.toNat * (1 : Nat)) cs9) = some [V.i IntKind.i64 n] ∧
 If (n == (↑l4 : Int))
 (∃ (a : Option (Nat × Nat)),
 ∃ (l : Nat),
 ∃ (c : Option Nat),
 ∃ (k : Nat),
 ∃ (h_1 : Heap),
 appendH Try.Y h 22 22 (V.sl a4 l4 c4 k4)
 (V.ts [V.sl none 0 (some 0) 0] 1 (some 1)) =
 some (V.sl a l c k, h_1) ∧
 SlO a False fun (id off : Nat) =>
 ((0 : Int) ≤ n ∧ n < (↑l : Int)) ∧
 k = 1 ∧
 ∃ (a_1 : Option (Nat × Nat)),
 ∃ (l_1 : Nat),
 ∃ (c_1 : Option Nat),
 ∃ (k_1 : Nat),
 hcells h_1 id (off + n.toNat * (1 : Nat)) 1 =
 some [V.sl a_1 l_1 c_1 k_1] ∧
 ∃ (a_2 : Option (Nat × Nat)),
 ∃ (l_2 : Nat),
 ∃ (c_2 : Option Nat),
 ∃ (k_2 : Nat),
 ∃ (h : Heap),
 appendH Try.Y h_1 26 26 (V.sl a_1 l_1 c_1 k_1)
 (V.ts [V.i IntKind.i64 x11] 1 (some 1)) =
 some (V.sl a_2 l_2 c_2 k_2, h) ∧
 SlO a False fun (id off : Nat) =>
 ((0 : Int) ≤ n ∧ n < (↑l : Int)) ∧
 k = 1 ∧
 ∃ (h_2 : Heap),
 hstore h id (off + n.toNat * (1 : Nat))
 [V.sl a_2 l_2 c_2 k_2] =
 some h_2 ∧
 K Out.normal 37
 [V.p (some (id1, 0)), V.sl a l c k,
 V.ts cs9 n9 c9, V.i IntKind.i64 x10,
 V.i IntKind.i64 (IntKind.i64.wrap (x11 + (1 : Int)))]
 h_2)
 (SlO a4 False fun (id off : Nat) =>
 ((0 : Int) ≤ n ∧ n < (↑l4 : Int)) ∧
 k4 = 1 ∧
 ∃ (a : Option (Nat × Nat)),
 ∃ (l : Nat),
 ∃ (c : Option Nat),
 ∃ (k : Nat),
 hcells h id (off + n.toNat * (1 : Nat)) 1 = some [V.sl a l c k] ∧
 ∃ (a_1 : Option (Nat × Nat)),
 ∃ (l_1 : Nat),
 ∃ (c_1 : Option Nat),
 ∃ (k_1 : Nat),
 ∃ (h_1 : Heap),
 appendH Try.Y h 26 26 (V.sl a l c k)
 (V.ts [V.i IntKind.i64 x11] 1 (some 1)) =
 some (V.sl a_1 l_1 c_1 k_1, h_1) ∧
 SlO a4 False fun (id off : Nat) =>
 ((0 : Int) ≤ n ∧ n < (↑l4 : Int)) ∧
 k4 = 1 ∧
 ∃ (h : Heap),
 hstore h_1 id (off + n.toNat * (1 : Nat)) [V.sl a_1 l_1 c_1 k_1] =
 some h ∧
 K Out.normal 37
 [V.p (some (id1, 0)), V.sl a4 l4 c4 k4, V.ts cs9 n9 c9,
 V.i IntKind.i64 x10,
 V.i IntKind.i64 (IntKind.i64.wrap (x11 + (1 : Int)))]
 h))
  (K (Out.exit 0) 37
 [V.p (some (id1, 0)), V.sl a4 l4 c4 k4, V.ts cs9 n9 c9, V.i IntKind.i64 x10, V.i IntKind.i64 x11] h)) := by kernel_rfl
theorem f13_2 (id1 : Nat) (a4 : Option (Nat × Nat)) (l4 : Nat) (c4 : Option Nat) (k4 : Nat) (h : Heap) (K : Out → Nat → List V → Heap → Prop) : (codeP Try.Y (Try.Y.loc 13) 100 (((post (flat (bodyOf Try.f13))).drop 1)) ⟨mk 37 (([1, 4] : List Nat).zip [V.p (some (id1, 0)), V.sl a4 l4 c4 k4]), [], h⟩ (VQ [2] K)) =
  (Con Try.Y (23 : Nat) [V.sl a4 l4 c4 k4, V.fn (Fn.func (24 : Nat)) [] [V.p (some (id1, 0))]] h
  fun (v : V) (h' : Heap) =>
  ∃ (cs : List V), ∃ (l : Nat), ∃ (c : Option Nat), v = V.ts cs l c ∧ K Out.ret 37 [V.ts cs l c] h') := by kernel_rfl
end Go.Y
