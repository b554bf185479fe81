/- What the pieces of functions come to: printed by program. -/
import Derived.Test.YtdoanndgjipbmaaYTryP
import Derived.Test.YtdoanndgjipbmaaYFun
import Derived.Test.YtdoanndgjipbmaaGCool
import Derived.Test.YtdoanndgjipbmaaGWk
namespace Go.Y
open Go.Proofs
set_option maxRecDepth 100000
set_option maxHeartbeats 0
theorem f7_0 (cs0Next : List V) (n0Next : Nat) (h : Heap) (K : Out → Nat → List V → Heap → Prop) : (codeP Try.Y (Try.Y.loc 7) 100 ((flat (bodyOf Try.f7))) ⟨(V.agg [V.ts cs0Next n0Next none] :: List.replicate 7 .undef), [], h⟩ (VQ [2] K)) =
  (∃ (cs : List V),
  ∃ (l : Nat),
 ∃ (c : Option Nat),
 hcells (h.push (YObj.arr [V.ts cs0Next n0Next none] true)) h.nx 0 1 = some [V.ts cs l c] ∧
 Con Try.Y (19 : Nat) [V.ts cs l c, V.fn (Fn.func (20 : Nat)) [] [V.p (some (h.nx, 0))]]
 (h.push (YObj.arr [V.ts cs0Next n0Next none] true)) fun (v : V) (h' : Heap) =>
 ∃ (b : Bool), v = V.b b ∧ K Out.ret 8 [V.b !b] h') := by kernel_rfl
theorem f19_0 (cs0 : List V) (n0 : Nat) (id1 : Nat) (h : Heap) (K : Out → Nat → List V → Heap → Prop) : (codeP Try.Y (Try.Y.loc 19) 100 ((flat (bodyOf Try.f19))) ⟨(V.ts cs0 n0 none :: V.fn (Fn.func 20) [] [V.p (some (id1, 0))] :: List.replicate 7 .undef), [], h⟩ (VQ [4] K)) =
  (Con Try.Y (27 : Nat) [V.ts cs0 n0 none, V.fn (Fn.func 20) [] [V.p (some (id1, 0))]] h
  fun (v : V) (h' : Heap) => ∃ (n : Int), v = V.i IntKind.i64 n ∧ K Out.ret 9 [V.b (leI (0 : Int) n)] h') := by kernel_rfl
theorem f27_0 (cs0 : List V) (n0 : Nat) (id1 : Nat) (h : Heap) (K : Out → Nat → List V → Heap → Prop) : (codeP Try.Y (Try.Y.loc 27) 100 (pre (flat (bodyOf Try.f27))) ⟨(V.ts cs0 n0 none :: V.fn (Fn.func 20) [] [V.p (some (id1, 0))] :: List.replicate 17 .undef), [], h⟩ (VQ [0, 1, 7, 8] K)) =
  (K Out.normal 19
  [V.ts cs0 n0 none, V.fn (Fn.func 20) [] [V.p (some (id1, 0))], V.i IntKind.i64 (↑n0 : Int),
 V.i IntKind.i64 (0 : Int)]
  h) := by kernel_rfl
theorem f27_1 (cs0 : List V) (n0 : Nat) (id1 : Nat) (x8 : Int) (h : Heap) (K : Out → Nat → List V → Heap → Prop) : (codeP Try.Y (Try.Y.loc 27) 100 ((flat (loopB (post (flat (bodyOf Try.f27)))))) ⟨mk 19 (([0, 1, 7, 8] : List Nat).zip [V.ts cs0 n0 none, V.fn (Fn.func 20) [] [V.p (some (id1, 0))], V.i IntKind.i64 (↑n0 : Int), V.i IntKind.i64 x8]), [], h⟩ (VQ [0, 1, 4, 7, 8] K)) =
  (If (ltI x8 (↑n0 : Int))
  (((0 : Int) ≤ x8 ∧ x8 < (↑n0 : Int)) ∧
 ∃ (cs : List V),
 ∃ (l : Nat),
 ∃ (c : Option Nat),
 takeX 1 (List.drop (x8.toNat * (1 : Nat)) cs0) = some [V.ts cs l c] ∧
 ∃ (b : Bool),
 RCon Try.Y 20 [V.ts cs l c, V.p (some (id1, 0))] h (V.b b) ∧
 If b
 (K Out.ret 19
 [V.ts cs0 n0 none, V.fn (Fn.func 20) [] [V.p (some (id1, 0))],
 V.i IntKind.i64 x8, V.i IntKind.i64 (↑n0 : Int), V.i IntKind.i64 x8]
 h)
 (K Out.normal 19
 [V.ts cs0 n0 none, V.fn (Fn.func 20) [] [V.p (some (id1, 0))], V.undef,
 V.i IntKind.i64 (↑n0 : Int), V.i IntKind.i64 (IntKind.i64.wrap (x8 + (1 : Int)))]
 h))
  (K (Out.exit 0) 19
 [V.ts cs0 n0 none, V.fn (Fn.func 20) [] [V.p (some (id1, 0))], V.undef,
 V.i IntKind.i64 (↑n0 : Int), V.i IntKind.i64 x8]
 h)) := by kernel_rfl
theorem f27_2  (h : Heap) (K : Out → Nat → List V → Heap → Prop) : (codeP Try.Y (Try.Y.loc 27) 100 (((post (flat (bodyOf Try.f27))).drop 1)) ⟨mk 19 (([] : List Nat).zip []), [], h⟩ (VQ [4] K)) =
  (K Out.ret 19 [V.i IntKind.i64 (-1 : Int)] h) := by kernel_rfl
theorem f20_0 (cs0 : List V) (n0 : Nat) (id1 : Nat) (h : Heap) (K : Out → Nat → List V → Heap → Prop) : (codeP Try.Y (Try.Y.loc 20) 100 (pre (flat (bodyOf Try.f20))) ⟨(V.ts cs0 n0 none :: V.p (some (id1, 0)) :: List.replicate 34 .undef), [], h⟩ (VQ [0, 1, 2, 6, 7, 8] K)) =
  (K Out.normal 36
  [V.ts cs0 n0 none, V.p (some (id1, 0)), V.undef, V.ts cs0 n0 none, V.i IntKind.i64 (↑n0 : Int),
 V.i IntKind.i64 (0 : Int)]
  h) := by kernel_rfl
theorem f20_1 (cs0 : List V) (n0 : Nat) (id1 : Nat) (x8 : Int) (h : Heap) (K : Out → Nat → List V → Heap → Prop) : (codeP Try.Y (Try.Y.loc 20) 100 ((flat (loopB (post (flat (bodyOf Try.f20)))))) ⟨mk 36 (([0, 1, 2, 6, 7, 8] : List Nat).zip [V.ts cs0 n0 none, V.p (some (id1, 0)), V.undef, V.ts cs0 n0 none, V.i IntKind.i64 (↑n0 : Int), V.i IntKind.i64 x8]), [], h⟩ (VQ [0, 1, 2, 3, 6, 7, 8] K)) =
  (If (ltI x8 (↑n0 : Int))
  (((0 : Int) ≤ x8 ∧ x8 < (↑n0 : Int)) ∧
 ∃ (n : Int),
 takeX 1 (List.drop (x8.toNat * (1 : Nat)) cs0) = some [V.i IntKind.i64 n] ∧
 If (ltI n (0 : Int))
 (K Out.ret 36
 [V.ts cs0 n0 none, V.p (some (id1, 0)), V.undef, V.b true, V.ts cs0 n0 none,
 V.i IntKind.i64 (↑n0 : Int), V.i IntKind.i64 x8]
 h)
 (∃ (cs : List V),
 ∃ (l : Nat),
 ∃ (c : Option Nat),
 hcells h id1 0 1 = some [V.ts cs l c] ∧
 If (leI (↑l : Int) n)
 (K Out.ret 36
 [V.ts cs0 n0 none, V.p (some (id1, 0)), V.undef, V.b true, V.ts cs0 n0 none,
 V.i IntKind.i64 (↑n0 : Int), V.i IntKind.i64 x8]
 h)
 (If (ltI (0 : Int) x8)
 (((0 : Int) ≤ IntKind.i64.wrap (x8 - (1 : Int)) ∧
 IntKind.i64.wrap (x8 - (1 : Int)) < (↑n0 : Int)) ∧
 ∃ (n_1 : Int),
 takeX 1 (List.drop ((IntKind.i64.wrap (x8 - (1 : Int))).toNat * (1 : Nat)) cs0) =
 some [V.i IntKind.i64 n_1] ∧
 If (leI n n_1)
 (K Out.ret 36
 [V.ts cs0 n0 none, V.p (some (id1, 0)), V.undef, V.b true, V.ts cs0 n0 none,
 V.i IntKind.i64 (↑n0 : Int), V.i IntKind.i64 x8]
 h)
 (K Out.normal 36
 [V.ts cs0 n0 none, V.p (some (id1, 0)), V.undef, V.undef, V.ts cs0 n0 none,
 V.i IntKind.i64 (↑n0 : Int), V.i IntKind.i64 (IntKind.i64.wrap (x8 + (1 : Int)))]
 h))
 (K Out.normal 36
 [V.ts cs0 n0 none, V.p (some (id1, 0)), V.undef, V.undef, V.ts cs0 n0 none,
 V.i IntKind.i64 (↑n0 : Int), V.i IntKind.i64 (IntKind.i64.wrap (x8 + (1 : Int)))]
 h))))
  (K (Out.exit 0) 36
 [V.ts cs0 n0 none, V.p (some (id1, 0)), V.undef, V.undef, V.ts cs0 n0 none, V.i IntKind.i64 (↑n0 : Int),
 V.i IntKind.i64 x8]
 h)) := by kernel_rfl
theorem f20_2  (h : Heap) (K : Out → Nat → List V → Heap → Prop) : (codeP Try.Y (Try.Y.loc 20) 100 (((post (flat (bodyOf Try.f20))).drop 1)) ⟨mk 36 (([] : List Nat).zip []), [], h⟩ (VQ [3] K)) =
  (K Out.ret 36 [V.b false] h) := by kernel_rfl
theorem f18_0 (cs0Next : List V) (n0Next : Nat) (x1 : Int) (h : Heap) (K : Out → Nat → List V → Heap → Prop) : (codeP Try.Y (Try.Y.loc 18) 100 (pre (flat (bodyOf Try.f18))) ⟨(V.agg [V.ts cs0Next n0Next none] :: V.i IntKind.i64 x1 :: List.replicate 91 .undef), [], h⟩ (VQ [2, 4, 5, 6] K)) =
  (∃ (b : Bool),
  (PCon Try.Y (8 : Nat) [V.agg [V.ts cs0Next n0Next none]] fun (v : V) => v = V.b b) ∧
 If (!b)
 (K Out.ret 93
 [V.lb [V.ts cs0Next n0Next none], V.sl none 0 (some 0) 0, V.undef, V.undef] h)
 (If (ltI x1 (0 : Int))
 (K Out.ret 93
 [V.lb [V.ts cs0Next n0Next none], V.sl none 0 (some 0) 0, V.undef, V.undef] h)
 (If (leI (↑n0Next : Int) x1)
 (K Out.ret 93
 [V.lb [V.ts cs0Next n0Next none], V.sl none 0 (some 0) 0, V.undef, V.undef] h)
 (((0 : Int) ≤ (↑n0Next : Int) ∧
 (↑n0Next : Int) ≤ (↑n0Next : Int) ∧
 (↑n0Next : Int) ≤ (↑most : Int) ∧ (↑n0Next : Int) * (↑(1 : Nat) : Int) ≤ (↑most : Int)) ∧
 ((0 : Int) ≤ x1 ∧ x1 < (↑(↑n0Next : Int).toNat : Int)) ∧
 1 = 1 ∧
 ∃ (h_1 : Heap),
 hstore (h.push (YObj.arr (List.replicate (↑n0Next : Int).toNat [V.b false]).flatten true)) h.nx
 ((0 : Nat) + x1.toNat * (1 : Nat)) [V.b true] =
 some h_1 ∧
 K Out.normal 93
 [V.lb [V.ts cs0Next n0Next none], V.sl none 0 (some 0) 0,
 V.sl (some (h.nx, 0)) (↑n0Next : Int).toNat (some (↑n0Next : Int).toNat) 1,
 V.b true]
 h_1)))) := by kernel_rfl
theorem f18_1 (cs0Next : List V) (n0Next : Nat) (id5 : Nat) (l5 : Nat) (c5 : Nat) (b6 : Bool) (h : Heap) (K : Out → Nat → List V → Heap → Prop) : (codeP Try.Y (Try.Y.loc 18) 100 (pre (flat (loopB (post (flat (bodyOf Try.f18)))))) ⟨mk 93 (([2, 4, 5, 6] : List Nat).zip [V.lb [V.ts cs0Next n0Next none], V.sl none 0 (some 0) 0, V.sl (some (id5, 0)) l5 (some c5) 1, V.b b6]), [], h⟩ (VQ [2, 4, 5] K)) =
  (If b6
  (K Out.normal 93
 [V.lb [V.ts cs0Next n0Next none], V.sl none 0 (some 0) 0,
 V.sl (some (id5, 0)) l5 (some c5) 1]
 h)
  (K (Out.exit 0) 93
 [V.lb [V.ts cs0Next n0Next none], V.sl none 0 (some 0) 0,
 V.sl (some (id5, 0)) l5 (some c5) 1]
 h)) := by kernel_rfl
theorem f18_2 (cs0Next : List V) (n0Next : Nat) (id5 : Nat) (l5 : Nat) (c5 : Nat) (h : Heap) (K : Out → Nat → List V → Heap → Prop) : (codeP Try.Y (Try.Y.loc 18) 100 (pre (flat (blockB (post (flat (loopB (post (flat (bodyOf Try.f18))))))))) ⟨mk 93 (([2, 4, 5] : List Nat).zip [V.lb [V.ts cs0Next n0Next none], V.sl none 0 (some 0) 0, V.sl (some (id5, 0)) l5 (some c5) 1]), [], h⟩ (VQ [2, 4, 5, 6, 7] K)) =
  (K Out.normal 93
  [V.lb [V.ts cs0Next n0Next none], V.sl none 0 (some 0) 0,
 V.sl (some (id5, 0)) l5 (some c5) 1, V.b false, V.i IntKind.i64 (0 : Int)]
  h) := by kernel_rfl
theorem f18_3 (cs0Next : List V) (n0Next : Nat) (id5 : Nat) (l5 : Nat) (c5 : Nat) (b6z5 : Bool) (x7 : Int) (h : Heap) (K : Out → Nat → List V → Heap → Prop) : (codeP Try.Y (Try.Y.loc 18) 100 (pre (flat (loopB (post (flat (blockB (post (flat (loopB (post (flat (bodyOf Try.f18)))))))))))) ⟨mk 93 (([2, 4, 5, 6, 7] : List Nat).zip [V.lb [V.ts cs0Next n0Next none], V.sl none 0 (some 0) 0, V.sl (some (id5, 0)) l5 (some c5) 1, V.b b6z5, V.i IntKind.i64 x7]), [], h⟩ (VQ [2, 4, 5, 6, 7] K)) =
  (If (ltI x7 (↑n0Next : Int))
  (K Out.normal 93
 [V.lb [V.ts cs0Next n0Next none], V.sl none 0 (some 0) 0,
 V.sl (some (id5, 0)) l5 (some c5) 1, V.b b6z5, V.i IntKind.i64 x7]
 h)
  (K (Out.exit 2) 93
 [V.lb [V.ts cs0Next n0Next none], V.sl none 0 (some 0) 0,
 V.sl (some (id5, 0)) l5 (some c5) 1, V.b b6z5, V.i IntKind.i64 x7]
 h)) := by kernel_rfl
theorem f18_4 (cs0Next : List V) (n0Next : Nat) (id5 : Nat) (l5 : Nat) (c5 : Nat) (b6z5 : Bool) (x7 : Int) (h : Heap) (K : Out → Nat → List V → Heap → Prop) : (codeP Try.Y (Try.Y.loc 18) 100 (pre (flat (blockB (post (flat (loopB (post (flat (blockB (post (flat (loopB (post (flat (bodyOf Try.f18))))))))))))))) ⟨mk 93 (([2, 4, 5, 6, 7] : List Nat).zip [V.lb [V.ts cs0Next n0Next none], V.sl none 0 (some 0) 0, V.sl (some (id5, 0)) l5 (some c5) 1, V.b b6z5, V.i IntKind.i64 x7]), [], h⟩ (VQ [2, 4, 5, 6, 7, 8] K)) =
  (K Out.normal 93
  [V.lb [V.ts cs0Next n0Next none], V.sl none 0 (some 0) 0,
 V.sl (some (id5, 0)) l5 (some c5) 1, V.b b6z5, V.i IntKind.i64 x7, V.i IntKind.i64 (0 : Int)]
  h) := by kernel_rfl
theorem f18_5 (cs0Next : List V) (n0Next : Nat) (id5 : Nat) (l5 : Nat) (c5 : Nat) (b6z5 : Bool) (x7 : Int) (x8z4 : Int) (h : Heap) (K : Out → Nat → List V → Heap → Prop) : (codeP Try.Y (Try.Y.loc 18) 100 ((flat (loopB (post (flat (blockB (post (flat (loopB (post (flat (blockB (post (flat (loopB (post (flat (bodyOf Try.f18)))))))))))))))))) ⟨mk 93 (([2, 4, 5, 6, 7, 8] : List Nat).zip [V.lb [V.ts cs0Next n0Next none], V.sl none 0 (some 0) 0, V.sl (some (id5, 0)) l5 (some c5) 1, V.b b6z5, V.i IntKind.i64 x7, V.i IntKind.i64 x8z4]), [], h⟩ (VQ [2, 4, 5, 6, 7, 8] K)) =
  (((0 : Int) ≤ x7 ∧ x7 < (↑l5 : Int)) ∧
  1 = 1 ∧
 ∃ (b : Bool),
 hcells h id5 ((0 : Nat) + x7.toNat * (1 : Nat)) 1 = some [V.b b] ∧
 If b
 (((0 : Int) ≤ x7 ∧ x7 < (↑n0Next : Int)) ∧
 ∃ (cs : List V),
 ∃ (l : Nat),
 ∃ (c : Option Nat),
 takeX 1 (List.drop (x7.toNat * (1 : Nat)) cs0Next) = some [V.ts cs l c] ∧
 If (ltI x8z4 (↑l : Int))
 (((0 : Int) ≤ x7 ∧ x7 < (↑n0Next : Int)) ∧
 ∃ (cs : List V),
 ∃ (l : Nat),
 ∃ (c : Option Nat),
 takeX 1 (List.drop (x7.toNat * (1 : Nat)) cs0Next) = some [V.ts cs l c] ∧
 ((0 : Int) ≤ x8z4 ∧ x8z4 < (↑l : Int)) ∧
 ∃ (n : Int),
 takeX 1 (List.drop (x8z4.toNat * (1 : Nat)) cs) =
 some [V.i IntKind.i64 n] ∧
 ((0 : Int) ≤ n ∧ n < (↑l5 : Int)) ∧
 1 = 1 ∧
 ∃ (b : Bool),
 hcells h id5 ((0 : Nat) + n.toNat * (1 : Nat)) 1 = some [V.b b] ∧
 If (!b)
 (((0 : Int) ≤ x7 ∧ x7 < (↑n0Next : Int)) ∧
 ∃ (cs : List V),
 ∃ (l : Nat),
 ∃ (c : Option Nat),
 takeX 1 (List.drop (x7.toNat * (1 : Nat)) cs0Next) =
 some [V.ts cs l c] ∧
 ((0 : Int) ≤ x8z4 ∧ x8z4 < (↑l : Int)) ∧
 ∃ (n : Int),
 takeX 1
 (List.drop (x8z4.toNat * (1 : Nat)) cs) =
 some [V.i IntKind.i64 n] ∧
 ((0 : Int) ≤ n ∧ n < (↑l5 : Int)) ∧
 1 = 1 ∧
 ∃ (h_1 : Heap),
 hstore h id5 ((0 : Nat) + n.toNat * (1 : Nat))
 [V.b true] =
 some h_1 ∧
 K Out.normal 93
 [V.lb [V.ts cs0Next n0Next none],
 V.sl none 0 (some 0)
 0,
 V.sl (some (id5, 0)) l5 (some c5)
 1,
 V.b true, V.i IntKind.i64 x7,
 V.i IntKind.i64
 (IntKind.i64.wrap (x8z4 + (1 : Int)))]
 h_1)
 (K Out.normal 93
 [V.lb [V.ts cs0Next n0Next none],
 V.sl none 0 (some 0) 0,
 V.sl (some (id5, 0)) l5 (some c5) 1, V.b b6z5,
 V.i IntKind.i64 x7,
 V.i IntKind.i64 (IntKind.i64.wrap (x8z4 + (1 : Int)))]
 h))
 (K (Out.exit 4) 93
 [V.lb [V.ts cs0Next n0Next none], V.sl none 0 (some 0) 0,
 V.sl (some (id5, 0)) l5 (some c5) 1, V.b b6z5, V.i IntKind.i64 x7,
 V.i IntKind.i64 x8z4]
 h))
 (K (Out.exit 4) 93
 [V.lb [V.ts cs0Next n0Next none], V.sl none 0 (some 0) 0,
 V.sl (some (id5, 0)) l5 (some c5) 1, V.b b6z5, V.i IntKind.i64 x7, V.i IntKind.i64 x8z4]
 h)) := by kernel_rfl
theorem f18_6 (cs0Next : List V) (n0Next : Nat) (id5 : Nat) (l5 : Nat) (c5 : Nat) (x7 : Int) (b6z6 : Bool) (h : Heap) (K : Out → Nat → List V → Heap → Prop) : (codeP Try.Y (Try.Y.loc 18) 100 (((post (flat (loopB (post (flat (blockB (post (flat (loopB (post (flat (bodyOf Try.f18)))))))))))).drop 1)) ⟨mk 93 (([2, 4, 5, 6, 7] : List Nat).zip [V.lb [V.ts cs0Next n0Next none], V.sl none 0 (some 0) 0, V.sl (some (id5, 0)) l5 (some c5) 1, V.b b6z6, V.i IntKind.i64 x7]), [], h⟩ (VQ [2, 4, 5, 6, 7] K)) =
  (K Out.normal 93
  [V.lb [V.ts cs0Next n0Next none], V.sl none 0 (some 0) 0,
 V.sl (some (id5, 0)) l5 (some c5) 1, V.b b6z6,
 V.i IntKind.i64 (IntKind.i64.wrap (x7 + (1 : Int)))]
  h) := by kernel_rfl
theorem f18_7 (id5 : Nat) (l5 : Nat) (c5 : Nat) (h : Heap) (K : Out → Nat → List V → Heap → Prop) : (codeP Try.Y (Try.Y.loc 18) 100 (pre ((post (flat (bodyOf Try.f18))).drop 1)) ⟨mk 93 (([5] : List Nat).zip [V.sl (some (id5, 0)) l5 (some c5) 1]), [], h⟩ (VQ [5, 9, 10] K)) =
  (K Out.normal 93
  [V.sl (some (id5, 0)) l5 (some c5) 1, V.sl none 0 (some 0) 0,
 V.i IntKind.i64 (0 : Int)]
  h) := by kernel_rfl
theorem f18_8 (id5 : Nat) (l5 : Nat) (c5 : Nat) (a9z2 : Option (Nat × Nat)) (l9z2 : Nat) (c9z2 : Option Nat) (k9z2 : Nat) (x10z2 : Int) (h : Heap) (K : Out → Nat → List V → Heap → Prop) : (codeP Try.Y (Try.Y.loc 18) 100 ((flat (loopB (post ((post (flat (bodyOf Try.f18))).drop 1))))) ⟨mk 93 (([5, 9, 10] : List Nat).zip [V.sl (some (id5, 0)) l5 (some c5) 1, V.sl a9z2 l9z2 c9z2 k9z2, V.i IntKind.i64 x10z2]), [], h⟩ (VQ [5, 9, 10] K)) =
  (If (ltI x10z2 (↑l5 : Int))
  (((0 : Int) ≤ x10z2 ∧ x10z2 < (↑l5 : Int)) ∧
 1 = 1 ∧
 ∃ (b : Bool),
 hcells h id5 ((0 : Nat) + x10z2.toNat * (1 : Nat)) 1 = some [V.b b] ∧
 If b
 (∃ (a : Option (Nat × Nat)),
 ∃ (l : Nat),
 ∃ (c : Option Nat),
 ∃ (k : Nat),
 ∃ (h_1 : Heap),
 appendH Try.Y h 26 26 (V.sl a9z2 l9z2 c9z2 k9z2)
 (V.ts [V.i IntKind.i64 x10z2] 1 (some 1)) =
 some (V.sl a l c k, h_1) ∧
 K Out.normal 93
 [V.sl (some (id5, 0)) l5 (some c5) 1, V.sl a l c k,
 V.i IntKind.i64 (IntKind.i64.wrap (x10z2 + (1 : Int)))]
 h_1)
 (K Out.normal 93
 [V.sl (some (id5, 0)) l5 (some c5) 1, V.sl a9z2 l9z2 c9z2 k9z2,
 V.i IntKind.i64 (IntKind.i64.wrap (x10z2 + (1 : Int)))]
 h))
  (K (Out.exit 6) 93
 [V.sl (some (id5, 0)) l5 (some c5) 1, V.sl a9z2 l9z2 c9z2 k9z2, V.i IntKind.i64 x10z2] h)) := by kernel_rfl
theorem f18_9 (a9z2 : Option (Nat × Nat)) (l9z2 : Nat) (c9z2 : Option Nat) (k9z2 : Nat) (h : Heap) (K : Out → Nat → List V → Heap → Prop) : (codeP Try.Y (Try.Y.loc 18) 100 (((post ((post (flat (bodyOf Try.f18))).drop 1)).drop 1)) ⟨mk 93 (([9] : List Nat).zip [V.sl a9z2 l9z2 c9z2 k9z2]), [], h⟩ (VQ [4] K)) =
  (K Out.ret 93 [V.sl a9z2 l9z2 c9z2 k9z2] h) := by kernel_rfl
end Go.Y

/- May: may a graph be? -/
namespace Go.Y
open Go.Proofs
set_option maxRecDepth 100000

def ints (l : List Int) : List V := l.map (V.i .i64)
def encR (l : List Int) : V := .ts (ints l) l.length none
def rowsV (G : List (List Int)) : List V := G.map encR
def encG (G : List (List Int)) : V := .agg [.ts (rowsV G) G.length none]

/-- Is a row in order, and within the graph? -/
def rowOK (n : Nat) : Option Int → List Int → Bool
  | _, [] => true
  | p, x :: r => decide (0 ≤ x) && decide (x < (n : Nat)) && (match p with | none => true | some y => decide (y < x)) && rowOK n (some x) r
def mayG (G : List (List Int)) : Bool := G.all (rowOK G.length none)

theorem ints_at {l : List Int} {i : Nat} {x : Int} (h : l[i]? = some x) : takeX 1 ((ints l).drop (((i : Nat) : Int).toNat * 1)) = some [.i .i64 x] := by
  rw [show ((i : Nat) : Int).toNat * 1 = i by simp]
  have hlt := (List.getElem?_eq_some_iff.1 h).1
  have hl : (ints l)[i]? = some (.i .i64 x) := by simp [ints, h]
  have hlt2 := (List.getElem?_eq_some_iff.1 hl).1
  have he := (List.getElem?_eq_some_iff.1 hl).2
  rw [List.drop_eq_getElem_cons hlt2, he]; rfl
theorem rowsV_at {G : List (List Int)} {i : Nat} {r : List Int} (h : G[i]? = some r) : takeX 1 ((rowsV G).drop (((i : Nat) : Int).toNat * 1)) = some [encR r] := by
  rw [show ((i : Nat) : Int).toNat * 1 = i by simp]
  have hl : (rowsV G)[i]? = some (encR r) := by simp [rowsV, h]
  have hlt2 := (List.getElem?_eq_some_iff.1 hl).1
  have he := (List.getElem?_eq_some_iff.1 hl).2
  rw [List.drop_eq_getElem_cons hlt2, he]; rfl

/-- The one ahead. -/
def prevI (l : List Int) (i : Nat) : Option Int := match i with | 0 => none | i + 1 => l[i]?

theorem rowOK_step {n : Nat} {l : List Int} {i : Nat} {x : Int} (h : l[i]? = some x) : rowOK n (prevI l i) (l.drop i) = (decide (0 ≤ x) && decide (x < (n : Nat)) && (match prevI l i with | none => true | some y => decide (y < x)) && rowOK n (prevI l (i + 1)) (l.drop (i + 1))) := by
  have hlt := (List.getElem?_eq_some_iff.1 h).1
  have he := (List.getElem?_eq_some_iff.1 h).2
  rw [List.drop_eq_getElem_cons hlt, he]
  simp only [rowOK, prevI, h]

def I20 (l : List Int) (n : Nat) (id1 : Nat) (h : Heap) (m : Nat) (vs : List V) (h' : Heap) : Prop :=
  ∃ i : Nat, vs = [encR l, .p (some (id1, 0)), .undef, encR l, .i .i64 (l.length : Nat), .i .i64 (i : Nat)] ∧ h' = h ∧ m = l.length - i ∧ i ≤ l.length ∧ rowOK n (prevI l i) (l.drop i) = rowOK n none l

theorem may1_con {l : List Int} {gcs : List V} {n id1 : Nat} {gc : Option Nat} {wr : Bool} {h : Heap} (hl : l.length < 2 ^ 30) (hg : h.get id1 = some (.arr [.ts gcs n gc] wr)) :
    Con Try.Y 20 [encR l, .p (some (id1, 0))] h fun v k => v = .b (!rowOK n none l) ∧ k = h := by
  refine con_of Try.Yok (fn := Try.f20) (by kernel_rfl) (by kernel_rfl) (show TriL Try.Y _ _ (FinS Try.Y Try.f20 fun v k => v = .b (!rowOK n none l) ∧ k = h) from ?_)
  refine pre_rule Try.Yok (n := 36) (loc := Try.Y.loc 20) 100 [0, 1, 2, 6, 7, 8] (by kernel_rfl) ?_
  refine Eq.mpr (f20_0 (ints l) l.length id1 h _) ?_
  refine ⟨rfl, loop2 [0, 1, 2, 6, 7, 8] [0, 1, 2, 3, 6, 7, 8] rfl (by kernel_rfl) (I20 l n id1 h) l.length mk_len ⟨0, rfl, rfl, by omega, by omega, rfl⟩ ?_⟩
  rintro m vs h' ⟨i, rfl, rfl, rfl, hi, hI⟩
  refine all_rule Try.Yok (loc := Try.Y.loc 20) 100 [0, 1, 2, 3, 6, 7, 8] ?_
  refine Eq.mpr (f20_1 (ints l) l.length id1 (i : Nat) h' _) ?_
  have bad : ∀ {t : V}, rowOK n (prevI l i) (l.drop i) = false → RoundW Try.Y 36 [0, 1, 2, 3, 6, 7, 8] [0, 1, 2, 6, 7, 8] (I20 l n id1 h') (l.length - i) (loopId (post (flat (bodyOf Try.f20)))) ((post (flat (bodyOf Try.f20))).drop 1) (FinS Try.Y Try.f20 fun v k => v = .b (!rowOK n none l) ∧ k = h') .ret 36 [.ts (ints l) l.length none, .p (some (id1, 0)), t, .b true, .ts (ints l) l.length none, .i .i64 (l.length : Nat), .i .i64 (i : Nat)] h' := fun hb => by
    refine fin_at (.inr rfl) rfl ⟨?_, rfl⟩
    rw [← hI, hb]; rfl
  refine if_lt_nat (fun hlt => ?_) (fun hge => ?_)
  · obtain ⟨x, hx⟩ : ∃ x, l[i]? = some x := ⟨_, List.getElem?_eq_getElem hlt⟩
    have hst := rowOK_step (n := n) hx
    refine ⟨⟨by omega, by omega⟩, x, ints_at hx, if_lt (fun h0 => bad ?_) (fun h0 => ⟨gcs, n, gc, ?_, if_le (fun h1 => bad ?_) (fun h1 => ?_)⟩)⟩
    · rw [hst, decide_eq_false (by omega)]; rfl
    · simp [hcells, hg, takeX]
    · rw [hst, decide_eq_false (show ¬ x < (n : Nat) by omega)]; simp
    · have next : (match prevI l i with | none => true | some y => decide (y < x)) = true → rowOK n (prevI l (i + 1)) (l.drop (i + 1)) = rowOK n none l := fun hp => by
        rw [hst, decide_eq_true h0, decide_eq_true h1, hp] at hI
        simpa using hI
      refine if_pos_nat (fun hpos => ?_) (fun hz => ?_)
      · obtain ⟨j, rfl⟩ : ∃ j, i = j + 1 := ⟨i - 1, by omega⟩
        obtain ⟨y, hy⟩ : ∃ y, l[j]? = some y := ⟨_, List.getElem?_eq_getElem (by omega)⟩
        have hw : IntKind.i64.wrap (((j + 1 : Nat) : Int) - (1 : Int)) = ((j : Nat) : Int) := by rw [wrap_ok (by omega) (by omega)]; omega
        have hp : prevI l (j + 1) = some y := hy
        rw [hw]
        refine ⟨⟨by omega, by omega⟩, y, ints_at hy, if_le (fun h2 => bad ?_) (fun h2 => ?_)⟩
        · rw [hst, hp]; simp; omega
        · exact ⟨rfl, l.length - (j + 1 + 1), by omega, j + 1 + 1, by rw [wrap_succ (by omega)]; rfl, rfl, rfl, by omega, next (by rw [hp]; simpa using h2)⟩
      · subst hz
        exact ⟨rfl, l.length - (0 + 1), by omega, 0 + 1, by rw [wrap_succ (by omega)]; rfl, rfl, rfl, by omega, next rfl⟩
  · refine roundW_exit [] (by kernel_rfl) rfl rfl ?_
    refine end_rule Try.Yok (loc := Try.Y.loc 20) 100 [3] ?_
    refine Eq.mpr (f20_2 h' _) ?_
    refine ⟨.inr rfl, _, rfl, ?_, rfl⟩
    have : i = l.length := by omega
    rw [← hI, this, List.drop_length]; rfl
end Go.Y

/- May, whole; and lists of numbers that are the same. -/
namespace Go.Y
open Go.Proofs
set_option maxRecDepth 100000

theorem hcells_one {h : Heap} {id : Nat} {v : V} {wr : Bool} (hg : h.get id = some (.arr [v] wr)) : hcells h id 0 1 = some [v] := by simp [hcells, hg, takeX]

def I27 (G : List (List Int)) (id1 : Nat) (h : Heap) (m : Nat) (vs : List V) (h' : Heap) : Prop :=
  ∃ i : Nat, vs = [.ts (rowsV G) G.length none, .fn (.func 20) [] [.p (some (id1, 0))], .i .i64 (G.length : Nat), .i .i64 (i : Nat)] ∧ h' = h ∧ m = G.length - i ∧ i ≤ G.length ∧ (G.drop i).all (rowOK G.length none) = mayG G

theorem idx20_con {G : List (List Int)} {id1 : Nat} {h : Heap} {wr : Bool} (hG : G.length < 2 ^ 30) (hl : ∀ l ∈ G, l.length < 2 ^ 30) (hg : h.get id1 = some (.arr [.ts (rowsV G) G.length none] wr)) :
    Con Try.Y 27 [.ts (rowsV G) G.length none, .fn (.func 20) [] [.p (some (id1, 0))]] h fun v k => (∃ n : Int, v = .i .i64 n ∧ decide (0 ≤ n) = !mayG G) ∧ k = h := by
  refine con_of Try.Yok (fn := Try.f27) (by kernel_rfl) (by kernel_rfl) (show TriL Try.Y _ _ (FinS Try.Y Try.f27 fun v k => (∃ n : Int, v = .i .i64 n ∧ decide (0 ≤ n) = !mayG G) ∧ k = h) from ?_)
  refine pre_rule Try.Yok (n := 19) (loc := Try.Y.loc 27) 100 [0, 1, 7, 8] (by kernel_rfl) ?_
  refine Eq.mpr (f27_0 (rowsV G) G.length id1 h _) ?_
  refine ⟨rfl, loop2 [0, 1, 7, 8] [0, 1, 4, 7, 8] rfl (by kernel_rfl) (I27 G id1 h) G.length mk_len ⟨0, rfl, rfl, by omega, by omega, rfl⟩ ?_⟩
  rintro m vs h' ⟨i, rfl, rfl, rfl, hi, hI⟩
  refine all_rule Try.Yok (loc := Try.Y.loc 27) 100 [0, 1, 4, 7, 8] ?_
  refine Eq.mpr (f27_1 (rowsV G) G.length id1 (i : Nat) h' _) ?_
  refine if_lt_nat (fun hlt => ?_) (fun hge => ?_)
  · obtain ⟨r, hr⟩ : ∃ r, G[i]? = some r := ⟨_, List.getElem?_eq_getElem hlt⟩
    have hd : G.drop i = r :: G.drop (i + 1) := by
      rw [List.drop_eq_getElem_cons hlt, (List.getElem?_eq_some_iff.1 hr).2]
    rw [hd, List.all_cons] at hI
    refine ⟨⟨by omega, by omega⟩, _, _, _, rowsV_at hr, !rowOK G.length none r, ⟨h', may1_con (hl r (List.mem_of_getElem? hr)) hg, fun _ _ => rfl, fun _ hp => hp⟩, if_mk (fun hb => ?_) (fun hb => ?_)⟩
    · refine fin_at (.inr rfl) rfl ⟨⟨_, rfl, ?_⟩, rfl⟩
      have : rowOK G.length none r = false := by simpa using hb
      rw [← hI, this]; simp
    · have : rowOK G.length none r = true := by simpa using hb
      rw [this, Bool.true_and] at hI
      exact ⟨rfl, G.length - (i + 1), by omega, i + 1, by rw [wrap_succ (by omega)]; rfl, rfl, rfl, by omega, hI⟩
  · refine roundW_exit [] (by kernel_rfl) rfl rfl ?_
    refine end_rule Try.Yok (loc := Try.Y.loc 27) 100 [4] ?_
    refine Eq.mpr (f27_2 h' _) ?_
    refine ⟨.inr rfl, _, rfl, ⟨_, rfl, ?_⟩, rfl⟩
    have : i = G.length := by omega
    rw [← hI, this, List.drop_length]; rfl

theorem may_con {G : List (List Int)} (hG : G.length < 2 ^ 30) (hl : ∀ l ∈ G, l.length < 2 ^ 30) : PCon Try.Y 7 [encG G] (· = .b (mayG G)) := by
  refine pcon_of Try.Yok (fn := Try.f7) (by kernel_rfl) (by kernel_rfl) rfl ?_
  refine end_rule Try.Yok (loc := Try.Y.loc 7) 100 [2] ?_
  refine Eq.mpr (f7_0 (rowsV G) G.length .empty _) ?_
  have hg : (Heap.empty.push (YObj.arr [V.ts (rowsV G) G.length none] true)).get 0 = some (.arr [V.ts (rowsV G) G.length none] true) := by rw [Heap.get_push]; rfl
  refine ⟨_, _, _, hcells_one hg, ?_⟩
  refine Con.mono (Q := fun v k => v = .b (!mayG G) ∧ k = Heap.empty.push (YObj.arr [V.ts (rowsV G) G.length none] true)) ?_ fun v k ⟨hv, _⟩ => ⟨!mayG G, hv, finV1 (.inr rfl) rfl (.b _) (by simp)⟩
  refine con_of Try.Yok (fn := Try.f19) (by kernel_rfl) (by kernel_rfl) (show TriL Try.Y _ _ (FinS Try.Y Try.f19 fun v k => v = .b (!mayG G) ∧ k = Heap.empty.push (YObj.arr [V.ts (rowsV G) G.length none] true)) from ?_)
  refine end_rule Try.Yok (loc := Try.Y.loc 19) 100 [4] ?_
  refine Eq.mpr (f19_0 (rowsV G) G.length 0 (Heap.empty.push (YObj.arr [V.ts (rowsV G) G.length none] true)) _) ?_
  refine (idx20_con hG hl hg).mono fun v k ⟨⟨n, hv, hn⟩, hk⟩ => ⟨n, hv, .inr rfl, _, rfl, ?_, hk⟩
  rw [← hn]; rfl
end Go.Y
