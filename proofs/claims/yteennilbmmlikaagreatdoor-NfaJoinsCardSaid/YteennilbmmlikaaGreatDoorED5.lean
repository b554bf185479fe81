/- What the pieces of functions come to: printed by program. -/
import Derived.Test.YteennilbmmlikaaGreatDoorYTryzP
import Derived.Test.YteennilbmmlikaaGreatDoorYLoop
namespace Go.Y
open Go.Proofs
set_option maxRecDepth 100000
set_option maxHeartbeats 0
theorem f27_0 (id : Nat) (x : Int) (h : Heap) (K : KT) : (codeP Tryz.Y (Tryz.Y.loc 27) 100 (pre (flat (bodyOf Tryz.f27))) ⟨(V.p (some (id, 0)) :: V.i .i64 x :: List.replicate 31 .undef), [], h⟩ (VQ [0, 1, 4, 5] K)) =
  (Con Tryz.Y (67 : Nat) [V.p (some (id, 0)), V.i IntKind.i64 x] h fun (v : V) (h' : Heap) =>
  ∃ (n : Int),
 ∃ (n_1 : Int),
 ∃ (n_2 : Int),
 ∃ (n_3 : Int),
 ∃ (n_4 : Int),
 ∃ (cs : List V),
 ∃ (l : Nat),
 ∃ (c : Option Nat),
 ∃ (n_5 : Int),
 ∃ (n_6 : Int),
 ∃ (n_7 : Int),
 v =
 V.agg
 [V.i IntKind.i64 n, V.i IntKind.u64 n_1, V.i IntKind.u64 n_2, V.i IntKind.u64 n_3,
 V.i IntKind.u64 n_4, V.ts cs l c, V.i IntKind.i64 n_5, V.i IntKind.i64 n_6,
 V.i IntKind.i64 n_7] ∧
 K Out.normal 33
 [V.p (some (id, 0)), V.i IntKind.i64 x,
 V.lb
 [V.i IntKind.i64 (0 : Int), V.i IntKind.u64 (0 : Int), V.i IntKind.u64 (0 : Int),
 V.i IntKind.u64 (0 : Int), V.i IntKind.u64 (0 : Int),
 V.sl none 0 (some 0) 0, V.i IntKind.i64 (0 : Int),
 V.i IntKind.i64 (0 : Int), V.i IntKind.i64 (0 : Int)],
 V.sl (some (h'.nx, 0)) 1 (some 1) 9]
 (h'.push
 (YObj.arr
 [V.i IntKind.i64 n, V.i IntKind.u64 n_1, V.i IntKind.u64 n_2, V.i IntKind.u64 n_3,
 V.i IntKind.u64 n_4, V.ts cs l c, V.i IntKind.i64 n_5, V.i IntKind.i64 n_6,
 V.i IntKind.i64 n_7]
 true))) := by kernel_rfl
theorem f27_1 (id : Nat) (x : Int) (j : Nat) (l : Nat) (c : Option Nat) (k : Nat) (h : Heap) (K : KT) : (codeP Tryz.Y (Tryz.Y.loc 27) 100 ((flat (loopB (post (flat (bodyOf Tryz.f27)))))) ⟨mk 33 (([0, 1, 4, 5] : List Nat).zip [V.p (some (id, 0)), V.i IntKind.i64 x, V.lb [V.i IntKind.i64 0, V.i IntKind.u64 0, V.i IntKind.u64 0, V.i IntKind.u64 0, V.i IntKind.u64 0, V.sl none 0 (some 0) 0, V.i IntKind.i64 0, V.i IntKind.i64 0, V.i IntKind.i64 0], V.sl (some (j, 0)) l c k]), [], h⟩ (VQ [0, 1, 4, 5] K)) =
  (∃ (b : Bool),
  RCon Tryz.Y (68 : Nat) [V.p (some (id, 0)), V.i IntKind.u8 (124 : Int)] h (V.b b) ∧
 If b
 (∃ (n : Int),
 hcells h id 1 1 = some [V.i IntKind.i64 n] ∧
 ∃ (h_1 : Heap),
 hstore h id 1 [V.i IntKind.i64 (IntKind.i64.wrap (n + (1 : Int)))] = some h_1 ∧
 Con Tryz.Y (67 : Nat) [V.p (some (id, 0)), V.i IntKind.i64 x] h_1 fun (v : V) (h' : Heap) =>
 ∃ (n : Int),
 ∃ (n_1 : Int),
 ∃ (n_2 : Int),
 ∃ (n_3 : Int),
 ∃ (n_4 : Int),
 ∃ (cs : List V),
 ∃ (l_1 : Nat),
 ∃ (c_1 : Option Nat),
 ∃ (n_5 : Int),
 ∃ (n_6 : Int),
 ∃ (n_7 : Int),
 v =
 V.agg
 [V.i IntKind.i64 n, V.i IntKind.u64 n_1, V.i IntKind.u64 n_2,
 V.i IntKind.u64 n_3, V.i IntKind.u64 n_4, V.ts cs l_1 c_1,
 V.i IntKind.i64 n_5, V.i IntKind.i64 n_6, V.i IntKind.i64 n_7] ∧
 ∃ (a : Option (Nat × Nat)),
 ∃ (l_2 : Nat),
 ∃ (c_2 : Option Nat),
 ∃ (k_1 : Nat),
 ∃ (h : Heap),
 appendH Tryz.Y h' 26 26
 (V.sl (some (j, 0)) l c k)
 (V.ts
 [V.i IntKind.i64 n, V.i IntKind.u64 n_1, V.i IntKind.u64 n_2,
 V.i IntKind.u64 n_3, V.i IntKind.u64 n_4, V.ts cs l_1 c_1,
 V.i IntKind.i64 n_5, V.i IntKind.i64 n_6,
 V.i IntKind.i64 n_7]
 1 (some 1)) =
 some (V.sl a l_2 c_2 k_1, h) ∧
 K Out.normal 33
 [V.p (some (id, 0)), V.i IntKind.i64 x,
 V.lb
 [V.i IntKind.i64 (0 : Int), V.i IntKind.u64 (0 : Int),
 V.i IntKind.u64 (0 : Int), V.i IntKind.u64 (0 : Int),
 V.i IntKind.u64 (0 : Int),
 V.sl none 0 (some 0) 0,
 V.i IntKind.i64 (0 : Int), V.i IntKind.i64 (0 : Int),
 V.i IntKind.i64 (0 : Int)],
 V.sl a l_2 c_2 k_1]
 h)
 (K (Out.exit 0) 33
 [V.p (some (id, 0)), V.i IntKind.i64 x,
 V.lb
 [V.i IntKind.i64 (0 : Int), V.i IntKind.u64 (0 : Int), V.i IntKind.u64 (0 : Int), V.i IntKind.u64 (0 : Int),
 V.i IntKind.u64 (0 : Int), V.sl none 0 (some 0) 0,
 V.i IntKind.i64 (0 : Int), V.i IntKind.i64 (0 : Int), V.i IntKind.i64 (0 : Int)],
 V.sl (some (j, 0)) l c k]
 h)) := by kernel_rfl
end Go.Y

/- What the pieces of functions come to: printed by program. -/
namespace Go.Y
open Go.Proofs
set_option maxRecDepth 100000
set_option maxHeartbeats 0
theorem f67_0 (id : Nat) (x : Int) (h : Heap) (K : KT) : (codeP Tryz.Y (Tryz.Y.loc 67) 100 (pre (flat (bodyOf Tryz.f67))) ⟨(V.p (some (id, 0)) :: V.i .i64 x :: List.replicate 63 .undef), [], h⟩ (VQ [0, 1, 4, 5] K)) =
  (K Out.normal 65
  [V.p (some (id, 0)), V.i IntKind.i64 x,
 V.lb
 [V.i IntKind.i64 (0 : Int), V.i IntKind.u64 (0 : Int), V.i IntKind.u64 (0 : Int), V.i IntKind.u64 (0 : Int),
 V.i IntKind.u64 (0 : Int), V.sl none 0 (some 0) 0, V.i IntKind.i64 (0 : Int),
 V.i IntKind.i64 (0 : Int), V.i IntKind.i64 (0 : Int)],
 V.sl none 0 (some 0) 0]
  h) := by kernel_rfl
theorem f67_1 (id : Nat) (x : Int) (a5 : Option (Nat × Nat)) (l5 : Nat) (c5 : Option Nat) (k5 : Nat) (h : Heap) (K : KT) : (codeP Tryz.Y (Tryz.Y.loc 67) 100 ((flat (loopB (post (flat (bodyOf Tryz.f67)))))) ⟨mk 65 (([0, 1, 4, 5] : List Nat).zip [V.p (some (id, 0)), V.i IntKind.i64 x, V.lb [V.i IntKind.i64 0, V.i IntKind.u64 0, V.i IntKind.u64 0, V.i IntKind.u64 0, V.i IntKind.u64 0, V.sl none 0 (some 0) 0, V.i IntKind.i64 0, V.i IntKind.i64 0, V.i IntKind.i64 0], V.sl a5 l5 c5 k5]), [], h⟩ (VQ [0, 1, 4, 5] K)) =
  (∃ (n : Int),
  hcells h id 3 1 = some [V.i IntKind.i64 n] ∧
 If (n == (0 : Int))
 (∃ (n : Int),
 hcells h id 1 1 = some [V.i IntKind.i64 n] ∧
 ∃ (s : List UInt8),
 hcells h id 0 1 = some [V.s s] ∧
 If (ltI n (↑s.length : Int))
 (∃ (s : List UInt8),
 hcells h id 0 1 = some [V.s s] ∧
 ∃ (n : Int),
 hcells h id 1 1 = some [V.i IntKind.i64 n] ∧
 ∃ (c : UInt8),
 ((0 : Int) ≤ n ∧ s[n.toNat]? = some c) ∧
 If ((↑c.toNat : Int) != (124 : Int))
 (∃ (s : List UInt8),
 hcells h id 0 1 = some [V.s s] ∧
 ∃ (n : Int),
 hcells h id 1 1 = some [V.i IntKind.i64 n] ∧
 ∃ (c : UInt8),
 ((0 : Int) ≤ n ∧ s[n.toNat]? = some c) ∧
 If ((↑c.toNat : Int) != (41 : Int))
 (Con Tryz.Y (112 : Nat) [V.p (some (id, 0)), V.i IntKind.i64 x] h
 fun (v : V) (h' : Heap) =>
 ∃ (n : Int),
 ∃ (n_1 : Int),
 ∃ (n_2 : Int),
 ∃ (n_3 : Int),
 ∃ (n_4 : Int),
 ∃ (cs : List V),
 ∃ (l : Nat),
 ∃ (c : Option Nat),
 ∃ (n_5 : Int),
 ∃ (n_6 : Int),
 ∃ (n_7 : Int),
 v =
 V.agg
 [V.i IntKind.i64 n, V.i IntKind.u64 n_1,
 V.i IntKind.u64 n_2, V.i IntKind.u64 n_3,
 V.i IntKind.u64 n_4, V.ts cs l c,
 V.i IntKind.i64 n_5, V.i IntKind.i64 n_6,
 V.i IntKind.i64 n_7] ∧
 ∃ (a : Option (Nat × Nat)),
 ∃ (l_1 : Nat),
 ∃ (c_1 : Option Nat),
 ∃ (k : Nat),
 ∃ (h : Heap),
 appendH Tryz.Y h' 26
 26 (V.sl a5 l5 c5 k5)
 (V.ts
 [V.i IntKind.i64 n,
 V.i IntKind.u64 n_1,
 V.i IntKind.u64 n_2,
 V.i IntKind.u64 n_3,
 V.i IntKind.u64 n_4,
 V.ts cs l c,
 V.i IntKind.i64 n_5,
 V.i IntKind.i64 n_6,
 V.i IntKind.i64 n_7]
 1
 (some 1)) =
 some (V.sl a l_1 c_1 k, h) ∧
 K Out.normal 65
 [V.p (some (id, 0)),
 V.i IntKind.i64 x,
 V.lb
 [V.i IntKind.i64 (0 : Int),
 V.i IntKind.u64 (0 : Int),
 V.i IntKind.u64 (0 : Int),
 V.i IntKind.u64 (0 : Int),
 V.i IntKind.u64 (0 : Int),
 V.sl none 0
 (some 0)
 0,
 V.i IntKind.i64 (0 : Int),
 V.i IntKind.i64 (0 : Int),
 V.i IntKind.i64 (0 : Int)],
 V.sl a l_1 c_1 k]
 h)
 (K (Out.exit 0) 65
 [V.p (some (id, 0)), V.i IntKind.i64 x,
 V.lb
 [V.i IntKind.i64 (0 : Int), V.i IntKind.u64 (0 : Int),
 V.i IntKind.u64 (0 : Int), V.i IntKind.u64 (0 : Int),
 V.i IntKind.u64 (0 : Int),
 V.sl none 0 (some 0) 0,
 V.i IntKind.i64 (0 : Int), V.i IntKind.i64 (0 : Int),
 V.i IntKind.i64 (0 : Int)],
 V.sl a5 l5 c5 k5]
 h))
 (K (Out.exit 0) 65
 [V.p (some (id, 0)), V.i IntKind.i64 x,
 V.lb
 [V.i IntKind.i64 (0 : Int), V.i IntKind.u64 (0 : Int), V.i IntKind.u64 (0 : Int),
 V.i IntKind.u64 (0 : Int), V.i IntKind.u64 (0 : Int),
 V.sl none 0 (some 0) 0, V.i IntKind.i64 (0 : Int),
 V.i IntKind.i64 (0 : Int), V.i IntKind.i64 (0 : Int)],
 V.sl a5 l5 c5 k5]
 h))
 (K (Out.exit 0) 65
 [V.p (some (id, 0)), V.i IntKind.i64 x,
 V.lb
 [V.i IntKind.i64 (0 : Int), V.i IntKind.u64 (0 : Int), V.i IntKind.u64 (0 : Int),
 V.i IntKind.u64 (0 : Int), V.i IntKind.u64 (0 : Int),
 V.sl none 0 (some 0) 0, V.i IntKind.i64 (0 : Int),
 V.i IntKind.i64 (0 : Int), V.i IntKind.i64 (0 : Int)],
 V.sl a5 l5 c5 k5]
 h))
 (K (Out.exit 0) 65
 [V.p (some (id, 0)), V.i IntKind.i64 x,
 V.lb
 [V.i IntKind.i64 (0 : Int), V.i IntKind.u64 (0 : Int), V.i IntKind.u64 (0 : Int), V.i IntKind.u64 (0 : Int),
 V.i IntKind.u64 (0 : Int), V.sl none 0 (some 0) 0,
 V.i IntKind.i64 (0 : Int), V.i IntKind.i64 (0 : Int), V.i IntKind.i64 (0 : Int)],
 V.sl a5 l5 c5 k5]
 h)) := by kernel_rfl
theorem f8_0 (s0 : List UInt8) (h : Heap) (K : KT) : (codeP Tryz.Y (Tryz.Y.loc 8) 100 ((flat (bodyOf Tryz.f8))) ⟨(V.s s0 :: List.replicate 46 .undef), [], h⟩ (VQ [2, 3, 4] K)) =
  (If (ltI (200 : Int) (↑s0.length : Int))
  (K Out.ret 47
 [V.lb
 [V.i IntKind.i64 (0 : Int), V.i IntKind.u64 (0 : Int), V.i IntKind.u64 (0 : Int), V.i IntKind.u64 (0 : Int),
 V.i IntKind.u64 (0 : Int), V.sl none 0 (some 0) 0, V.i IntKind.i64 (0 : Int),
 V.i IntKind.i64 (0 : Int), V.i IntKind.i64 (0 : Int)],
 V.i IntKind.i64 (200 : Int), V.i IntKind.i64 (2 : Int)]
 h)
  (Con Tryz.Y (27 : Nat) [V.p (some (h.nx, 0)), V.i IntKind.i64 (0 : Int)]
 (h.push (YObj.arr [V.s s0, V.i IntKind.i64 (0 : Int), V.i IntKind.i64 (0 : Int), V.i IntKind.i64 (0 : Int)] true))
 fun (v : V) (h' : Heap) =>
 ∃ (n : Int),
 ∃ (n_1 : Int),
 ∃ (n_2 : Int),
 ∃ (n_3 : Int),
 ∃ (n_4 : Int),
 ∃ (cs : List V),
 ∃ (l : Nat),
 ∃ (c : Option Nat),
 ∃ (n_5 : Int),
 ∃ (n_6 : Int),
 ∃ (n_7 : Int),
 v =
 V.agg
 [V.i IntKind.i64 n, V.i IntKind.u64 n_1, V.i IntKind.u64 n_2, V.i IntKind.u64 n_3,
 V.i IntKind.u64 n_4, V.ts cs l c, V.i IntKind.i64 n_5, V.i IntKind.i64 n_6,
 V.i IntKind.i64 n_7] ∧
 ∃ (n_8 : Int),
 hcells h' h.nx 3 1 = some [V.i IntKind.i64 n_8] ∧
 If (n_8 == (0 : Int))
 (∃ (n_9 : Int),
 hcells h' h.nx 1 1 = some [V.i IntKind.i64 n_9] ∧
 If (ltI n_9 (↑s0.length : Int))
 (Con Tryz.Y (28 : Nat)
 [V.p (some (h.nx, 0)), V.i IntKind.i64 (1 : Int)] h'
 fun (v : V) (h' : Heap) =>
 v = V.tup [] ∧
 ∃ (n_10 : Int),
 hcells h' h.nx 3 1 = some [V.i IntKind.i64 n_10] ∧
 If (n_10 != (0 : Int))
 (∃ (n : Int),
 hcells h' h.nx 1 1 = some [V.i IntKind.i64 n] ∧
 ∃ (n_11 : Int),
 hcells h' h.nx 3 1 =
 some [V.i IntKind.i64 n_11] ∧
 K Out.ret 47
 [V.lb
 [V.i IntKind.i64 (0 : Int), V.i IntKind.u64 (0 : Int),
 V.i IntKind.u64 (0 : Int), V.i IntKind.u64 (0 : Int),
 V.i IntKind.u64 (0 : Int),
 V.sl none 0 (some 0) 0,
 V.i IntKind.i64 (0 : Int), V.i IntKind.i64 (0 : Int),
 V.i IntKind.i64 (0 : Int)],
 V.i IntKind.i64 n, V.i IntKind.i64 n_11]
 h')
 (K Out.ret 47
 [V.lb
 [V.i IntKind.i64 n, V.i IntKind.u64 n_1, V.i IntKind.u64 n_2,
 V.i IntKind.u64 n_3, V.i IntKind.u64 n_4, V.ts cs l c,
 V.i IntKind.i64 n_5, V.i IntKind.i64 n_6,
 V.i IntKind.i64 n_7],
 V.i IntKind.i64 (0 : Int), V.i IntKind.i64 (0 : Int)]
 h'))
 (∃ (n_10 : Int),
 hcells h' h.nx 3 1 = some [V.i IntKind.i64 n_10] ∧
 If (n_10 != (0 : Int))
 (∃ (n : Int),
 hcells h' h.nx 1 1 = some [V.i IntKind.i64 n] ∧
 ∃ (n_11 : Int),
 hcells h' h.nx 3 1 =
 some [V.i IntKind.i64 n_11] ∧
 K Out.ret 47
 [V.lb
 [V.i IntKind.i64 (0 : Int), V.i IntKind.u64 (0 : Int),
 V.i IntKind.u64 (0 : Int), V.i IntKind.u64 (0 : Int),
 V.i IntKind.u64 (0 : Int),
 V.sl none 0 (some 0) 0,
 V.i IntKind.i64 (0 : Int), V.i IntKind.i64 (0 : Int),
 V.i IntKind.i64 (0 : Int)],
 V.i IntKind.i64 n, V.i IntKind.i64 n_11]
 h')
 (K Out.ret 47
 [V.lb
 [V.i IntKind.i64 n, V.i IntKind.u64 n_1, V.i IntKind.u64 n_2,
 V.i IntKind.u64 n_3, V.i IntKind.u64 n_4, V.ts cs l c,
 V.i IntKind.i64 n_5, V.i IntKind.i64 n_6, V.i IntKind.i64 n_7],
 V.i IntKind.i64 (0 : Int), V.i IntKind.i64 (0 : Int)]
 h')))
 (∃ (n_9 : Int),
 hcells h' h.nx 3 1 = some [V.i IntKind.i64 n_9] ∧
 If (n_9 != (0 : Int))
 (∃ (n : Int),
 hcells h' h.nx 1 1 = some [V.i IntKind.i64 n] ∧
 ∃ (n_10 : Int),
 hcells h' h.nx 3 1 = some [V.i IntKind.i64 n_10] ∧
 K Out.ret 47
 [V.lb
 [V.i IntKind.i64 (0 : Int), V.i IntKind.u64 (0 : Int),
 V.i IntKind.u64 (0 : Int), V.i IntKind.u64 (0 : Int),
 V.i IntKind.u64 (0 : Int),
 V.sl none 0 (some 0) 0,
 V.i IntKind.i64 (0 : Int), V.i IntKind.i64 (0 : Int),
 V.i IntKind.i64 (0 : Int)],
 V.i IntKind.i64 n, V.i IntKind.i64 n_10]
 h')
 (K Out.ret 47
 [V.lb
 [V.i IntKind.i64 n, V.i IntKind.u64 n_1, V.i IntKind.u64 n_2,
 V.i IntKind.u64 n_3, V.i IntKind.u64 n_4, V.ts cs l c,
 V.i IntKind.i64 n_5, V.i IntKind.i64 n_6, V.i IntKind.i64 n_7],
 V.i IntKind.i64 (0 : Int), V.i IntKind.i64 (0 : Int)]
 h')))) := by kernel_rfl
end Go.Y
