/- What the pieces of functions come to: printed by program. -/
import Derived.Test.YteennilbmmlikaaGreatDoorYTryzP
import Derived.Test.YteennilbmmlikaaGreatDoorYLoop
namespace Go.Y
open Go.Proofs
set_option maxRecDepth 100000
set_option maxHeartbeats 0
theorem f112_0 (id : Nat) (x : Int) (h : Heap) (K : KT) : (codeP Tryz.Y (Tryz.Y.loc 112) 100 ((flat (bodyOf Tryz.f112))) ⟨(V.p (some (id, 0)) :: V.i .i64 x :: List.replicate 86 .undef), [], h⟩ (VQ [4] K)) =
  (Con Tryz.Y (141 : Nat) [V.p (some (id, 0)), V.i IntKind.i64 x] h fun (v : V) (h' : Heap) =>
  ∃ (n : Int),
 ∃ (n_1 : Int),
 ∃ (n_2 : Int),
 ∃ (n_3 : Int),
 ∃ (n_4 : Int),
 ∃ (cs : List V),
 ∃ (l : Nat),
 ∃ (c : Option Nat),
 ∃ (n_5 : Int),
 ∃ (n_6 : Int),
 ∃ (n_7 : Int),
 v =
 V.agg
 [V.i IntKind.i64 n, V.i IntKind.u64 n_1, V.i IntKind.u64 n_2, V.i IntKind.u64 n_3,
 V.i IntKind.u64 n_4, V.ts cs l c, V.i IntKind.i64 n_5, V.i IntKind.i64 n_6,
 V.i IntKind.i64 n_7] ∧
 ∃ (n_8 : Int),
 hcells h' id 3 1 = some [V.i IntKind.i64 n_8] ∧
 If (n_8 != (0 : Int))
 (K Out.ret 88
 [V.lb
 [V.i IntKind.i64 n, V.i IntKind.u64 n_1, V.i IntKind.u64 n_2, V.i IntKind.u64 n_3,
 V.i IntKind.u64 n_4, V.ts cs l c, V.i IntKind.i64 n_5, V.i IntKind.i64 n_6,
 V.i IntKind.i64 n_7]]
 h')
 (∃ (n_9 : Int),
 hcells h' id 1 1 = some [V.i IntKind.i64 n_9] ∧
 ∃ (s : List UInt8),
 hcells h' id 0 1 = some [V.s s] ∧
 If (leI (↑s.length : Int) n_9)
 (K Out.ret 88
 [V.lb
 [V.i IntKind.i64 n, V.i IntKind.u64 n_1, V.i IntKind.u64 n_2,
 V.i IntKind.u64 n_3, V.i IntKind.u64 n_4, V.ts cs l c,
 V.i IntKind.i64 n_5, V.i IntKind.i64 n_6, V.i IntKind.i64 n_7]]
 h')
 (∃ (s : List UInt8),
 hcells h' id 0 1 = some [V.s s] ∧
 ∃ (n_10 : Int),
 hcells h' id 1 1 = some [V.i IntKind.i64 n_10] ∧
 ∃ (c_1 : UInt8),
 ((0 : Int) ≤ n_10 ∧ s[n_10.toNat]? = some c_1) ∧
 If ((↑c_1.toNat : Int) != (42 : Int))
 (If ((↑c_1.toNat : Int) != (43 : Int))
 (If ((↑c_1.toNat : Int) != (63 : Int))
 (If ((↑c_1.toNat : Int) != (123 : Int))
 (K Out.ret 88
 [V.lb
 [V.i IntKind.i64 n, V.i IntKind.u64 n_1,
 V.i IntKind.u64 n_2, V.i IntKind.u64 n_3,
 V.i IntKind.u64 n_4, V.ts cs l c,
 V.i IntKind.i64 n_5, V.i IntKind.i64 n_6,
 V.i IntKind.i64 n_7]]
 h')
 (If (n == (2 : Int))
 (Con Tryz.Y (28 : Nat)
 [V.p (some (id, 0)),
 V.i IntKind.i64 (1 : Int)]
 h' fun (v : V) (h' : Heap) =>
 v = V.tup [] ∧
 K Out.ret 88
 [V.lb
 [V.i IntKind.i64 n, V.i IntKind.u64 n_1,
 V.i IntKind.u64 n_2, V.i IntKind.u64 n_3,
 V.i IntKind.u64 n_4, V.ts cs l c,
 V.i IntKind.i64 n_5, V.i IntKind.i64 n_6,
 V.i IntKind.i64 n_7]]
 h')
 (If (n == (3 : Int))
 (Con Tryz.Y (28 : Nat)
 [V.p (some (id, 0)),
 V.i IntKind.i64 (1 : Int)]
 h' fun (v : V) (h' : Heap) =>
 v = V.tup [] ∧
 K Out.ret 88
 [V.lb
 [V.i IntKind.i64 n, V.i IntKind.u64 n_1,
 V.i IntKind.u64 n_2, V.i IntKind.u64 n_3,
 V.i IntKind.u64 n_4, V.ts cs l c,
 V.i IntKind.i64 n_5, V.i IntKind.i64 n_6,
 V.i IntKind.i64 n_7]]
 h')
 (∃ (n_11 : Int),
 hcells h' id 1 1 =
 some [V.i IntKind.i64 n_11] ∧
 ∃ (h : Heap),
 hstore h' id 1
 [V.i IntKind.i64
 (IntKind.i64.wrap
 (n_11 + (1 : Int)))] =
 some h ∧
 If ((↑c_1.toNat : Int) == (43 : Int))
 (If ((↑c_1.toNat : Int) == (63 : Int))
 (If ((↑c_1.toNat : Int) == (123 : Int))
 (Con Tryz.Y (142 : Nat)
 [V.p (some (id, 0))] h
 fun (v : V) (h' : Heap) =>
 ∃ (n_12 : Int),
 ∃ (n_13 : Int),
 v =
 V.tup
 [V.i IntKind.i64 n_12,
 V.i IntKind.i64 n_13] ∧
 K Out.ret 88
 [V.lb
 [V.i IntKind.i64
 (6 : Int),
 V.i IntKind.u64
 (0 : Int),
 V.i IntKind.u64
 (0 : Int),
 V.i IntKind.u64
 (0 : Int),
 V.i IntKind.u64
 (0 : Int),
 V.ts
 [V.i IntKind.i64 n,
 V.i IntKind.u64 n_1,
 V.i IntKind.u64 n_2,
 V.i IntKind.u64 n_3,
 V.i IntKind.u64 n_4,
 V.ts cs l c,
 V.i IntKind.i64 n_5,
 V.i IntKind.i64 n_6,
 V.i IntKind.i64 n_7]
 1
 (some 1),
 V.i IntKind.i64 n_12,
 V.i IntKind.i64 n_13,
 V.i IntKind.i64
 (0 : Int)]]
 h')
 (K Out.ret 88
 [V.lb
 [V.i IntKind.i64 (6 : Int),
 V.i IntKind.u64 (0 : Int),
 V.i IntKind.u64 (0 : Int),
 V.i IntKind.u64 (0 : Int),
 V.i IntKind.u64 (0 : Int),
 V.ts
 [V.i IntKind.i64 n,
 V.i IntKind.u64 n_1,
 V.i IntKind.u64 n_2,
 V.i IntKind.u64 n_3,
 V.i IntKind.u64 n_4,
 V.ts cs l c,
 V.i IntKind.i64 n_5,
 V.i IntKind.i64 n_6,
 V.i IntKind.i64 n_7]
 1
 (some 1),
 V.i IntKind.i64 (1 : Int),
 V.i IntKind.i64 (1 : Int),
 V.i IntKind.i64 (0 : Int)]]
 h))
 (If ((↑c_1.toNat : Int) == (123 : Int))
 (Con Tryz.Y (142 : Nat)
 [V.p (some (id, 0))] h
 fun (v : V) (h' : Heap) =>
 ∃ (n_12 : Int),
 ∃ (n_13 : Int),
 v =
 V.tup
 [V.i IntKind.i64 n_12,
 V.i IntKind.i64 n_13] ∧
 K Out.ret 88
 [V.lb
 [V.i IntKind.i64
 (6 : Int),
 V.i IntKind.u64
 (0 : Int),
 V.i IntKind.u64
 (0 : Int),
 V.i IntKind.u64
 (0 : Int),
 V.i IntKind.u64
 (0 : Int),
 V.ts
 [V.i IntKind.i64 n,
 V.i IntKind.u64 n_1,
 V.i IntKind.u64 n_2,
 V.i IntKind.u64 n_3,
 V.i IntKind.u64 n_4,
 V.ts cs l c,
 V.i IntKind.i64 n_5,
 V.i IntKind.i64 n_6,
 V.i IntKind.i64 n_7]
 1
 (some 1),
 V.i IntKind.i64 n_12,
 V.i IntKind.i64 n_13,
 V.i IntKind.i64
 (0 : Int)]]
 h')
 (K Out.ret 88
 [V.lb
 [V.i IntKind.i64 (6 : Int),
 V.i IntKind.u64 (0 : Int),
 V.i IntKind.u64 (0 : Int),
 V.i IntKind.u64 (0 : Int),
 V.i IntKind.u64 (0 : Int),
 V.ts
 [V.i IntKind.i64 n,
 V.i IntKind.u64 n_1,
 V.i IntKind.u64 n_2,
 V.i IntKind.u64 n_3,
 V.i IntKind.u64 n_4,
 V.ts cs l c,
 V.i IntKind.i64 n_5,
 V.i IntKind.i64 n_6,
 V.i IntKind.i64 n_7]
 1
 (some 1),
 V.i IntKind.i64 (1 : Int),
 V.i IntKind.i64 (-1 : Int),
 V.i IntKind.i64 (0 : Int)]]
 h)))
 (If ((↑c_1.toNat : Int) == (63 : Int))
 (If ((↑c_1.toNat : Int) == (123 : Int))
 (Con Tryz.Y (142 : Nat)
 [V.p (some (id, 0))] h
 fun (v : V) (h' : Heap) =>
 ∃ (n_12 : Int),
 ∃ (n_13 : Int),
 v =
 V.tup
 [V.i IntKind.i64 n_12,
 V.i IntKind.i64 n_13] ∧
 K Out.ret 88
 [V.lb
 [V.i IntKind.i64
 (6 : Int),
 V.i IntKind.u64
 (0 : Int),
 V.i IntKind.u64
 (0 : Int),
 V.i IntKind.u64
 (0 : Int),
 V.i IntKind.u64
 (0 : Int),
 V.ts
 [V.i IntKind.i64 n,
 V.i IntKind.u64 n_1,
 V.i IntKind.u64 n_2,
 V.i IntKind.u64 n_3,
 V.i IntKind.u64 n_4,
 V.ts cs l c,
 V.i IntKind.i64 n_5,
 V.i IntKind.i64 n_6,
 V.i IntKind.i64 n_7]
 1
 (some 1),
 V.i IntKind.i64 n_12,
 V.i IntKind.i64 n_13,
 V.i IntKind.i64
 (0 : Int)]]
 h')
 (K Out.ret 88
 [V.lb
 [V.i IntKind.i64 (6 : Int),
 V.i IntKind.u64 (0 : Int),
 V.i IntKind.u64 (0 : Int),
 V.i IntKind.u64 (0 : Int),
 V.i IntKind.u64 (0 : Int),
 V.ts
 [V.i IntKind.i64 n,
 V.i IntKind.u64 n_1,
 V.i IntKind.u64 n_2,
 V.i IntKind.u64 n_3,
 V.i IntKind.u64 n_4,
 V.ts cs l c,
 V.i IntKind.i64 n_5,
 V.i IntKind.i64 n_6,
 V.i IntKind.i64 n_7]
 1
 (some 1),
 V.i IntKind.i64 (0 : Int),
 V.i IntKind.i64 (1 : Int),
 V.i IntKind.i64 (0 : Int)]]
 h))
 (If ((↑c_1.toNat : Int) == (123 : Int))
 (Con Tryz.Y (142 : Nat)
 [V.p (some (id, 0))] h
 fun (v : V) (h' : Heap) =>
 ∃ (n_12 : Int),
 ∃ (n_13 : Int),
 v =
 V.tup
 [V.i IntKind.i64 n_12,
 V.i IntKind.i64 n_13] ∧
 K Out.ret 88
 [V.lb
 [V.i IntKind.i64
 (6 : Int),
 V.i IntKind.u64
 (0 : Int),
 V.i IntKind.u64
 (0 : Int),
 V.i IntKind.u64
 (0 : Int),
 V.i IntKind.u64
 (0 : Int),
 V.ts
 [V.i IntKind.i64 n,
 V.i IntKind.u64 n_1,
 V.i IntKind.u64 n_2,
 V.i IntKind.u64 n_3,
 V.i IntKind.u64 n_4,
 V.ts cs l c,
 V.i IntKind.i64 n_5,
 V.i IntKind.i64 n_6,
 V.i IntKind.i64 n_7]
 1
 (some 1),
 V.i IntKind.i64 n_12,
 V.i IntKind.i64 n_13,
 V.i IntKind.i64
 (0 : Int)]]
 h')
 (K Out.ret 88
 [V.lb
 [V.i IntKind.i64 (6 : Int),
 V.i IntKind.u64 (0 : Int),
 V.i IntKind.u64 (0 : Int),
 V.i IntKind.u64 (0 : Int),
 V.i IntKind.u64 (0 : Int),
 V.ts
 [V.i IntKind.i64 n,
 V.i IntKind.u64 n_1,
 V.i IntKind.u64 n_2,
 V.i IntKind.u64 n_3,
 V.i IntKind.u64 n_4,
 V.ts cs l c,
 V.i IntKind.i64 n_5,
 V.i IntKind.i64 n_6,
 V.i IntKind.i64 n_7]
 1
 (some 1),
 V.i IntKind.i64 (0 : Int),
 V.i IntKind.i64 (-1 : Int),
 V.i IntKind.i64 (0 : Int)]]
 h)))))))
 (If (n == (2 : Int))
 (Con Tryz.Y (28 : Nat)
 [V.p (some (id, 0)), V.i IntKind.i64 (1 : Int)]
 h' fun (v : V) (h' : Heap) =>
 v = V.tup [] ∧
 K Out.ret 88
 [V.lb
 [V.i IntKind.i64 n, V.i IntKind.u64 n_1,
 V.i IntKind.u64 n_2, V.i IntKind.u64 n_3,
 V.i IntKind.u64 n_4, V.ts cs l c,
 V.i IntKind.i64 n_5, V.i IntKind.i64 n_6,
 V.i IntKind.i64 n_7]]
 h')
 (If (n == (3 : Int))
 (Con Tryz.Y (28 : Nat)
 [V.p (some (id, 0)),
 V.i IntKind.i64 (1 : Int)]
 h' fun (v : V) (h' : Heap) =>
 v = V.tup [] ∧
 K Out.ret 88
 [V.lb
 [V.i IntKind.i64 n, V.i IntKind.u64 n_1,
 V.i IntKind.u64 n_2, V.i IntKind.u64 n_3,
 V.i IntKind.u64 n_4, V.ts cs l c,
 V.i IntKind.i64 n_5, V.i IntKind.i64 n_6,
 V.i IntKind.i64 n_7]]
 h')
 (∃ (n_11 : Int),
 hcells h' id 1 1 =
 some [V.i IntKind.i64 n_11] ∧
 ∃ (h : Heap),
 hstore h' id 1
 [V.i IntKind.i64
 (IntKind.i64.wrap (n_11 + (1 : Int)))] =
 some h ∧
 If ((↑c_1.toNat : Int) == (43 : Int))
 (If ((↑c_1.toNat : Int) == (63 : Int))
 (If ((↑c_1.toNat : Int) == (123 : Int))
 (Con Tryz.Y (142 : Nat)
 [V.p (some (id, 0))] h
 fun (v : V) (h' : Heap) =>
 ∃ (n_12 : Int),
 ∃ (n_13 : Int),
 v =
 V.tup
 [V.i IntKind.i64 n_12,
 V.i IntKind.i64 n_13] ∧
 K Out.ret 88
 [V.lb
 [V.i IntKind.i64 (6 : Int),
 V.i IntKind.u64 (0 : Int),
 V.i IntKind.u64 (0 : Int),
 V.i IntKind.u64 (0 : Int),
 V.i IntKind.u64 (0 : Int),
 V.ts
 [V.i IntKind.i64 n,
 V.i IntKind.u64 n_1,
 V.i IntKind.u64 n_2,
 V.i IntKind.u64 n_3,
 V.i IntKind.u64 n_4,
 V.ts cs l c,
 V.i IntKind.i64 n_5,
 V.i IntKind.i64 n_6,
 V.i IntKind.i64 n_7]
 1
 (some 1),
 V.i IntKind.i64 n_12,
 V.i IntKind.i64 n_13,
 V.i IntKind.i64
 (0 : Int)]]
 h')
 (K Out.ret 88
 [V.lb
 [V.i IntKind.i64 (6 : Int),
 V.i IntKind.u64 (0 : Int),
 V.i IntKind.u64 (0 : Int),
 V.i IntKind.u64 (0 : Int),
 V.i IntKind.u64 (0 : Int),
 V.ts
 [V.i IntKind.i64 n,
 V.i IntKind.u64 n_1,
 V.i IntKind.u64 n_2,
 V.i IntKind.u64 n_3,
 V.i IntKind.u64 n_4,
 V.ts cs l c,
 V.i IntKind.i64 n_5,
 V.i IntKind.i64 n_6,
 V.i IntKind.i64 n_7]
 1 (some 1),
 V.i IntKind.i64 (1 : Int),
 V.i IntKind.i64 (1 : Int),
 V.i IntKind.i64 (0 : Int)]]
 h))
 (If ((↑c_1.toNat : Int) == (123 : Int))
 (Con Tryz.Y (142 : Nat)
 [V.p (some (id, 0))] h
 fun (v : V) (h' : Heap) =>
 ∃ (n_12 : Int),
 ∃ (n_13 : Int),
 v =
 V.tup
 [V.i IntKind.i64 n_12,
 V.i IntKind.i64 n_13] ∧
 K Out.ret 88
 [V.lb
 [V.i IntKind.i64 (6 : Int),
 V.i IntKind.u64 (0 : Int),
 V.i IntKind.u64 (0 : Int),
 V.i IntKind.u64 (0 : Int),
 V.i IntKind.u64 (0 : Int),
 V.ts
 [V.i IntKind.i64 n,
 V.i IntKind.u64 n_1,
 V.i IntKind.u64 n_2,
 V.i IntKind.u64 n_3,
 V.i IntKind.u64 n_4,
 V.ts cs l c,
 V.i IntKind.i64 n_5,
 V.i IntKind.i64 n_6,
 V.i IntKind.i64 n_7]
 1
 (some 1),
 V.i IntKind.i64 n_12,
 V.i IntKind.i64 n_13,
 V.i IntKind.i64
 (0 : Int)]]
 h')
 (K Out.ret 88
 [V.lb
 [V.i IntKind.i64 (6 : Int),
 V.i IntKind.u64 (0 : Int),
 V.i IntKind.u64 (0 : Int),
 V.i IntKind.u64 (0 : Int),
 V.i IntKind.u64 (0 : Int),
 V.ts
 [V.i IntKind.i64 n,
 V.i IntKind.u64 n_1,
 V.i IntKind.u64 n_2,
 V.i IntKind.u64 n_3,
 V.i IntKind.u64 n_4,
 V.ts cs l c,
 V.i IntKind.i64 n_5,
 V.i IntKind.i64 n_6,
 V.i IntKind.i64 n_7]
 1 (some 1),
 V.i IntKind.i64 (1 : Int),
 V.i IntKind.i64 (-1 : Int),
 V.i IntKind.i64 (0 : Int)]]
 h)))
 (If ((↑c_1.toNat : Int) == (63 : Int))
 (If ((↑c_1.toNat : Int) == (123 : Int))
 (Con Tryz.Y (142 : Nat)
 [V.p (some (id, 0))] h
 fun (v : V) (h' : Heap) =>
 ∃ (n_12 : Int),
 ∃ (n_13 : Int),
 v =
 V.tup
 [V.i IntKind.i64 n_12,
 V.i IntKind.i64 n_13] ∧
 K Out.ret 88
 [V.lb
 [V.i IntKind.i64 (6 : Int),
 V.i IntKind.u64 (0 : Int),
 V.i IntKind.u64 (0 : Int),
 V.i IntKind.u64 (0 : Int),
 V.i IntKind.u64 (0 : Int),
 V.ts
 [V.i IntKind.i64 n,
 V.i IntKind.u64 n_1,
 V.i IntKind.u64 n_2,
 V.i IntKind.u64 n_3,
 V.i IntKind.u64 n_4,
 V.ts cs l c,
 V.i IntKind.i64 n_5,
 V.i IntKind.i64 n_6,
 V.i IntKind.i64 n_7]
 1
 (some 1),
 V.i IntKind.i64 n_12,
 V.i IntKind.i64 n_13,
 V.i IntKind.i64
 (0 : Int)]]
 h')
 (K Out.ret 88
 [V.lb
 [V.i IntKind.i64 (6 : Int),
 V.i IntKind.u64 (0 : Int),
 V.i IntKind.u64 (0 : Int),
 V.i IntKind.u64 (0 : Int),
 V.i IntKind.u64 (0 : Int),
 V.ts
 [V.i IntKind.i64 n,
 V.i IntKind.u64 n_1,
 V.i IntKind.u64 n_2,
 V.i IntKind.u64 n_3,
 V.i IntKind.u64 n_4,
 V.ts cs l c,
 V.i IntKind.i64 n_5,
 V.i IntKind.i64 n_6,
 V.i IntKind.i64 n_7]
 1 (some 1),
 V.i IntKind.i64 (0 : Int),
 V.i IntKind.i64 (1 : Int),
 V.i IntKind.i64 (0 : Int)]]
 h))
 (If ((↑c_1.toNat : Int) == (123 : Int))
 (Con Tryz.Y (142 : Nat)
 [V.p (some (id, 0))] h
 fun (v : V) (h' : Heap) =>
 ∃ (n_12 : Int),
 ∃ (n_13 : Int),
 v =
 V.tup
 [V.i IntKind.i64 n_12,
 V.i IntKind.i64 n_13] ∧
 K Out.ret 88
 [V.lb
 [V.i IntKind.i64 (6 : Int),
 V.i IntKind.u64 (0 : Int),
 V.i IntKind.u64 (0 : Int),
 V.i IntKind.u64 (0 : Int),
 V.i IntKind.u64 (0 : Int),
 V.ts
 [V.i IntKind.i64 n,
 V.i IntKind.u64 n_1,
 V.i IntKind.u64 n_2,
 V.i IntKind.u64 n_3,
 V.i IntKind.u64 n_4,
 V.ts cs l c,
 V.i IntKind.i64 n_5,
 V.i IntKind.i64 n_6,
 V.i IntKind.i64 n_7]
 1
 (some 1),
 V.i IntKind.i64 n_12,
 V.i IntKind.i64 n_13,
 V.i IntKind.i64
 (0 : Int)]]
 h')
 (K Out.ret 88
 [V.lb
 [V.i IntKind.i64 (6 : Int),
 V.i IntKind.u64 (0 : Int),
 V.i IntKind.u64 (0 : Int),
 V.i IntKind.u64 (0 : Int),
 V.i IntKind.u64 (0 : Int),
 V.ts
 [V.i IntKind.i64 n,
 V.i IntKind.u64 n_1,
 V.i IntKind.u64 n_2,
 V.i IntKind.u64 n_3,
 V.i IntKind.u64 n_4,
 V.ts cs l c,
 V.i IntKind.i64 n_5,
 V.i IntKind.i64 n_6,
 V.i IntKind.i64 n_7]
 1 (some 1),
 V.i IntKind.i64 (0 : Int),
 V.i IntKind.i64 (-1 : Int),
 V.i IntKind.i64 (0 : Int)]]
 h)))))))
 (If (n == (2 : Int))
 (Con Tryz.Y (28 : Nat)
 [V.p (some (id, 0)), V.i IntKind.i64 (1 : Int)] h'
 fun (v : V) (h' : Heap) =>
 v = V.tup [] ∧
 K Out.ret 88
 [V.lb
 [V.i IntKind.i64 n, V.i IntKind.u64 n_1,
 V.i IntKind.u64 n_2, V.i IntKind.u64 n_3,
 V.i IntKind.u64 n_4, V.ts cs l c,
 V.i IntKind.i64 n_5, V.i IntKind.i64 n_6,
 V.i IntKind.i64 n_7]]
 h')
 (If (n == (3 : Int))
 (Con Tryz.Y (28 : Nat)
 [V.p (some (id, 0)), V.i IntKind.i64 (1 : Int)]
 h' fun (v : V) (h' : Heap) =>
 v = V.tup [] ∧
 K Out.ret 88
 [V.lb
 [V.i IntKind.i64 n, V.i IntKind.u64 n_1,
 V.i IntKind.u64 n_2, V.i IntKind.u64 n_3,
 V.i IntKind.u64 n_4, V.ts cs l c,
 V.i IntKind.i64 n_5, V.i IntKind.i64 n_6,
 V.i IntKind.i64 n_7]]
 h')
 (∃ (n_11 : Int),
 hcells h' id 1 1 =
 some [V.i IntKind.i64 n_11] ∧
 ∃ (h : Heap),
 hstore h' id 1
 [V.i IntKind.i64
 (IntKind.i64.wrap (n_11 + (1 : Int)))] =
 some h ∧
 If ((↑c_1.toNat : Int) == (43 : Int))
 (If ((↑c_1.toNat : Int) == (63 : Int))
 (If ((↑c_1.toNat : Int) == (123 : Int))
 (Con Tryz.Y (142 : Nat)
 [V.p (some (id, 0))] h
 fun (v : V) (h' : Heap) =>
 ∃ (n_12 : Int),
 ∃ (n_13 : Int),
 v =
 V.tup
 [V.i IntKind.i64 n_12,
 V.i IntKind.i64 n_13] ∧
 K Out.ret 88
 [V.lb
 [V.i IntKind.i64 (6 : Int),
 V.i IntKind.u64 (0 : Int),
 V.i IntKind.u64 (0 : Int),
 V.i IntKind.u64 (0 : Int),
 V.i IntKind.u64 (0 : Int),
 V.ts
 [V.i IntKind.i64 n,
 V.i IntKind.u64 n_1,
 V.i IntKind.u64 n_2,
 V.i IntKind.u64 n_3,
 V.i IntKind.u64 n_4,
 V.ts cs l c,
 V.i IntKind.i64 n_5,
 V.i IntKind.i64 n_6,
 V.i IntKind.i64 n_7]
 1
 (some 1),
 V.i IntKind.i64 n_12,
 V.i IntKind.i64 n_13,
 V.i IntKind.i64 (0 : Int)]]
 h')
 (K Out.ret 88
 [V.lb
 [V.i IntKind.i64 (6 : Int),
 V.i IntKind.u64 (0 : Int),
 V.i IntKind.u64 (0 : Int),
 V.i IntKind.u64 (0 : Int),
 V.i IntKind.u64 (0 : Int),
 V.ts
 [V.i IntKind.i64 n,
 V.i IntKind.u64 n_1,
 V.i IntKind.u64 n_2,
 V.i IntKind.u64 n_3,
 V.i IntKind.u64 n_4,
 V.ts cs l c,
 V.i IntKind.i64 n_5,
 V.i IntKind.i64 n_6,
 V.i IntKind.i64 n_7]
 1 (some 1),
 V.i IntKind.i64 (1 : Int),
 V.i IntKind.i64 (1 : Int),
 V.i IntKind.i64 (0 : Int)]]
 h))
 (If ((↑c_1.toNat : Int) == (123 : Int))
 (Con Tryz.Y (142 : Nat)
 [V.p (some (id, 0))] h
 fun (v : V) (h' : Heap) =>
 ∃ (n_12 : Int),
 ∃ (n_13 : Int),
 v =
 V.tup
 [V.i IntKind.i64 n_12,
 V.i IntKind.i64 n_13] ∧
 K Out.ret 88
 [V.lb
 [V.i IntKind.i64 (6 : Int),
 V.i IntKind.u64 (0 : Int),
 V.i IntKind.u64 (0 : Int),
 V.i IntKind.u64 (0 : Int),
 V.i IntKind.u64 (0 : Int),
 V.ts
 [V.i IntKind.i64 n,
 V.i IntKind.u64 n_1,
 V.i IntKind.u64 n_2,
 V.i IntKind.u64 n_3,
 V.i IntKind.u64 n_4,
 V.ts cs l c,
 V.i IntKind.i64 n_5,
 V.i IntKind.i64 n_6,
 V.i IntKind.i64 n_7]
 1
 (some 1),
 V.i IntKind.i64 n_12,
 V.i IntKind.i64 n_13,
 V.i IntKind.i64 (0 : Int)]]
 h')
 (K Out.ret 88
 [V.lb
 [V.i IntKind.i64 (6 : Int),
 V.i IntKind.u64 (0 : Int),
 V.i IntKind.u64 (0 : Int),
 V.i IntKind.u64 (0 : Int),
 V.i IntKind.u64 (0 : Int),
 V.ts
 [V.i IntKind.i64 n,
 V.i IntKind.u64 n_1,
 V.i IntKind.u64 n_2,
 V.i IntKind.u64 n_3,
 V.i IntKind.u64 n_4,
 V.ts cs l c,
 V.i IntKind.i64 n_5,
 V.i IntKind.i64 n_6,
 V.i IntKind.i64 n_7]
 1 (some 1),
 V.i IntKind.i64 (1 : Int),
 V.i IntKind.i64 (-1 : Int),
 V.i IntKind.i64 (0 : Int)]]
 h)))
 (If ((↑c_1.toNat : Int) == (63 : Int))
 (If ((↑c_1.toNat : Int) == (123 : Int))
 (Con Tryz.Y (142 : Nat)
 [V.p (some (id, 0))] h
 fun (v : V) (h' : Heap) =>
 ∃ (n_12 : Int),
 ∃ (n_13 : Int),
 v =
 V.tup
 [V.i IntKind.i64 n_12,
 V.i IntKind.i64 n_13] ∧
 K Out.ret 88
 [V.lb
 [V.i IntKind.i64 (6 : Int),
 V.i IntKind.u64 (0 : Int),
 V.i IntKind.u64 (0 : Int),
 V.i IntKind.u64 (0 : Int),
 V.i IntKind.u64 (0 : Int),
 V.ts
 [V.i IntKind.i64 n,
 V.i IntKind.u64 n_1,
 V.i IntKind.u64 n_2,
 V.i IntKind.u64 n_3,
 V.i IntKind.u64 n_4,
 V.ts cs l c,
 V.i IntKind.i64 n_5,
 V.i IntKind.i64 n_6,
 V.i IntKind.i64 n_7]
 1
 (some 1),
 V.i IntKind.i64 n_12,
 V.i IntKind.i64 n_13,
 V.i IntKind.i64 (0 : Int)]]
 h')
 (K Out.ret 88
 [V.lb
 [V.i IntKind.i64 (6 : Int),
 V.i IntKind.u64 (0 : Int),
 V.i IntKind.u64 (0 : Int),
 V.i IntKind.u64 (0 : Int),
 V.i IntKind.u64 (0 : Int),
 V.ts
 [V.i IntKind.i64 n,
 V.i IntKind.u64 n_1,
 V.i IntKind.u64 n_2,
 V.i IntKind.u64 n_3,
 V.i IntKind.u64 n_4,
 V.ts cs l c,
 V.i IntKind.i64 n_5,
 V.i IntKind.i64 n_6,
 V.i IntKind.i64 n_7]
 1 (some 1),
 V.i IntKind.i64 (0 : Int),
 V.i IntKind.i64 (1 : Int),
 V.i IntKind.i64 (0 : Int)]]
 h))
 (If ((↑c_1.toNat : Int) == (123 : Int))
 (Con Tryz.Y (142 : Nat)
 [V.p (some (id, 0))] h
 fun (v : V) (h' : Heap) =>
 ∃ (n_12 : Int),
 ∃ (n_13 : Int),
 v =
 V.tup
 [V.i IntKind.i64 n_12,
 V.i IntKind.i64 n_13] ∧
 K Out.ret 88
 [V.lb
 [V.i IntKind.i64 (6 : Int),
 V.i IntKind.u64 (0 : Int),
 V.i IntKind.u64 (0 : Int),
 V.i IntKind.u64 (0 : Int),
 V.i IntKind.u64 (0 : Int),
 V.ts
 [V.i IntKind.i64 n,
 V.i IntKind.u64 n_1,
 V.i IntKind.u64 n_2,
 V.i IntKind.u64 n_3,
 V.i IntKind.u64 n_4,
 V.ts cs l c,
 V.i IntKind.i64 n_5,
 V.i IntKind.i64 n_6,
 V.i IntKind.i64 n_7]
 1
 (some 1),
 V.i IntKind.i64 n_12,
 V.i IntKind.i64 n_13,
 V.i IntKind.i64 (0 : Int)]]
 h')
 (K Out.ret 88
 [V.lb
 [V.i IntKind.i64 (6 : Int),
 V.i IntKind.u64 (0 : Int),
 V.i IntKind.u64 (0 : Int),
 V.i IntKind.u64 (0 : Int),
 V.i IntKind.u64 (0 : Int),
 V.ts
 [V.i IntKind.i64 n,
 V.i IntKind.u64 n_1,
 V.i IntKind.u64 n_2,
 V.i IntKind.u64 n_3,
 V.i IntKind.u64 n_4,
 V.ts cs l c,
 V.i IntKind.i64 n_5,
 V.i IntKind.i64 n_6,
 V.i IntKind.i64 n_7]
 1 (some 1),
 V.i IntKind.i64 (0 : Int),
 V.i IntKind.i64 (-1 : Int),
 V.i IntKind.i64 (0 : Int)]]
 h)))))))
 (If (n == (2 : Int))
 (Con Tryz.Y (28 : Nat)
 [V.p (some (id, 0)), V.i IntKind.i64 (1 : Int)] h'
 fun (v : V) (h' : Heap) =>
 v = V.tup [] ∧
 K Out.ret 88
 [V.lb
 [V.i IntKind.i64 n, V.i IntKind.u64 n_1,
 V.i IntKind.u64 n_2, V.i IntKind.u64 n_3,
 V.i IntKind.u64 n_4, V.ts cs l c,
 V.i IntKind.i64 n_5, V.i IntKind.i64 n_6,
 V.i IntKind.i64 n_7]]
 h')
 (If (n == (3 : Int))
 (Con Tryz.Y (28 : Nat)
 [V.p (some (id, 0)), V.i IntKind.i64 (1 : Int)] h'
 fun (v : V) (h' : Heap) =>
 v = V.tup [] ∧
 K Out.ret 88
 [V.lb
 [V.i IntKind.i64 n, V.i IntKind.u64 n_1,
 V.i IntKind.u64 n_2, V.i IntKind.u64 n_3,
 V.i IntKind.u64 n_4, V.ts cs l c,
 V.i IntKind.i64 n_5, V.i IntKind.i64 n_6,
 V.i IntKind.i64 n_7]]
 h')
 (∃ (n_11 : Int),
 hcells h' id 1 1 =
 some [V.i IntKind.i64 n_11] ∧
 ∃ (h : Heap),
 hstore h' id 1
 [V.i IntKind.i64
 (IntKind.i64.wrap (n_11 + (1 : Int)))] =
 some h ∧
 If ((↑c_1.toNat : Int) == (43 : Int))
 (If ((↑c_1.toNat : Int) == (63 : Int))
 (If ((↑c_1.toNat : Int) == (123 : Int))
 (Con Tryz.Y (142 : Nat)
 [V.p (some (id, 0))] h
 fun (v : V) (h' : Heap) =>
 ∃ (n_12 : Int),
 ∃ (n_13 : Int),
 v =
 V.tup
 [V.i IntKind.i64 n_12,
 V.i IntKind.i64 n_13] ∧
 K Out.ret 88
 [V.lb
 [V.i IntKind.i64 (6 : Int),
 V.i IntKind.u64 (0 : Int),
 V.i IntKind.u64 (0 : Int),
 V.i IntKind.u64 (0 : Int),
 V.i IntKind.u64 (0 : Int),
 V.ts
 [V.i IntKind.i64 n,
 V.i IntKind.u64 n_1,
 V.i IntKind.u64 n_2,
 V.i IntKind.u64 n_3,
 V.i IntKind.u64 n_4,
 V.ts cs l c,
 V.i IntKind.i64 n_5,
 V.i IntKind.i64 n_6,
 V.i IntKind.i64 n_7]
 1
 (some 1),
 V.i IntKind.i64 n_12,
 V.i IntKind.i64 n_13,
 V.i IntKind.i64 (0 : Int)]]
 h')
 (K Out.ret 88
 [V.lb
 [V.i IntKind.i64 (6 : Int),
 V.i IntKind.u64 (0 : Int),
 V.i IntKind.u64 (0 : Int),
 V.i IntKind.u64 (0 : Int),
 V.i IntKind.u64 (0 : Int),
 V.ts
 [V.i IntKind.i64 n,
 V.i IntKind.u64 n_1,
 V.i IntKind.u64 n_2,
 V.i IntKind.u64 n_3,
 V.i IntKind.u64 n_4, V.ts cs l c,
 V.i IntKind.i64 n_5,
 V.i IntKind.i64 n_6,
 V.i IntKind.i64 n_7]
 1 (some 1),
 V.i IntKind.i64 (1 : Int),
 V.i IntKind.i64 (1 : Int),
 V.i IntKind.i64 (0 : Int)]]
 h))
 (If ((↑c_1.toNat : Int) == (123 : Int))
 (Con Tryz.Y (142 : Nat)
 [V.p (some (id, 0))] h
 fun (v : V) (h' : Heap) =>
 ∃ (n_12 : Int),
 ∃ (n_13 : Int),
 v =
 V.tup
 [V.i IntKind.i64 n_12,
 V.i IntKind.i64 n_13] ∧
 K Out.ret 88
 [V.lb
 [V.i IntKind.i64 (6 : Int),
 V.i IntKind.u64 (0 : Int),
 V.i IntKind.u64 (0 : Int),
 V.i IntKind.u64 (0 : Int),
 V.i IntKind.u64 (0 : Int),
 V.ts
 [V.i IntKind.i64 n,
 V.i IntKind.u64 n_1,
 V.i IntKind.u64 n_2,
 V.i IntKind.u64 n_3,
 V.i IntKind.u64 n_4,
 V.ts cs l c,
 V.i IntKind.i64 n_5,
 V.i IntKind.i64 n_6,
 V.i IntKind.i64 n_7]
 1
 (some 1),
 V.i IntKind.i64 n_12,
 V.i IntKind.i64 n_13,
 V.i IntKind.i64 (0 : Int)]]
 h')
 (K Out.ret 88
 [V.lb
 [V.i IntKind.i64 (6 : Int),
 V.i IntKind.u64 (0 : Int),
 V.i IntKind.u64 (0 : Int),
 V.i IntKind.u64 (0 : Int),
 V.i IntKind.u64 (0 : Int),
 V.ts
 [V.i IntKind.i64 n,
 V.i IntKind.u64 n_1,
 V.i IntKind.u64 n_2,
 V.i IntKind.u64 n_3,
 V.i IntKind.u64 n_4, V.ts cs l c,
 V.i IntKind.i64 n_5,
 V.i IntKind.i64 n_6,
 V.i IntKind.i64 n_7]
 1 (some 1),
 V.i IntKind.i64 (1 : Int),
 V.i IntKind.i64 (-1 : Int),
 V.i IntKind.i64 (0 : Int)]]
 h)))
 (If ((↑c_1.toNat : Int) == (63 : Int))
 (If ((↑c_1.toNat : Int) == (123 : Int))
 (Con Tryz.Y (142 : Nat)
 [V.p (some (id, 0))] h
 fun (v : V) (h' : Heap) =>
 ∃ (n_12 : Int),
 ∃ (n_13 : Int),
 v =
 V.tup
 [V.i IntKind.i64 n_12,
 V.i IntKind.i64 n_13] ∧
 K Out.ret 88
 [V.lb
 [V.i IntKind.i64 (6 : Int),
 V.i IntKind.u64 (0 : Int),
 V.i IntKind.u64 (0 : Int),
 V.i IntKind.u64 (0 : Int),
 V.i IntKind.u64 (0 : Int),
 V.ts
 [V.i IntKind.i64 n,
 V.i IntKind.u64 n_1,
 V.i IntKind.u64 n_2,
 V.i IntKind.u64 n_3,
 V.i IntKind.u64 n_4,
 V.ts cs l c,
 V.i IntKind.i64 n_5,
 V.i IntKind.i64 n_6,
 V.i IntKind.i64 n_7]
 1
 (some 1),
 V.i IntKind.i64 n_12,
 V.i IntKind.i64 n_13,
 V.i IntKind.i64 (0 : Int)]]
 h')
 (K Out.ret 88
 [V.lb
 [V.i IntKind.i64 (6 : Int),
 V.i IntKind.u64 (0 : Int),
 V.i IntKind.u64 (0 : Int),
 V.i IntKind.u64 (0 : Int),
 V.i IntKind.u64 (0 : Int),
 V.ts
 [V.i IntKind.i64 n,
 V.i IntKind.u64 n_1,
 V.i IntKind.u64 n_2,
 V.i IntKind.u64 n_3,
 V.i IntKind.u64 n_4, V.ts cs l c,
 V.i IntKind.i64 n_5,
 V.i IntKind.i64 n_6,
 V.i IntKind.i64 n_7]
 1 (some 1),
 V.i IntKind.i64 (0 : Int),
 V.i IntKind.i64 (1 : Int),
 V.i IntKind.i64 (0 : Int)]]
 h))
 (If ((↑c_1.toNat : Int) == (123 : Int))
 (Con Tryz.Y (142 : Nat)
 [V.p (some (id, 0))] h
 fun (v : V) (h' : Heap) =>
 ∃ (n_12 : Int),
 ∃ (n_13 : Int),
 v =
 V.tup
 [V.i IntKind.i64 n_12,
 V.i IntKind.i64 n_13] ∧
 K Out.ret 88
 [V.lb
 [V.i IntKind.i64 (6 : Int),
 V.i IntKind.u64 (0 : Int),
 V.i IntKind.u64 (0 : Int),
 V.i IntKind.u64 (0 : Int),
 V.i IntKind.u64 (0 : Int),
 V.ts
 [V.i IntKind.i64 n,
 V.i IntKind.u64 n_1,
 V.i IntKind.u64 n_2,
 V.i IntKind.u64 n_3,
 V.i IntKind.u64 n_4,
 V.ts cs l c,
 V.i IntKind.i64 n_5,
 V.i IntKind.i64 n_6,
 V.i IntKind.i64 n_7]
 1
 (some 1),
 V.i IntKind.i64 n_12,
 V.i IntKind.i64 n_13,
 V.i IntKind.i64 (0 : Int)]]
 h')
 (K Out.ret 88
 [V.lb
 [V.i IntKind.i64 (6 : Int),
 V.i IntKind.u64 (0 : Int),
 V.i IntKind.u64 (0 : Int),
 V.i IntKind.u64 (0 : Int),
 V.i IntKind.u64 (0 : Int),
 V.ts
 [V.i IntKind.i64 n,
 V.i IntKind.u64 n_1,
 V.i IntKind.u64 n_2,
 V.i IntKind.u64 n_3,
 V.i IntKind.u64 n_4, V.ts cs l c,
 V.i IntKind.i64 n_5,
 V.i IntKind.i64 n_6,
 V.i IntKind.i64 n_7]
 1 (some 1),
 V.i IntKind.i64 (0 : Int),
 V.i IntKind.i64 (-1 : Int),
 V.i IntKind.i64 (0 : Int)]]
 h))))))))) := by kernel_rfl
end Go.Y
