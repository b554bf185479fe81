/- What the pieces of functions come to: printed by program. -/
import Derived.Test.YteennilbmmlikaaGreatDoorYTryzP
import Derived.Test.YteennilbmmlikaaGreatDoorYLoop
namespace Go.Y
open Go.Proofs
set_option maxRecDepth 100000
set_option maxHeartbeats 0
theorem f9_0 (s : List UInt8) (h : Heap) (K : KT) : (codeP Tryz.Y (Tryz.Y.loc 9) 100 ((flat (bodyOf Tryz.f9))) ⟨(V.s s :: List.replicate 26 .undef), [], h⟩ (VQ [2, 3] K)) =
  (∃ (n : Int),
  ∃ (n_1 : Int),
 ∃ (n_2 : Int),
 ∃ (n_3 : Int),
 ∃ (n_4 : Int),
 ∃ (cs : List V),
 ∃ (l : Nat),
 ∃ (c : Option Nat),
 ∃ (n_5 : Int),
 ∃ (n_6 : Int),
 ∃ (n_7 : Int),
 ∃ (n_8 : Int),
 ∃ (n_9 : Int),
 (PCon Tryz.Y (8 : Nat) [V.s s] fun (v : V) =>
 v =
 V.tup
 [V.agg
 [V.i IntKind.i64 n, V.i IntKind.u64 n_1, V.i IntKind.u64 n_2, V.i IntKind.u64 n_3,
 V.i IntKind.u64 n_4, V.ts cs l c, V.i IntKind.i64 n_5, V.i IntKind.i64 n_6,
 V.i IntKind.i64 n_7],
 V.i IntKind.i64 n_8, V.i IntKind.i64 n_9]) ∧
 ∃ (cs_1 : List V),
 ∃ (l_1 : Nat),
 ∃ (c_1 : Option Nat),
 ∃ (cs_2 : List V),
 ∃ (l_2 : Nat),
 ∃ (c_2 : Option Nat),
 ∃ (cs_3 : List V),
 ∃ (l_3 : Nat),
 ∃ (c_3 : Option Nat),
 ∃ (cs_4 : List V),
 ∃ (l_4 : Nat),
 ∃ (c_4 : Option Nat),
 ∃ (b : Bool),
 ∃ (n_10 : Int),
 (PCon Tryz.Y (10 : Nat)
 [V.agg
 [V.i IntKind.i64 n, V.i IntKind.u64 n_1,
 V.i IntKind.u64 n_2, V.i IntKind.u64 n_3,
 V.i IntKind.u64 n_4, V.ts cs l c, V.i IntKind.i64 n_5,
 V.i IntKind.i64 n_6, V.i IntKind.i64 n_7]]
 fun (v : V) =>
 v =
 V.tup
 [V.agg
 [V.ts cs_1 l_1 c_1, V.ts cs_2 l_2 c_2,
 V.ts cs_3 l_3 c_3, V.ts cs_4 l_4 c_4, V.b b],
 V.i IntKind.i64 n_10]) ∧
 If (n_9 == (0 : Int))
 (K Out.ret 27
 [V.lb
 [V.ts cs_1 l_1 c_1, V.ts cs_2 l_2 c_2,
 V.ts cs_3 l_3 c_3, V.ts cs_4 l_4 c_4, V.b b],
 V.b (n_10 == (0 : Int))]
 h)
 (K Out.ret 27
 [V.lb
 [V.ts cs_1 l_1 c_1, V.ts cs_2 l_2 c_2,
 V.ts cs_3 l_3 c_3, V.ts cs_4 l_4 c_4, V.b b],
 V.b false]
 h)) := by kernel_rfl
theorem f3_0 (a : List UInt8) (b : List UInt8) (s : List UInt8) (h : Heap) (K : KT) : (codeP Tryz.Y (Tryz.Y.loc 3) 100 (pre (flat (bodyOf Tryz.f3))) ⟨(V.s a :: V.s b :: V.s s :: List.replicate 147 .undef), [], h⟩ (VQ [1, 2, 5, 6, 7, 12, 14, 16, 18, 20, 22, 111, 112] K)) =
  (∃ (b_1 : Bool),
  (PCon Tryz.Y (7 : Nat) [] fun (v : V) => v = V.b b_1) ∧
 If (!b_1)
 (K Out.ret 150
 [V.s b, V.s s, V.undef, V.b false, V.undef, V.undef, V.undef, V.undef, V.undef, V.undef, V.undef, V.undef,
 V.undef]
 h)
 (If (ltI (30 : Int) (↑a.length : Int))
 (K Out.ret 150
 [V.s b, V.s s, V.undef, V.b true, V.undef, V.undef, V.undef, V.undef, V.undef, V.undef, V.undef, V.undef,
 V.undef]
 h)
 (If (ltI (30 : Int) (↑b.length : Int))
 (K Out.ret 150
 [V.s b, V.s s, V.undef, V.b true, V.undef, V.undef, V.undef, V.undef, V.undef, V.undef, V.undef, V.undef,
 V.undef]
 h)
 (If (ltI (15 : Int) (↑s.length : Int))
 (K Out.ret 150
 [V.s b, V.s s, V.undef, V.b true, V.undef, V.undef, V.undef, V.undef, V.undef, V.undef, V.undef, V.undef,
 V.undef]
 h)
 (∃ (n : Int),
 ∃ (n_1 : Int),
 ∃ (n_2 : Int),
 ∃ (n_3 : Int),
 ∃ (n_4 : Int),
 ∃ (cs : List V),
 ∃ (l : Nat),
 ∃ (c : Option Nat),
 ∃ (n_5 : Int),
 ∃ (n_6 : Int),
 ∃ (n_7 : Int),
 ∃ (n_8 : Int),
 ∃ (n_9 : Int),
 (PCon Tryz.Y (8 : Nat) [V.s a] fun (v : V) =>
 v =
 V.tup
 [V.agg
 [V.i IntKind.i64 n, V.i IntKind.u64 n_1, V.i IntKind.u64 n_2,
 V.i IntKind.u64 n_3, V.i IntKind.u64 n_4, V.ts cs l c,
 V.i IntKind.i64 n_5, V.i IntKind.i64 n_6, V.i IntKind.i64 n_7],
 V.i IntKind.i64 n_8, V.i IntKind.i64 n_9]) ∧
 ∃ (n_10 : Int),
 ∃ (n_11 : Int),
 ∃ (n_12 : Int),
 ∃ (n_13 : Int),
 ∃ (n_14 : Int),
 ∃ (cs_1 : List V),
 ∃ (l_1 : Nat),
 ∃ (c_1 : Option Nat),
 ∃ (n_15 : Int),
 ∃ (n_16 : Int),
 ∃ (n_17 : Int),
 ∃ (n_18 : Int),
 ∃ (n_19 : Int),
 (PCon Tryz.Y (8 : Nat) [V.s b] fun (v : V) =>
 v =
 V.tup
 [V.agg
 [V.i IntKind.i64 n_10,
 V.i IntKind.u64 n_11,
 V.i IntKind.u64 n_12,
 V.i IntKind.u64 n_13,
 V.i IntKind.u64 n_14, V.ts cs_1 l_1 c_1,
 V.i IntKind.i64 n_15,
 V.i IntKind.i64 n_16,
 V.i IntKind.i64 n_17],
 V.i IntKind.i64 n_18,
 V.i IntKind.i64 n_19]) ∧
 If (n_9 != (0 : Int))
 (K Out.ret 150
 [V.s b, V.s s, V.undef, V.b true,
 V.lb
 [V.i IntKind.i64 n, V.i IntKind.u64 n_1,
 V.i IntKind.u64 n_2, V.i IntKind.u64 n_3,
 V.i IntKind.u64 n_4, V.ts cs l c,
 V.i IntKind.i64 n_5, V.i IntKind.i64 n_6,
 V.i IntKind.i64 n_7],
 V.i IntKind.i64 n_19, V.undef, V.undef,
 V.undef, V.undef, V.undef, V.undef, V.undef]
 h)
 (If (n_19 != (0 : Int))
 (K Out.ret 150
 [V.s b, V.s s, V.undef, V.b true,
 V.lb
 [V.i IntKind.i64 n, V.i IntKind.u64 n_1,
 V.i IntKind.u64 n_2,
 V.i IntKind.u64 n_3,
 V.i IntKind.u64 n_4, V.ts cs l c,
 V.i IntKind.i64 n_5,
 V.i IntKind.i64 n_6,
 V.i IntKind.i64 n_7],
 V.i IntKind.i64 n_19, V.undef, V.undef,
 V.undef, V.undef, V.undef, V.undef, V.undef]
 h)
 (#[(40 : UInt8)].toList.length + a.length ≤
 1152921504606846976 ∧
 (#[(40 : UInt8)].toList ++ a).length +
 #[(41 : UInt8)].toList.length ≤
 1152921504606846976 ∧
 ∃ (cs_2 : List V),
 ∃ (l_2 : Nat),
 ∃ (c_2 : Option Nat),
 ∃ (cs_3 : List V),
 ∃ (l_3 : Nat),
 ∃ (c_3 : Option Nat),
 ∃ (cs_4 : List V),
 ∃ (l_4 : Nat),
 ∃ (c_4 : Option Nat),
 ∃ (cs_5 : List V),
 ∃ (l_5 : Nat),
 ∃ (c_5 : Option Nat),
 ∃ (b_2 : Bool),
 ∃ (b_3 : Bool),
 (PCon Tryz.Y
 (9 : Nat)
 [V.s
 (#[(40 :
 UInt8)].toList ++
 a ++
 #[(41 :
 UInt8)].toList)]
 fun
 (v : V) =>
 v =
 V.tup
 [V.agg
 [V.ts
 cs_2
 l_2
 c_2,
 V.ts
 cs_3
 l_3
 c_3,
 V.ts
 cs_4
 l_4
 c_4,
 V.ts
 cs_5
 l_5
 c_5,
 V.b
 b_2],
 V.b
 b_3]) ∧
 #[(40 :
 UInt8)].toList.length +
 b.length ≤
 1152921504606846976 ∧
 (#[(40 :
 UInt8)].toList ++
 b).length +
 #[(41 :
 UInt8)].toList.length ≤
 1152921504606846976 ∧
 ∃ (cs_6 :
 List V),
 ∃ (l_6 :
 Nat),
 ∃ (c_6
 :
 Option
 Nat),
 ∃
 (cs_7
 :
 List
 V),
 ∃
 (l_7
 :
 Nat),
 ∃
 (c_7
 :
 Option
 Nat),
 ∃
 (cs_8
 :
 List
 V),
 ∃
 (l_8
 :
 Nat),
 ∃
 (c_8
 :
 Option
 Nat),
 ∃
 (cs_9
 :
 List
 V),
 ∃
 (l_9
 :
 Nat),
 ∃
 (c_9
 :
 Option
 Nat),
 ∃
 (b_4
 :
 Bool),
 ∃
 (b_5
 :
 Bool),
 (PCon
 Tryz.Y
 (9 :
 Nat)
 [V.s
 (#[(40 :
 UInt8)].toList ++
 b ++
 #[(41 :
 UInt8)].toList)]
 fun
 (v :
 V) =>
 v =
 V.tup
 [V.agg
 [V.ts
 cs_6
 l_6
 c_6,
 V.ts
 cs_7
 l_7
 c_7,
 V.ts
 cs_8
 l_8
 c_8,
 V.ts
 cs_9
 l_9
 c_9,
 V.b
 b_4],
 V.b
 b_5]) ∧
 #[(40 :
 UInt8)].toList.length +
 a.length ≤
 1152921504606846976 ∧
 (#[(40 :
 UInt8)].toList ++
 a).length +
 #[(41 :
 UInt8),
 (40 :
 UInt8)].toList.length ≤
 1152921504606846976 ∧
 (#[(40 :
 UInt8)].toList ++
 a ++
 #[(41 :
 UInt8),
 (40 :
 UInt8)].toList).length +
 b.length ≤
 1152921504606846976 ∧
 (#[(40 :
 UInt8)].toList ++
 a ++
 #[(41 :
 UInt8),
 (40 :
 UInt8)].toList ++
 b).length +
 #[(41 :
 UInt8)].toList.length ≤
 1152921504606846976 ∧
 ∃
 (cs_10
 :
 List
 V),
 ∃
 (l_10
 :
 Nat),
 ∃
 (c_10
 :
 Option
 Nat),
 ∃
 (cs_11
 :
 List
 V),
 ∃
 (l_11
 :
 Nat),
 ∃
 (c_11
 :
 Option
 Nat),
 ∃
 (cs_12
 :
 List
 V),
 ∃
 (l_12
 :
 Nat),
 ∃
 (c_12
 :
 Option
 Nat),
 ∃
 (cs_13
 :
 List
 V),
 ∃
 (l_13
 :
 Nat),
 ∃
 (c_13
 :
 Option
 Nat),
 ∃
 (b_6
 :
 Bool),
 ∃
 (b_7
 :
 Bool),
 (PCon
 Tryz.Y
 (9 :
 Nat)
 [V.s
 (#[(40 :
 UInt8)].toList ++
 a ++
 #[(41 :
 UInt8),
 (40 :
 UInt8)].toList ++
 b ++
 #[(41 :
 UInt8)].toList)]
 fun
 (v :
 V) =>
 v =
 V.tup
 [V.agg
 [V.ts
 cs_10
 l_10
 c_10,
 V.ts
 cs_11
 l_11
 c_11,
 V.ts
 cs_12
 l_12
 c_12,
 V.ts
 cs_13
 l_13
 c_13,
 V.b
 b_6],
 V.b
 b_7]) ∧
 #[(40 :
 UInt8)].toList.length +
 a.length ≤
 1152921504606846976 ∧
 (#[(40 :
 UInt8)].toList ++
 a).length +
 #[(41 :
 UInt8),
 (124 :
 UInt8),
 (40 :
 UInt8)].toList.length ≤
 1152921504606846976 ∧
 (#[(40 :
 UInt8)].toList ++
 a ++
 #[(41 :
 UInt8),
 (124 :
 UInt8),
 (40 :
 UInt8)].toList).length +
 b.length ≤
 1152921504606846976 ∧
 (#[(40 :
 UInt8)].toList ++
 a ++
 #[(41 :
 UInt8),
 (124 :
 UInt8),
 (40 :
 UInt8)].toList ++
 b).length +
 #[(41 :
 UInt8)].toList.length ≤
 1152921504606846976 ∧
 ∃
 (cs_14
 :
 List
 V),
 ∃
 (l_14
 :
 Nat),
 ∃
 (c_14
 :
 Option
 Nat),
 ∃
 (cs_15
 :
 List
 V),
 ∃
 (l_15
 :
 Nat),
 ∃
 (c_15
 :
 Option
 Nat),
 ∃
 (cs_16
 :
 List
 V),
 ∃
 (l_16
 :
 Nat),
 ∃
 (c_16
 :
 Option
 Nat),
 ∃
 (cs_17
 :
 List
 V),
 ∃
 (l_17
 :
 Nat),
 ∃
 (c_17
 :
 Option
 Nat),
 ∃
 (b_8
 :
 Bool),
 ∃
 (b_9
 :
 Bool),
 (PCon
 Tryz.Y
 (9 :
 Nat)
 [V.s
 (#[(40 :
 UInt8)].toList ++
 a ++
 #[(41 :
 UInt8),
 (124 :
 UInt8),
 (40 :
 UInt8)].toList ++
 b ++
 #[(41 :
 UInt8)].toList)]
 fun
 (v :
 V) =>
 v =
 V.tup
 [V.agg
 [V.ts
 cs_14
 l_14
 c_14,
 V.ts
 cs_15
 l_15
 c_15,
 V.ts
 cs_16
 l_16
 c_16,
 V.ts
 cs_17
 l_17
 c_17,
 V.b
 b_8],
 V.b
 b_9]) ∧
 If
 (!b_3)
 (K
 Out.ret
 150
 [V.s
 b,
 V.s
 s,
 V.undef,
 V.b
 true,
 V.lb
 [V.i
 IntKind.i64
 n,
 V.i
 IntKind.u64
 n_1,
 V.i
 IntKind.u64
 n_2,
 V.i
 IntKind.u64
 n_3,
 V.i
 IntKind.u64
 n_4,
 V.ts
 cs
 l
 c,
 V.i
 IntKind.i64
 n_5,
 V.i
 IntKind.i64
 n_6,
 V.i
 IntKind.i64
 n_7],
 V.i
 IntKind.i64
 n_19,
 V.lb
 [V.ts
 cs_2
 l_2
 c_2,
 V.ts
 cs_3
 l_3
 c_3,
 V.ts
 cs_4
 l_4
 c_4,
 V.ts
 cs_5
 l_5
 c_5,
 V.b
 b_2],
 V.lb
 [V.ts
 cs_6
 l_6
 c_6,
 V.ts
 cs_7
 l_7
 c_7,
 V.ts
 cs_8
 l_8
 c_8,
 V.ts
 cs_9
 l_9
 c_9,
 V.b
 b_4],
 V.lb
 [V.ts
 cs_10
 l_10
 c_10,
 V.ts
 cs_11
 l_11
 c_11,
 V.ts
 cs_12
 l_12
 c_12,
 V.ts
 cs_13
 l_13
 c_13,
 V.b
 b_6],
 V.lb
 [V.ts
 cs_14
 l_14
 c_14,
 V.ts
 cs_15
 l_15
 c_15,
 V.ts
 cs_16
 l_16
 c_16,
 V.ts
 cs_17
 l_17
 c_17,
 V.b
 b_8],
 V.undef,
 V.undef,
 V.undef]
 h)
 (If
 (!b_5)
 (K
 Out.ret
 150
 [V.s
 b,
 V.s
 s,
 V.undef,
 V.b
 true,
 V.lb
 [V.i
 IntKind.i64
 n,
 V.i
 IntKind.u64
 n_1,
 V.i
 IntKind.u64
 n_2,
 V.i
 IntKind.u64
 n_3,
 V.i
 IntKind.u64
 n_4,
 V.ts
 cs
 l
 c,
 V.i
 IntKind.i64
 n_5,
 V.i
 IntKind.i64
 n_6,
 V.i
 IntKind.i64
 n_7],
 V.i
 IntKind.i64
 n_19,
 V.lb
 [V.ts
 cs_2
 l_2
 c_2,
 V.ts
 cs_3
 l_3
 c_3,
 V.ts
 cs_4
 l_4
 c_4,
 V.ts
 cs_5
 l_5
 c_5,
 V.b
 b_2],
 V.lb
 [V.ts
 cs_6
 l_6
 c_6,
 V.ts
 cs_7
 l_7
 c_7,
 V.ts
 cs_8
 l_8
 c_8,
 V.ts
 cs_9
 l_9
 c_9,
 V.b
 b_4],
 V.lb
 [V.ts
 cs_10
 l_10
 c_10,
 V.ts
 cs_11
 l_11
 c_11,
 V.ts
 cs_12
 l_12
 c_12,
 V.ts
 cs_13
 l_13
 c_13,
 V.b
 b_6],
 V.lb
 [V.ts
 cs_14
 l_14
 c_14,
 V.ts
 cs_15
 l_15
 c_15,
 V.ts
 cs_16
 l_16
 c_16,
 V.ts
 cs_17
 l_17
 c_17,
 V.b
 b_8],
 V.undef,
 V.undef,
 V.undef]
 h)
 (If
 (!b_7)
 (K
 Out.ret
 150
 [V.s
 b,
 V.s
 s,
 V.undef,
 V.b
 true,
 V.lb
 [V.i
 IntKind.i64
 n,
 V.i
 IntKind.u64
 n_1,
 V.i
 IntKind.u64
 n_2,
 V.i
 IntKind.u64
 n_3,
 V.i
 IntKind.u64
 n_4,
 V.ts
 cs
 l
 c,
 V.i
 IntKind.i64
 n_5,
 V.i
 IntKind.i64
 n_6,
 V.i
 IntKind.i64
 n_7],
 V.i
 IntKind.i64
 n_19,
 V.lb
 [V.ts
 cs_2
 l_2
 c_2,
 V.ts
 cs_3
 l_3
 c_3,
 V.ts
 cs_4
 l_4
 c_4,
 V.ts
 cs_5
 l_5
 c_5,
 V.b
 b_2],
 V.lb
 [V.ts
 cs_6
 l_6
 c_6,
 V.ts
 cs_7
 l_7
 c_7,
 V.ts
 cs_8
 l_8
 c_8,
 V.ts
 cs_9
 l_9
 c_9,
 V.b
 b_4],
 V.lb
 [V.ts
 cs_10
 l_10
 c_10,
 V.ts
 cs_11
 l_11
 c_11,
 V.ts
 cs_12
 l_12
 c_12,
 V.ts
 cs_13
 l_13
 c_13,
 V.b
 b_6],
 V.lb
 [V.ts
 cs_14
 l_14
 c_14,
 V.ts
 cs_15
 l_15
 c_15,
 V.ts
 cs_16
 l_16
 c_16,
 V.ts
 cs_17
 l_17
 c_17,
 V.b
 b_8],
 V.undef,
 V.undef,
 V.undef]
 h)
 (If
 (!b_9)
 (K
 Out.ret
 150
 [V.s
 b,
 V.s
 s,
 V.undef,
 V.b
 true,
 V.lb
 [V.i
 IntKind.i64
 n,
 V.i
 IntKind.u64
 n_1,
 V.i
 IntKind.u64
 n_2,
 V.i
 IntKind.u64
 n_3,
 V.i
 IntKind.u64
 n_4,
 V.ts
 cs
 l
 c,
 V.i
 IntKind.i64
 n_5,
 V.i
 IntKind.i64
 n_6,
 V.i
 IntKind.i64
 n_7],
 V.i
 IntKind.i64
 n_19,
 V.lb
 [V.ts
 cs_2
 l_2
 c_2,
 V.ts
 cs_3
 l_3
 c_3,
 V.ts
 cs_4
 l_4
 c_4,
 V.ts
 cs_5
 l_5
 c_5,
 V.b
 b_2],
 V.lb
 [V.ts
 cs_6
 l_6
 c_6,
 V.ts
 cs_7
 l_7
 c_7,
 V.ts
 cs_8
 l_8
 c_8,
 V.ts
 cs_9
 l_9
 c_9,
 V.b
 b_4],
 V.lb
 [V.ts
 cs_10
 l_10
 c_10,
 V.ts
 cs_11
 l_11
 c_11,
 V.ts
 cs_12
 l_12
 c_12,
 V.ts
 cs_13
 l_13
 c_13,
 V.b
 b_6],
 V.lb
 [V.ts
 cs_14
 l_14
 c_14,
 V.ts
 cs_15
 l_15
 c_15,
 V.ts
 cs_16
 l_16
 c_16,
 V.ts
 cs_17
 l_17
 c_17,
 V.b
 b_8],
 V.undef,
 V.undef,
 V.undef]
 h)
 (K
 Out.normal
 150
 [V.s
 b,
 V.s
 s,
 V.undef,
 V.b
 false,
 V.lb
 [V.i
 IntKind.i64
 n,
 V.i
 IntKind.u64
 n_1,
 V.i
 IntKind.u64
 n_2,
 V.i
 IntKind.u64
 n_3,
 V.i
 IntKind.u64
 n_4,
 V.ts
 cs
 l
 c,
 V.i
 IntKind.i64
 n_5,
 V.i
 IntKind.i64
 n_6,
 V.i
 IntKind.i64
 n_7],
 V.i
 IntKind.i64
 n_19,
 V.lb
 [V.ts
 cs_2
 l_2
 c_2,
 V.ts
 cs_3
 l_3
 c_3,
 V.ts
 cs_4
 l_4
 c_4,
 V.ts
 cs_5
 l_5
 c_5,
 V.b
 b_2],
 V.lb
 [V.ts
 cs_6
 l_6
 c_6,
 V.ts
 cs_7
 l_7
 c_7,
 V.ts
 cs_8
 l_8
 c_8,
 V.ts
 cs_9
 l_9
 c_9,
 V.b
 b_4],
 V.lb
 [V.ts
 cs_10
 l_10
 c_10,
 V.ts
 cs_11
 l_11
 c_11,
 V.ts
 cs_12
 l_12
 c_12,
 V.ts
 cs_13
 l_13
 c_13,
 V.b
 b_6],
 V.lb
 [V.ts
 cs_14
 l_14
 c_14,
 V.ts
 cs_15
 l_15
 c_15,
 V.ts
 cs_16
 l_16
 c_16,
 V.ts
 cs_17
 l_17
 c_17,
 V.b
 b_8],
 V.b
 false,
 V.i
 IntKind.i64
 (IntKind.i64.wrap
 ((↑s.length :
 Int) +
 (1 :
 Int))),
 V.i
 IntKind.i64
 (0 :
 Int)]
 h))))))))))) := by kernel_rfl
theorem f3_1 (b : List UInt8) (s : List UInt8) (x7_0 : Int) (x7_1 : Int) (x7_2 : Int) (x7_3 : Int) (x7_4 : Int) (c7_5 : Option Nat) (cs7_5 : List V) (n7_5 : Nat) (x7_6 : Int) (x7_7 : Int) (x7_8 : Int) (x12 : Int) (c14_0 : Option Nat) (cs14_0 : List V) (n14_0 : Nat) (c14_1 : Option Nat) (cs14_1 : List V) (n14_1 : Nat) (c14_2 : Option Nat) (cs14_2 : List V) (n14_2 : Nat) (c14_3 : Option Nat) (cs14_3 : List V) (n14_3 : Nat) (b14_4 : Bool) (c16_0 : Option Nat) (cs16_0 : List V) (n16_0 : Nat) (c16_1 : Option Nat) (cs16_1 : List V) (n16_1 : Nat) (c16_2 : Option Nat) (cs16_2 : List V) (n16_2 : Nat) (c16_3 : Option Nat) (cs16_3 : List V) (n16_3 : Nat) (b16_4 : Bool) (c18_0 : Option Nat) (cs18_0 : List V) (n18_0 : Nat) (c18_1 : Option Nat) (cs18_1 : List V) (n18_1 : Nat) (c18_2 : Option Nat) (cs18_2 : List V) (n18_2 : Nat) (c18_3 : Option Nat) (cs18_3 : List V) (n18_3 : Nat) (b18_4 : Bool) (c20_0 : Option Nat) (cs20_0 : List V) (n20_0 : Nat) (c20_1 : Option Nat) (cs20_1 : List V) (n20_1 : Nat) (c20_2 : Option Nat) (cs20_2 : List V) (n20_2 : Nat) (c20_3 : Option Nat) (cs20_3 : List V) (n20_3 : Nat) (b20_4 : Bool) (b22z2 : Bool) (x111z2 : Int) (x112z2 : Int) (h : Heap) (K : KT) : (codeP Tryz.Y (Tryz.Y.loc 3) 100 ((flat (loopB (post (flat (bodyOf Tryz.f3)))))) ⟨mk 150 (([1, 2, 5, 7, 12, 14, 16, 18, 20, 22, 111, 112] : List Nat).zip [V.s b, V.s s, V.undef, V.lb [V.i IntKind.i64 x7_0, V.i IntKind.u64 x7_1, V.i IntKind.u64 x7_2, V.i IntKind.u64 x7_3, V.i IntKind.u64 x7_4, V.ts cs7_5 n7_5 c7_5, V.i IntKind.i64 x7_6, V.i IntKind.i64 x7_7, V.i IntKind.i64 x7_8], V.i IntKind.i64 x12, V.lb [V.ts cs14_0 n14_0 c14_0, V.ts cs14_1 n14_1 c14_1, V.ts cs14_2 n14_2 c14_2, V.ts cs14_3 n14_3 c14_3, V.b b14_4], V.lb [V.ts cs16_0 n16_0 c16_0, V.ts cs16_1 n16_1 c16_1, V.ts cs16_2 n16_2 c16_2, V.ts cs16_3 n16_3 c16_3, V.b b16_4], V.lb [V.ts cs18_0 n18_0 c18_0, V.ts cs18_1 n18_1 c18_1, V.ts cs18_2 n18_2 c18_2, V.ts cs18_3 n18_3 c18_3, V.b b18_4], V.lb [V.ts cs20_0 n20_0 c20_0, V.ts cs20_1 n20_1 c20_1, V.ts cs20_2 n20_2 c20_2, V.ts cs20_3 n20_3 c20_3, V.b b20_4], V.b b22z2, V.i IntKind.i64 x111z2, V.i IntKind.i64 x112z2]), [], h⟩ (VQ [1, 2, 5, 7, 12, 14, 16, 18, 20, 22, 111, 112] K)) =
  (If (ltI x112z2 x111z2)
  (If b22z2
 (K Out.normal 150
 [V.s b, V.s s, V.undef,
 V.lb
 [V.i IntKind.i64 x7_0, V.i IntKind.u64 x7_1, V.i IntKind.u64 x7_2, V.i IntKind.u64 x7_3, V.i IntKind.u64 x7_4,
 V.ts cs7_5 n7_5 c7_5, V.i IntKind.i64 x7_6, V.i IntKind.i64 x7_7, V.i IntKind.i64 x7_8],
 V.i IntKind.i64 x12,
 V.lb
 [V.ts cs14_0 n14_0 c14_0, V.ts cs14_1 n14_1 c14_1, V.ts cs14_2 n14_2 c14_2, V.ts cs14_3 n14_3 c14_3,
 V.b b14_4],
 V.lb
 [V.ts cs16_0 n16_0 c16_0, V.ts cs16_1 n16_1 c16_1, V.ts cs16_2 n16_2 c16_2, V.ts cs16_3 n16_3 c16_3,
 V.b b16_4],
 V.lb
 [V.ts cs18_0 n18_0 c18_0, V.ts cs18_1 n18_1 c18_1, V.ts cs18_2 n18_2 c18_2, V.ts cs18_3 n18_3 c18_3,
 V.b b18_4],
 V.lb
 [V.ts cs20_0 n20_0 c20_0, V.ts cs20_1 n20_1 c20_1, V.ts cs20_2 n20_2 c20_2, V.ts cs20_3 n20_3 c20_3,
 V.b b20_4],
 V.b true, V.i IntKind.i64 x111z2, V.i IntKind.i64 (IntKind.i64.wrap (x112z2 + (1 : Int)))]
 h)
 (((0 : Int) ≤ x112z2 ∧ x112z2 ≤ (↑s.length : Int)) ∧
 ∃ (b_1 : Bool),
 (PCon Tryz.Y (11 : Nat)
 [V.agg
 [V.ts cs14_0 n14_0 c14_0, V.ts cs14_1 n14_1 c14_1, V.ts cs14_2 n14_2 c14_2, V.ts cs14_3 n14_3 c14_3,
 V.b b14_4],
 V.s (List.take (x112z2.toNat - (0 : Nat)) (List.drop (0 : Nat) s))]
 fun (v : V) => v = V.b b_1) ∧
 If b_1
 (((0 : Int) ≤ x112z2 ∧ x112z2 ≤ (↑s.length : Int)) ∧
 ∃ (b_2 : Bool),
 (PCon Tryz.Y (11 : Nat)
 [V.agg
 [V.ts cs16_0 n16_0 c16_0, V.ts cs16_1 n16_1 c16_1, V.ts cs16_2 n16_2 c16_2,
 V.ts cs16_3 n16_3 c16_3, V.b b16_4],
 V.s (List.take (s.length - x112z2.toNat) (List.drop x112z2.toNat s))]
 fun (v : V) => v = V.b b_2) ∧
 K Out.normal 150
 [V.s b, V.s s, V.undef,
 V.lb
 [V.i IntKind.i64 x7_0, V.i IntKind.u64 x7_1, V.i IntKind.u64 x7_2, V.i IntKind.u64 x7_3,
 V.i IntKind.u64 x7_4, V.ts cs7_5 n7_5 c7_5, V.i IntKind.i64 x7_6, V.i IntKind.i64 x7_7,
 V.i IntKind.i64 x7_8],
 V.i IntKind.i64 x12,
 V.lb
 [V.ts cs14_0 n14_0 c14_0, V.ts cs14_1 n14_1 c14_1, V.ts cs14_2 n14_2 c14_2,
 V.ts cs14_3 n14_3 c14_3, V.b b14_4],
 V.lb
 [V.ts cs16_0 n16_0 c16_0, V.ts cs16_1 n16_1 c16_1, V.ts cs16_2 n16_2 c16_2,
 V.ts cs16_3 n16_3 c16_3, V.b b16_4],
 V.lb
 [V.ts cs18_0 n18_0 c18_0, V.ts cs18_1 n18_1 c18_1, V.ts cs18_2 n18_2 c18_2,
 V.ts cs18_3 n18_3 c18_3, V.b b18_4],
 V.lb
 [V.ts cs20_0 n20_0 c20_0, V.ts cs20_1 n20_1 c20_1, V.ts cs20_2 n20_2 c20_2,
 V.ts cs20_3 n20_3 c20_3, V.b b20_4],
 V.b b_2, V.i IntKind.i64 x111z2, V.i IntKind.i64 (IntKind.i64.wrap (x112z2 + (1 : Int)))]
 h)
 (K Out.normal 150
 [V.s b, V.s s, V.undef,
 V.lb
 [V.i IntKind.i64 x7_0, V.i IntKind.u64 x7_1, V.i IntKind.u64 x7_2, V.i IntKind.u64 x7_3,
 V.i IntKind.u64 x7_4, V.ts cs7_5 n7_5 c7_5, V.i IntKind.i64 x7_6, V.i IntKind.i64 x7_7,
 V.i IntKind.i64 x7_8],
 V.i IntKind.i64 x12,
 V.lb
 [V.ts cs14_0 n14_0 c14_0, V.ts cs14_1 n14_1 c14_1, V.ts cs14_2 n14_2 c14_2, V.ts cs14_3 n14_3 c14_3,
 V.b b14_4],
 V.lb
 [V.ts cs16_0 n16_0 c16_0, V.ts cs16_1 n16_1 c16_1, V.ts cs16_2 n16_2 c16_2, V.ts cs16_3 n16_3 c16_3,
 V.b b16_4],
 V.lb
 [V.ts cs18_0 n18_0 c18_0, V.ts cs18_1 n18_1 c18_1, V.ts cs18_2 n18_2 c18_2, V.ts cs18_3 n18_3 c18_3,
 V.b b18_4],
 V.lb
 [V.ts cs20_0 n20_0 c20_0, V.ts cs20_1 n20_1 c20_1, V.ts cs20_2 n20_2 c20_2, V.ts cs20_3 n20_3 c20_3,
 V.b b20_4],
 V.b false, V.i IntKind.i64 x111z2, V.i IntKind.i64 (IntKind.i64.wrap (x112z2 + (1 : Int)))]
 h)))
  (K (Out.exit 0) 150
 [V.s b, V.s s, V.undef,
 V.lb
 [V.i IntKind.i64 x7_0, V.i IntKind.u64 x7_1, V.i IntKind.u64 x7_2, V.i IntKind.u64 x7_3, V.i IntKind.u64 x7_4,
 V.ts cs7_5 n7_5 c7_5, V.i IntKind.i64 x7_6, V.i IntKind.i64 x7_7, V.i IntKind.i64 x7_8],
 V.i IntKind.i64 x12,
 V.lb
 [V.ts cs14_0 n14_0 c14_0, V.ts cs14_1 n14_1 c14_1, V.ts cs14_2 n14_2 c14_2, V.ts cs14_3 n14_3 c14_3, V.b b14_4],
 V.lb
 [V.ts cs16_0 n16_0 c16_0, V.ts cs16_1 n16_1 c16_1, V.ts cs16_2 n16_2 c16_2, V.ts cs16_3 n16_3 c16_3, V.b b16_4],
 V.lb
 [V.ts cs18_0 n18_0 c18_0, V.ts cs18_1 n18_1 c18_1, V.ts cs18_2 n18_2 c18_2, V.ts cs18_3 n18_3 c18_3, V.b b18_4],
 V.lb
 [V.ts cs20_0 n20_0 c20_0, V.ts cs20_1 n20_1 c20_1, V.ts cs20_2 n20_2 c20_2, V.ts cs20_3 n20_3 c20_3, V.b b20_4],
 V.b b22z2, V.i IntKind.i64 x111z2, V.i IntKind.i64 x112z2]
 h)) := by kernel_rfl
theorem f3_2 (b : List UInt8) (s : List UInt8) (x12 : Int) (c14_0 : Option Nat) (cs14_0 : List V) (n14_0 : Nat) (c14_1 : Option Nat) (cs14_1 : List V) (n14_1 : Nat) (c14_2 : Option Nat) (cs14_2 : List V) (n14_2 : Nat) (c14_3 : Option Nat) (cs14_3 : List V) (n14_3 : Nat) (b14_4 : Bool) (c16_0 : Option Nat) (cs16_0 : List V) (n16_0 : Nat) (c16_1 : Option Nat) (cs16_1 : List V) (n16_1 : Nat) (c16_2 : Option Nat) (cs16_2 : List V) (n16_2 : Nat) (c16_3 : Option Nat) (cs16_3 : List V) (n16_3 : Nat) (b16_4 : Bool) (c18_0 : Option Nat) (cs18_0 : List V) (n18_0 : Nat) (c18_1 : Option Nat) (cs18_1 : List V) (n18_1 : Nat) (c18_2 : Option Nat) (cs18_2 : List V) (n18_2 : Nat) (c18_3 : Option Nat) (cs18_3 : List V) (n18_3 : Nat) (b18_4 : Bool) (c20_0 : Option Nat) (cs20_0 : List V) (n20_0 : Nat) (c20_1 : Option Nat) (cs20_1 : List V) (n20_1 : Nat) (c20_2 : Option Nat) (cs20_2 : List V) (n20_2 : Nat) (c20_3 : Option Nat) (cs20_3 : List V) (n20_3 : Nat) (b20_4 : Bool) (b22z2 : Bool) (h : Heap) (K : KT) : (codeP Tryz.Y (Tryz.Y.loc 3) 100 (((post (flat (bodyOf Tryz.f3))).drop 1)) ⟨mk 150 (([2, 5, 12, 14, 16, 18, 20, 22] : List Nat).zip [V.s s, V.undef, V.i IntKind.i64 x12, V.lb [V.ts cs14_0 n14_0 c14_0, V.ts cs14_1 n14_1 c14_1, V.ts cs14_2 n14_2 c14_2, V.ts cs14_3 n14_3 c14_3, V.b b14_4], V.lb [V.ts cs16_0 n16_0 c16_0, V.ts cs16_1 n16_1 c16_1, V.ts cs16_2 n16_2 c16_2, V.ts cs16_3 n16_3 c16_3, V.b b16_4], V.lb [V.ts cs18_0 n18_0 c18_0, V.ts cs18_1 n18_1 c18_1, V.ts cs18_2 n18_2 c18_2, V.ts cs18_3 n18_3 c18_3, V.b b18_4], V.lb [V.ts cs20_0 n20_0 c20_0, V.ts cs20_1 n20_1 c20_1, V.ts cs20_2 n20_2 c20_2, V.ts cs20_3 n20_3 c20_3, V.b b20_4], V.b b22z2]), [], h⟩ (VQ [6] K)) =
  (∃ (b : Bool),
  (PCon Tryz.Y (11 : Nat)
 [V.agg
 [V.ts cs18_0 n18_0 c18_0, V.ts cs18_1 n18_1 c18_1, V.ts cs18_2 n18_2 c18_2, V.ts cs18_3 n18_3 c18_3,
 V.b b18_4],
 V.s s]
 fun (v : V) => v = V.b b) ∧
 If (b22z2 == b)
 (∃ (b : Bool),
 (PCon Tryz.Y (11 : Nat)
 [V.agg
 [V.ts cs20_0 n20_0 c20_0, V.ts cs20_1 n20_1 c20_1, V.ts cs20_2 n20_2 c20_2, V.ts cs20_3 n20_3 c20_3,
 V.b b20_4],
 V.s s]
 fun (v : V) => v = V.b b) ∧
 ∃ (b_1 : Bool),
 (PCon Tryz.Y (11 : Nat)
 [V.agg
 [V.ts cs14_0 n14_0 c14_0, V.ts cs14_1 n14_1 c14_1, V.ts cs14_2 n14_2 c14_2, V.ts cs14_3 n14_3 c14_3,
 V.b b14_4],
 V.s s]
 fun (v : V) => v = V.b b_1) ∧
 If b_1 (K Out.ret 150 [V.b (b == true)] h)
 (∃ (b_2 : Bool),
 (PCon Tryz.Y (11 : Nat)
 [V.agg
 [V.ts cs16_0 n16_0 c16_0, V.ts cs16_1 n16_1 c16_1, V.ts cs16_2 n16_2 c16_2,
 V.ts cs16_3 n16_3 c16_3, V.b b16_4],
 V.s s]
 fun (v : V) => v = V.b b_2) ∧
 K Out.ret 150 [V.b (b == b_2)] h))
 (K Out.ret 150 [V.b false] h)) := by kernel_rfl
theorem f7_0  (h : Heap) (K : KT) : (codeP Tryz.Y (Tryz.Y.loc 7) 100 ((flat (bodyOf Tryz.f7))) ⟨(List.replicate 54 .undef), [], h⟩ (VQ [0] K)) =
  (∃ (n : Int),
  ∃ (n_1 : Int),
 ∃ (n_2 : Int),
 ∃ (n_3 : Int),
 ∃ (n_4 : Int),
 ∃ (cs : List V),
 ∃ (l : Nat),
 ∃ (c : Option Nat),
 ∃ (n_5 : Int),
 ∃ (n_6 : Int),
 ∃ (n_7 : Int),
 ∃ (n_8 : Int),
 ∃ (n_9 : Int),
 (PCon Tryz.Y (8 : Nat)
 [V.s #[(97 : UInt8), (123 : UInt8), (50 : UInt8), (44 : UInt8), (125 : UInt8)].toList]
 fun (v : V) =>
 v =
 V.tup
 [V.agg
 [V.i IntKind.i64 n, V.i IntKind.u64 n_1, V.i IntKind.u64 n_2, V.i IntKind.u64 n_3,
 V.i IntKind.u64 n_4, V.ts cs l c, V.i IntKind.i64 n_5, V.i IntKind.i64 n_6,
 V.i IntKind.i64 n_7],
 V.i IntKind.i64 n_8, V.i IntKind.i64 n_9]) ∧
 ∃ (cs_1 : List V),
 ∃ (l_1 : Nat),
 ∃ (c_1 : Option Nat),
 ∃ (cs_2 : List V),
 ∃ (l_2 : Nat),
 ∃ (c_2 : Option Nat),
 ∃ (cs_3 : List V),
 ∃ (l_3 : Nat),
 ∃ (c_3 : Option Nat),
 ∃ (cs_4 : List V),
 ∃ (l_4 : Nat),
 ∃ (c_4 : Option Nat),
 ∃ (b : Bool),
 ∃ (n_10 : Int),
 (PCon Tryz.Y (10 : Nat)
 [V.agg
 [V.i IntKind.i64 n, V.i IntKind.u64 n_1,
 V.i IntKind.u64 n_2, V.i IntKind.u64 n_3,
 V.i IntKind.u64 n_4, V.ts cs l c, V.i IntKind.i64 n_5,
 V.i IntKind.i64 n_6, V.i IntKind.i64 n_7]]
 fun (v : V) =>
 v =
 V.tup
 [V.agg
 [V.ts cs_1 l_1 c_1, V.ts cs_2 l_2 c_2,
 V.ts cs_3 l_3 c_3, V.ts cs_4 l_4 c_4, V.b b],
 V.i IntKind.i64 n_10]) ∧
 If (n_10 == (0 : Int))
 (If ((↑l_1 : Int) == (2 : Int))
 (((0 : Int) ≤ (1 : Int) ∧ (1 : Int) < (↑l_4 : Int)) ∧
 ∃ (cs : List V),
 ∃ (l : Nat),
 ∃ (c : Option Nat),
 takeX 1
 (List.drop (Int.toNat (1 : Int) * (1 : Nat))
 cs_4) =
 some [V.ts cs l c] ∧
 If ((↑l : Int) == (1 : Int))
 (((0 : Int) ≤ (1 : Int) ∧
 (1 : Int) < (↑l_4 : Int)) ∧
 ∃ (cs : List V),
 ∃ (l : Nat),
 ∃ (c : Option Nat),
 takeX 1
 (List.drop
 (Int.toNat (1 : Int) *
 (1 : Nat))
 cs_4) =
 some [V.ts cs l c] ∧
 ((0 : Int) ≤ (0 : Int) ∧
 (0 : Int) < (↑l : Int)) ∧
 ∃ (n : Int),
 takeX 1 cs =
 some [V.i IntKind.i64 n] ∧
 If (n == (1 : Int))
 (∃ (b_1 : Bool),
 (PCon Tryz.Y (11 : Nat)
 [V.agg
 [V.ts cs_1 l_1
 c_1,
 V.ts cs_2 l_2
 c_2,
 V.ts cs_3 l_3
 c_3,
 V.ts cs_4 l_4
 c_4,
 V.b b],
 V.s
 #[(97 : UInt8),
 (97 : UInt8),
 (97 :
 UInt8)].toList]
 fun (v : V) =>
 v = V.b b_1) ∧
 If b_1
 (∃ (b_2 : Bool),
 (PCon Tryz.Y
 (11 : Nat)
 [V.agg
 [V.ts cs_1
 l_1 c_1,
 V.ts cs_2
 l_2 c_2,
 V.ts cs_3
 l_3 c_3,
 V.ts cs_4
 l_4 c_4,
 V.b b],
 V.s
 #[(97 :
 UInt8)].toList]
 fun (v : V) =>
 v = V.b b_2) ∧
 If (!b_2)
 (∃ (b_3 : Bool),
 (PCon Tryz.Y
 (26 : Nat)
 [V.agg
 [V.ts
 cs_1
 l_1
 c_1,
 V.ts
 cs_2
 l_2
 c_2,
 V.ts
 cs_3
 l_3
 c_3,
 V.ts
 cs_4
 l_4
 c_4,
 V.b
 b]]
 fun
 (v :
 V) =>
 v =
 V.b
 b_3) ∧
 K Out.ret
 54
 [V.b b_3]
 h)
 (K Out.ret
 54
 [V.b false]
 h))
 (K Out.ret
 54
 [V.b false] h))
 (K Out.ret 54
 [V.b false] h))
 (K Out.ret 54 [V.b false] h))
 (K Out.ret 54 [V.b false] h))
 (K Out.ret 54 [V.b false] h)) := by kernel_rfl
end Go.Y
