/- What the pieces of functions come to: printed by program. -/
import Derived.Test.YteennilbmmlikaaGreatDoorYTryzP
import Derived.Test.YteennilbmmlikaaGreatDoorYLoop
namespace Go.Y
open Go.Proofs
set_option maxRecDepth 100000
set_option maxHeartbeats 0
theorem f28_0 (id : Nat) (x : Int) (h : Heap) (K : KT) : (codeP Tryz.Y (Tryz.Y.loc 28) 100 ((flat (bodyOf Tryz.f28))) ⟨(V.p (some (id, 0)) :: V.i .i64 x :: List.replicate 11 .undef), [], h⟩ (VQ [] K)) =
  (∃ (n : Int),
  hcells h id 3 1 = some [V.i IntKind.i64 n] ∧
 If (n == (0 : Int))
 (∃ (h_1 : Heap), hstore h id 3 [V.i IntKind.i64 x] = some h_1 ∧ K Out.normal 13 [] h_1)
 (K Out.normal 13 [] h)) := by kernel_rfl
theorem f68_0 (id : Nat) (x : Int) (h : Heap) (K : KT) : (codeP Tryz.Y (Tryz.Y.loc 68) 100 ((flat (bodyOf Tryz.f68))) ⟨(V.p (some (id, 0)) :: V.i .u8 x :: List.replicate 33 .undef), [], h⟩ (VQ [4] K)) =
  (∃ (n : Int),
  hcells h id 3 1 = some [V.i IntKind.i64 n] ∧
 If (n == (0 : Int))
 (∃ (n : Int),
 hcells h id 1 1 = some [V.i IntKind.i64 n] ∧
 ∃ (s : List UInt8),
 hcells h id 0 1 = some [V.s s] ∧
 If (ltI n (↑s.length : Int))
 (∃ (s : List UInt8),
 hcells h id 0 1 = some [V.s s] ∧
 ∃ (n : Int),
 hcells h id 1 1 = some [V.i IntKind.i64 n] ∧
 ∃ (c : UInt8),
 ((0 : Int) ≤ n ∧ s[n.toNat]? = some c) ∧
 K Out.ret 35 [V.b ((↑c.toNat : Int) == x)] h)
 (K Out.ret 35 [V.b false] h))
 (K Out.ret 35 [V.b false] h)) := by kernel_rfl
theorem f142_0 (id : Nat) (h : Heap) (K : KT) : (codeP Tryz.Y (Tryz.Y.loc 142) 100 ((flat (bodyOf Tryz.f142))) ⟨(V.p (some (id, 0)) :: List.replicate 44 .undef), [], h⟩ (VQ [2, 3] K)) =
  (Con Tryz.Y (174 : Nat) [V.p (some (id, 0)), V.i IntKind.i64 (0 : Int)] h fun (v : V) (h' : Heap) =>
  ∃ (n : Int),
 v = V.i IntKind.i64 n ∧
 ∃ (b : Bool),
 RCon Tryz.Y (68 : Nat) [V.p (some (id, 0)), V.i IntKind.u8 (44 : Int)] h' (V.b b) ∧
 If b
 (∃ (n_1 : Int),
 hcells h' id 1 1 = some [V.i IntKind.i64 n_1] ∧
 ∃ (h : Heap),
 hstore h' id 1 [V.i IntKind.i64 (IntKind.i64.wrap (n_1 + (1 : Int)))] = some h ∧
 ∃ (b : Bool),
 RCon Tryz.Y (68 : Nat) [V.p (some (id, 0)), V.i IntKind.u8 (125 : Int)] h (V.b b) ∧
 If (!b)
 (∃ (n_2 : Int),
 hcells h id 3 1 = some [V.i IntKind.i64 n_2] ∧
 If (n_2 == (0 : Int))
 (Con Tryz.Y (174 : Nat) [V.p (some (id, 0)), V.i IntKind.i64 n] h
 fun (v : V) (h' : Heap) =>
 ∃ (n_3 : Int),
 v = V.i IntKind.i64 n_3 ∧
 ∃ (b : Bool),
 RCon Tryz.Y (68 : Nat) [V.p (some (id, 0)), V.i IntKind.u8 (125 : Int)]
 h' (V.b b) ∧
 If (!b)
 (Con Tryz.Y (28 : Nat)
 [V.p (some (id, 0)), V.i IntKind.i64 (1 : Int)] h'
 fun (v : V) (h' : Heap) =>
 v = V.tup [] ∧
 K Out.ret 45
 [V.i IntKind.i64 (0 : Int), V.i IntKind.i64 (0 : Int)] h')
 (∃ (n_4 : Int),
 hcells h' id 1 1 = some [V.i IntKind.i64 n_4] ∧
 ∃ (h : Heap),
 hstore h' id 1
 [V.i IntKind.i64 (IntKind.i64.wrap (n_4 + (1 : Int)))] =
 some h ∧
 K Out.ret 45 [V.i IntKind.i64 n, V.i IntKind.i64 n_3] h))
 (∃ (b : Bool),
 RCon Tryz.Y (68 : Nat) [V.p (some (id, 0)), V.i IntKind.u8 (125 : Int)] h
 (V.b b) ∧
 If (!b)
 (Con Tryz.Y (28 : Nat) [V.p (some (id, 0)), V.i IntKind.i64 (1 : Int)] h
 fun (v : V) (h' : Heap) =>
 v = V.tup [] ∧
 K Out.ret 45 [V.i IntKind.i64 (0 : Int), V.i IntKind.i64 (0 : Int)]
 h')
 (∃ (n_3 : Int),
 hcells h id 1 1 = some [V.i IntKind.i64 n_3] ∧
 ∃ (h_1 : Heap),
 hstore h id 1
 [V.i IntKind.i64 (IntKind.i64.wrap (n_3 + (1 : Int)))] =
 some h_1 ∧
 K Out.ret 45 [V.i IntKind.i64 n, V.i IntKind.i64 (-1 : Int)]
 h_1)))
 (∃ (b : Bool),
 RCon Tryz.Y (68 : Nat) [V.p (some (id, 0)), V.i IntKind.u8 (125 : Int)] h (V.b b) ∧
 If (!b)
 (Con Tryz.Y (28 : Nat) [V.p (some (id, 0)), V.i IntKind.i64 (1 : Int)] h
 fun (v : V) (h' : Heap) =>
 v = V.tup [] ∧
 K Out.ret 45 [V.i IntKind.i64 (0 : Int), V.i IntKind.i64 (0 : Int)] h')
 (∃ (n_2 : Int),
 hcells h id 1 1 = some [V.i IntKind.i64 n_2] ∧
 ∃ (h_1 : Heap),
 hstore h id 1 [V.i IntKind.i64 (IntKind.i64.wrap (n_2 + (1 : Int)))] =
 some h_1 ∧
 K Out.ret 45 [V.i IntKind.i64 n, V.i IntKind.i64 (-1 : Int)] h_1)))
 (∃ (b : Bool),
 RCon Tryz.Y (68 : Nat) [V.p (some (id, 0)), V.i IntKind.u8 (125 : Int)] h' (V.b b) ∧
 If (!b)
 (Con Tryz.Y (28 : Nat) [V.p (some (id, 0)), V.i IntKind.i64 (1 : Int)] h'
 fun (v : V) (h' : Heap) =>
 v = V.tup [] ∧ K Out.ret 45 [V.i IntKind.i64 (0 : Int), V.i IntKind.i64 (0 : Int)] h')
 (∃ (n_1 : Int),
 hcells h' id 1 1 = some [V.i IntKind.i64 n_1] ∧
 ∃ (h : Heap),
 hstore h' id 1 [V.i IntKind.i64 (IntKind.i64.wrap (n_1 + (1 : Int)))] = some h ∧
 K Out.ret 45 [V.i IntKind.i64 n, V.i IntKind.i64 n] h))) := by kernel_rfl
theorem f174_0 (id : Nat) (x : Int) (h : Heap) (K : KT) : (codeP Tryz.Y (Tryz.Y.loc 174) 100 ((flat (bodyOf Tryz.f174))) ⟨(V.p (some (id, 0)) :: V.i .i64 x :: List.replicate 73 .undef), [], h⟩ (VQ [4] K)) =
  (∃ (n : Int),
  hcells h id 1 1 = some [V.i IntKind.i64 n] ∧
 ∃ (s : List UInt8),
 hcells h id 0 1 = some [V.s s] ∧
 If (ltI n (↑s.length : Int))
 (∃ (s : List UInt8),
 hcells h id 0 1 = some [V.s s] ∧
 ∃ (n : Int),
 hcells h id 1 1 = some [V.i IntKind.i64 n] ∧
 ∃ (c : UInt8),
 ((0 : Int) ≤ n ∧ s[n.toNat]? = some c) ∧
 If (leI (48 : Int) (↑c.toNat : Int))
 (∃ (s : List UInt8),
 hcells h id 0 1 = some [V.s s] ∧
 ∃ (n : Int),
 hcells h id 1 1 = some [V.i IntKind.i64 n] ∧
 ∃ (c : UInt8),
 ((0 : Int) ≤ n ∧ s[n.toNat]? = some c) ∧
 If (leI (↑c.toNat : Int) (56 : Int))
 (∃ (s : List UInt8),
 hcells h id 0 1 = some [V.s s] ∧
 ∃ (n : Int),
 hcells h id 1 1 = some [V.i IntKind.i64 n] ∧
 ∃ (c : UInt8),
 ((0 : Int) ≤ n ∧ s[n.toNat]? = some c) ∧
 If
 (leI x
 (IntKind.i64.wrap
 (IntKind.i64.wrap (↑c.toNat : Int) - (48 : Int))))
 (∃ (n : Int),
 hcells h id 1 1 = some [V.i IntKind.i64 n] ∧
 ∃ (h_1 : Heap),
 hstore h id 1
 [V.i IntKind.i64 (IntKind.i64.wrap (n + (1 : Int)))] =
 some h_1 ∧
 ∃ (s : List UInt8),
 hcells h_1 id 0 1 = some [V.s s] ∧
 ∃ (n : Int),
 hcells h_1 id 1 1 =
 some [V.i IntKind.i64 n] ∧
 ∃ (c : UInt8),
 ((0 : Int) ≤ IntKind.i64.wrap (n - (1 : Int)) ∧
 s[(IntKind.i64.wrap (n - (1 : Int))).toNat]? =
 some c) ∧
 K Out.ret 75
 [V.i IntKind.i64
 (IntKind.i64.wrap
 (IntKind.i64.wrap (↑c.toNat : Int) -
 (48 : Int)))]
 h_1)
 (Con Tryz.Y (28 : Nat)
 [V.p (some (id, 0)), V.i IntKind.i64 (1 : Int)] h
 fun (v : V) (h' : Heap) =>
 v = V.tup [] ∧
 K Out.ret 75 [V.i IntKind.i64 (-1 : Int)] h'))
 (Con Tryz.Y (28 : Nat) [V.p (some (id, 0)), V.i IntKind.i64 (1 : Int)] h
 fun (v : V) (h' : Heap) =>
 v = V.tup [] ∧ K Out.ret 75 [V.i IntKind.i64 (-1 : Int)] h'))
 (Con Tryz.Y (28 : Nat) [V.p (some (id, 0)), V.i IntKind.i64 (1 : Int)] h
 fun (v : V) (h' : Heap) =>
 v = V.tup [] ∧ K Out.ret 75 [V.i IntKind.i64 (-1 : Int)] h'))
 (Con Tryz.Y (28 : Nat) [V.p (some (id, 0)), V.i IntKind.i64 (1 : Int)] h fun (v : V) (h' : Heap) =>
 v = V.tup [] ∧ K Out.ret 75 [V.i IntKind.i64 (-1 : Int)] h')) := by kernel_rfl
theorem f173_0 (id : Nat) (h : Heap) (K : KT) : (codeP Tryz.Y (Tryz.Y.loc 173) 100 ((flat (bodyOf Tryz.f173))) ⟨(V.p (some (id, 0)) :: List.replicate 46 .undef), [], h⟩ (VQ [2] K)) =
  (∃ (b : Bool),
  RCon Tryz.Y (68 : Nat) [V.p (some (id, 0)), V.i IntKind.u8 (94 : Int)] h (V.b b) ∧
 If b
 (∃ (n : Int),
 hcells h id 1 1 = some [V.i IntKind.i64 n] ∧
 ∃ (h_1 : Heap),
 hstore h id 1 [V.i IntKind.i64 (IntKind.i64.wrap (n + (1 : Int)))] = some h_1 ∧
 ∃ (s : List UInt8),
 hcells h_1 id 0 1 = some [V.s s] ∧
 ∃ (n : Int),
 hcells h_1 id 1 1 = some [V.i IntKind.i64 n] ∧
 ∃ (cs : List V),
 ∃ (l : Nat),
 ∃ (c : Option Nat),
 ∃ (n_1 : Int),
 ∃ (n_2 : Int),
 (PCon Tryz.Y (62 : Nat) [V.s s, V.i IntKind.i64 n] fun (v : V) =>
 v = V.tup [V.ts cs l c, V.i IntKind.i64 n_1, V.i IntKind.i64 n_2]) ∧
 If (ltI n_1 (0 : Int))
 (∃ (h : Heap),
 hstore h_1 id 1 [V.i IntKind.i64 n_2] = some h ∧
 Con Tryz.Y (28 : Nat) [V.p (some (id, 0)), V.i IntKind.i64 (1 : Int)] h
 fun (v : V) (h' : Heap) =>
 v = V.tup [] ∧
 K Out.ret 47
 [V.lb
 [V.i IntKind.i64 (0 : Int), V.i IntKind.u64 (0 : Int),
 V.i IntKind.u64 (0 : Int), V.i IntKind.u64 (0 : Int),
 V.i IntKind.u64 (0 : Int),
 V.sl none 0 (some 0) 0,
 V.i IntKind.i64 (0 : Int), V.i IntKind.i64 (0 : Int),
 V.i IntKind.i64 (0 : Int)]]
 h')
 (∃ (h : Heap),
 hstore h_1 id 1 [V.i IntKind.i64 n_1] = some h ∧
 ∃ (n : Int),
 ∃ (n_3 : Int),
 ∃ (n_4 : Int),
 ∃ (n_5 : Int),
 (PCon Tryz.Y (103 : Nat) [V.ts cs l c, V.b b] fun (v : V) =>
 v =
 V.agg
 [V.i IntKind.u64 n, V.i IntKind.u64 n_3, V.i IntKind.u64 n_4,
 V.i IntKind.u64 n_5]) ∧
 K Out.ret 47
 [V.lb
 [V.i IntKind.i64 (1 : Int), V.i IntKind.u64 n,
 V.i IntKind.u64 n_3, V.i IntKind.u64 n_4, V.i IntKind.u64 n_5,
 V.sl none 0 (some 0) 0,
 V.i IntKind.i64 (0 : Int), V.i IntKind.i64 (0 : Int),
 V.i IntKind.i64 (0 : Int)]]
 h))
 (∃ (s : List UInt8),
 hcells h id 0 1 = some [V.s s] ∧
 ∃ (n : Int),
 hcells h id 1 1 = some [V.i IntKind.i64 n] ∧
 ∃ (cs : List V),
 ∃ (l : Nat),
 ∃ (c : Option Nat),
 ∃ (n_1 : Int),
 ∃ (n_2 : Int),
 (PCon Tryz.Y (62 : Nat) [V.s s, V.i IntKind.i64 n] fun (v : V) =>
 v = V.tup [V.ts cs l c, V.i IntKind.i64 n_1, V.i IntKind.i64 n_2]) ∧
 If (ltI n_1 (0 : Int))
 (∃ (h_1 : Heap),
 hstore h id 1 [V.i IntKind.i64 n_2] = some h_1 ∧
 Con Tryz.Y (28 : Nat) [V.p (some (id, 0)), V.i IntKind.i64 (1 : Int)] h_1
 fun (v : V) (h' : Heap) =>
 v = V.tup [] ∧
 K Out.ret 47
 [V.lb
 [V.i IntKind.i64 (0 : Int), V.i IntKind.u64 (0 : Int),
 V.i IntKind.u64 (0 : Int), V.i IntKind.u64 (0 : Int),
 V.i IntKind.u64 (0 : Int),
 V.sl none 0 (some 0) 0,
 V.i IntKind.i64 (0 : Int), V.i IntKind.i64 (0 : Int),
 V.i IntKind.i64 (0 : Int)]]
 h')
 (∃ (h_1 : Heap),
 hstore h id 1 [V.i IntKind.i64 n_1] = some h_1 ∧
 ∃ (n : Int),
 ∃ (n_3 : Int),
 ∃ (n_4 : Int),
 ∃ (n_5 : Int),
 (PCon Tryz.Y (103 : Nat) [V.ts cs l c, V.b b] fun (v : V) =>
 v =
 V.agg
 [V.i IntKind.u64 n, V.i IntKind.u64 n_3, V.i IntKind.u64 n_4,
 V.i IntKind.u64 n_5]) ∧
 K Out.ret 47
 [V.lb
 [V.i IntKind.i64 (1 : Int), V.i IntKind.u64 n, V.i IntKind.u64 n_3,
 V.i IntKind.u64 n_4, V.i IntKind.u64 n_5,
 V.sl none 0 (some 0) 0,
 V.i IntKind.i64 (0 : Int), V.i IntKind.i64 (0 : Int),
 V.i IntKind.i64 (0 : Int)]]
 h_1))) := by kernel_rfl
theorem f141_0 (id : Nat) (x : Int) (h : Heap) (K : KT) : (codeP Tryz.Y (Tryz.Y.loc 141) 100 ((flat (bodyOf Tryz.f141))) ⟨(V.p (some (id, 0)) :: V.i .i64 x :: List.replicate 138 .undef), [], h⟩ (VQ [4] K)) =
  (∃ (s : List UInt8),
  hcells h id 0 1 = some [V.s s] ∧
 ∃ (n : Int),
 hcells h id 1 1 = some [V.i IntKind.i64 n] ∧
 ∃ (c : UInt8),
 ((0 : Int) ≤ n ∧ s[n.toNat]? = some c) ∧
 If ((↑c.toNat : Int) == (42 : Int))
 (Con Tryz.Y (28 : Nat) [V.p (some (id, 0)), V.i IntKind.i64 (1 : Int)] h
 fun (v : V) (h' : Heap) =>
 v = V.tup [] ∧
 K Out.ret 140
 [V.lb
 [V.i IntKind.i64 (0 : Int), V.i IntKind.u64 (0 : Int), V.i IntKind.u64 (0 : Int),
 V.i IntKind.u64 (0 : Int), V.i IntKind.u64 (0 : Int),
 V.sl none 0 (some 0) 0, V.i IntKind.i64 (0 : Int),
 V.i IntKind.i64 (0 : Int), V.i IntKind.i64 (0 : Int)]]
 h')
 (If ((↑c.toNat : Int) == (43 : Int))
 (Con Tryz.Y (28 : Nat) [V.p (some (id, 0)), V.i IntKind.i64 (1 : Int)] h
 fun (v : V) (h' : Heap) =>
 v = V.tup [] ∧
 K Out.ret 140
 [V.lb
 [V.i IntKind.i64 (0 : Int), V.i IntKind.u64 (0 : Int), V.i IntKind.u64 (0 : Int),
 V.i IntKind.u64 (0 : Int), V.i IntKind.u64 (0 : Int),
 V.sl none 0 (some 0) 0, V.i IntKind.i64 (0 : Int),
 V.i IntKind.i64 (0 : Int), V.i IntKind.i64 (0 : Int)]]
 h')
 (If ((↑c.toNat : Int) == (63 : Int))
 (Con Tryz.Y (28 : Nat) [V.p (some (id, 0)), V.i IntKind.i64 (1 : Int)] h
 fun (v : V) (h' : Heap) =>
 v = V.tup [] ∧
 K Out.ret 140
 [V.lb
 [V.i IntKind.i64 (0 : Int), V.i IntKind.u64 (0 : Int), V.i IntKind.u64 (0 : Int),
 V.i IntKind.u64 (0 : Int), V.i IntKind.u64 (0 : Int),
 V.sl none 0 (some 0) 0, V.i IntKind.i64 (0 : Int),
 V.i IntKind.i64 (0 : Int), V.i IntKind.i64 (0 : Int)]]
 h')
 (If ((↑c.toNat : Int) == (123 : Int))
 (Con Tryz.Y (28 : Nat) [V.p (some (id, 0)), V.i IntKind.i64 (1 : Int)] h
 fun (v : V) (h' : Heap) =>
 v = V.tup [] ∧
 K Out.ret 140
 [V.lb
 [V.i IntKind.i64 (0 : Int), V.i IntKind.u64 (0 : Int), V.i IntKind.u64 (0 : Int),
 V.i IntKind.u64 (0 : Int), V.i IntKind.u64 (0 : Int),
 V.sl none 0 (some 0) 0, V.i IntKind.i64 (0 : Int),
 V.i IntKind.i64 (0 : Int), V.i IntKind.i64 (0 : Int)]]
 h')
 (If ((↑c.toNat : Int) == (40 : Int))
 (If (leI (64 : Int) x)
 (Con Tryz.Y (28 : Nat) [V.p (some (id, 0)), V.i IntKind.i64 (8 : Int)] h
 fun (v : V) (h' : Heap) =>
 v = V.tup [] ∧
 K Out.ret 140
 [V.lb
 [V.i IntKind.i64 (0 : Int), V.i IntKind.u64 (0 : Int), V.i IntKind.u64 (0 : Int),
 V.i IntKind.u64 (0 : Int), V.i IntKind.u64 (0 : Int),
 V.sl none 0 (some 0) 0, V.i IntKind.i64 (0 : Int),
 V.i IntKind.i64 (0 : Int), V.i IntKind.i64 (0 : Int)]]
 h')
 (∃ (n : Int),
 hcells h id 1 1 = some [V.i IntKind.i64 n] ∧
 ∃ (h_1 : Heap),
 hstore h id 1 [V.i IntKind.i64 (IntKind.i64.wrap (n + (1 : Int)))] = some h_1 ∧
 ∃ (n : Int),
 hcells h_1 id 2 1 = some [V.i IntKind.i64 n] ∧
 ∃ (h : Heap),
 hstore h_1 id 2 [V.i IntKind.i64 (IntKind.i64.wrap (n + (1 : Int)))] =
 some h ∧
 ∃ (n : Int),
 hcells h id 2 1 = some [V.i IntKind.i64 n] ∧
 If (leI n (9 : Int))
 (∃ (n : Int),
 hcells h id 2 1 = some [V.i IntKind.i64 n] ∧
 Con Tryz.Y (27 : Nat)
 [V.p (some (id, 0)),
 V.i IntKind.i64 (IntKind.i64.wrap (x + (1 : Int)))]
 h fun (v : V) (h' : Heap) =>
 ∃ (n_1 : Int),
 ∃ (n_2 : Int),
 ∃ (n_3 : Int),
 ∃ (n_4 : Int),
 ∃ (n_5 : Int),
 ∃ (cs : List V),
 ∃ (l : Nat),
 ∃ (c : Option Nat),
 ∃ (n_6 : Int),
 ∃ (n_7 : Int),
 ∃ (n_8 : Int),
 v =
 V.agg
 [V.i IntKind.i64 n_1,
 V.i IntKind.u64 n_2,
 V.i IntKind.u64 n_3,
 V.i IntKind.u64 n_4,
 V.i IntKind.u64 n_5, V.ts cs l c,
 V.i IntKind.i64 n_6,
 V.i IntKind.i64 n_7,
 V.i IntKind.i64 n_8] ∧
 ∃ (b : Bool),
 RCon Tryz.Y (68 : Nat)
 [V.p (some (id, 0)),
 V.i IntKind.u8 (41 : Int)]
 h' (V.b b) ∧
 If (!b)
 (Con Tryz.Y (28 : Nat)
 [V.p (some (id, 0)),
 V.i IntKind.i64 (1 : Int)]
 h' fun (v : V) (h' : Heap) =>
 v = V.tup [] ∧
 K Out.ret 140
 [V.lb
 [V.i IntKind.i64 (0 : Int),
 V.i IntKind.u64 (0 : Int),
 V.i IntKind.u64 (0 : Int),
 V.i IntKind.u64 (0 : Int),
 V.i IntKind.u64 (0 : Int),
 V.sl none 0
 (some 0)
 0,
 V.i IntKind.i64 (0 : Int),
 V.i IntKind.i64 (0 : Int),
 V.i IntKind.i64
 (0 : Int)]]
 h')
 (∃ (n_9 : Int),
 hcells h' id 1
 1 =
 some [V.i IntKind.i64 n_9] ∧
 ∃ (h : Heap),
 hstore h' id 1
 [V.i IntKind.i64
 (IntKind.i64.wrap
 (n_9 +
 (1 : Int)))] =
 some h ∧
 K Out.ret 140
 [V.lb
 [V.i IntKind.i64
 (7 : Int),
 V.i IntKind.u64
 (0 : Int),
 V.i IntKind.u64
 (0 : Int),
 V.i IntKind.u64
 (0 : Int),
 V.i IntKind.u64
 (0 : Int),
 V.ts
 [V.i IntKind.i64
 n_1,
 V.i IntKind.u64
 n_2,
 V.i IntKind.u64
 n_3,
 V.i IntKind.u64
 n_4,
 V.i IntKind.u64
 n_5,
 V.ts cs l c,
 V.i IntKind.i64
 n_6,
 V.i IntKind.i64
 n_7,
 V.i IntKind.i64
 n_8]
 1
 (some 1),
 V.i IntKind.i64
 (0 : Int),
 V.i IntKind.i64
 (0 : Int),
 V.i IntKind.i64 n]]
 h))
 (Con Tryz.Y (27 : Nat)
 [V.p (some (id, 0)),
 V.i IntKind.i64 (IntKind.i64.wrap (x + (1 : Int)))]
 h fun (v : V) (h' : Heap) =>
 ∃ (n : Int),
 ∃ (n_1 : Int),
 ∃ (n_2 : Int),
 ∃ (n_3 : Int),
 ∃ (n_4 : Int),
 ∃ (cs : List V),
 ∃ (l : Nat),
 ∃ (c : Option Nat),
 ∃ (n_5 : Int),
 ∃ (n_6 : Int),
 ∃ (n_7 : Int),
 v =
 V.agg
 [V.i IntKind.i64 n, V.i IntKind.u64 n_1,
 V.i IntKind.u64 n_2, V.i IntKind.u64 n_3,
 V.i IntKind.u64 n_4, V.ts cs l c,
 V.i IntKind.i64 n_5, V.i IntKind.i64 n_6,
 V.i IntKind.i64 n_7] ∧
 ∃ (b : Bool),
 RCon Tryz.Y (68 : Nat)
 [V.p (some (id, 0)),
 V.i IntKind.u8 (41 : Int)]
 h' (V.b b) ∧
 If (!b)
 (Con Tryz.Y (28 : Nat)
 [V.p (some (id, 0)),
 V.i IntKind.i64 (1 : Int)]
 h' fun (v : V) (h' : Heap) =>
 v = V.tup [] ∧
 K Out.ret 140
 [V.lb
 [V.i IntKind.i64 (0 : Int),
 V.i IntKind.u64 (0 : Int),
 V.i IntKind.u64 (0 : Int),
 V.i IntKind.u64 (0 : Int),
 V.i IntKind.u64 (0 : Int),
 V.sl none 0
 (some 0)
 0,
 V.i IntKind.i64 (0 : Int),
 V.i IntKind.i64 (0 : Int),
 V.i IntKind.i64 (0 : Int)]]
 h')
 (∃ (n_8 : Int),
 hcells h' id 1 1 =
 some [V.i IntKind.i64 n_8] ∧
 ∃ (h : Heap),
 hstore h' id 1
 [V.i IntKind.i64
 (IntKind.i64.wrap
 (n_8 + (1 : Int)))] =
 some h ∧
 K Out.ret 140
 [V.lb
 [V.i IntKind.i64 (7 : Int),
 V.i IntKind.u64 (0 : Int),
 V.i IntKind.u64 (0 : Int),
 V.i IntKind.u64 (0 : Int),
 V.i IntKind.u64 (0 : Int),
 V.ts
 [V.i IntKind.i64 n,
 V.i IntKind.u64 n_1,
 V.i IntKind.u64 n_2,
 V.i IntKind.u64 n_3,
 V.i IntKind.u64 n_4,
 V.ts cs l c,
 V.i IntKind.i64 n_5,
 V.i IntKind.i64 n_6,
 V.i IntKind.i64 n_7]
 1
 (some 1),
 V.i IntKind.i64 (0 : Int),
 V.i IntKind.i64 (0 : Int),
 V.i IntKind.i64
 (0 : Int)]]
 h))))
 (∃ (n : Int),
 hcells h id 1 1 = some [V.i IntKind.i64 n] ∧
 ∃ (h_1 : Heap),
 hstore h id 1 [V.i IntKind.i64 (IntKind.i64.wrap (n + (1 : Int)))] = some h_1 ∧
 If ((↑c.toNat : Int) == (91 : Int))
 (Con Tryz.Y (173 : Nat) [V.p (some (id, 0))] h_1 fun (v : V) (h' : Heap) =>
 ∃ (n : Int),
 ∃ (n_1 : Int),
 ∃ (n_2 : Int),
 ∃ (n_3 : Int),
 ∃ (n_4 : Int),
 ∃ (cs : List V),
 ∃ (l : Nat),
 ∃ (c : Option Nat),
 ∃ (n_5 : Int),
 ∃ (n_6 : Int),
 ∃ (n_7 : Int),
 v =
 V.agg
 [V.i IntKind.i64 n, V.i IntKind.u64 n_1,
 V.i IntKind.u64 n_2, V.i IntKind.u64 n_3,
 V.i IntKind.u64 n_4, V.ts cs l c, V.i IntKind.i64 n_5,
 V.i IntKind.i64 n_6, V.i IntKind.i64 n_7] ∧
 K Out.ret 140
 [V.lb
 [V.i IntKind.i64 n, V.i IntKind.u64 n_1,
 V.i IntKind.u64 n_2, V.i IntKind.u64 n_3,
 V.i IntKind.u64 n_4, V.ts cs l c, V.i IntKind.i64 n_5,
 V.i IntKind.i64 n_6, V.i IntKind.i64 n_7]]
 h')
 (If ((↑c.toNat : Int) == (46 : Int))
 (∃ (n : Int),
 ∃ (n_1 : Int),
 ∃ (n_2 : Int),
 ∃ (n_3 : Int),
 (PCon Tryz.Y (103 : Nat)
 [V.sl none 0 (some 0) 0, V.b true]
 fun (v : V) =>
 v =
 V.agg
 [V.i IntKind.u64 n, V.i IntKind.u64 n_1, V.i IntKind.u64 n_2,
 V.i IntKind.u64 n_3]) ∧
 K Out.ret 140
 [V.lb
 [V.i IntKind.i64 (1 : Int), V.i IntKind.u64 n, V.i IntKind.u64 n_1,
 V.i IntKind.u64 n_2, V.i IntKind.u64 n_3,
 V.sl none 0 (some 0) 0,
 V.i IntKind.i64 (0 : Int), V.i IntKind.i64 (0 : Int),
 V.i IntKind.i64 (0 : Int)]]
 h_1)
 (If ((↑c.toNat : Int) == (94 : Int))
 (K Out.ret 140
 [V.lb
 [V.i IntKind.i64 (2 : Int), V.i IntKind.u64 (0 : Int),
 V.i IntKind.u64 (0 : Int), V.i IntKind.u64 (0 : Int),
 V.i IntKind.u64 (0 : Int),
 V.sl none 0 (some 0) 0,
 V.i IntKind.i64 (0 : Int), V.i IntKind.i64 (0 : Int),
 V.i IntKind.i64 (0 : Int)]]
 h_1)
 (If ((↑c.toNat : Int) == (36 : Int))
 (K Out.ret 140
 [V.lb
 [V.i IntKind.i64 (3 : Int), V.i IntKind.u64 (0 : Int),
 V.i IntKind.u64 (0 : Int), V.i IntKind.u64 (0 : Int),
 V.i IntKind.u64 (0 : Int),
 V.sl none 0 (some 0) 0,
 V.i IntKind.i64 (0 : Int), V.i IntKind.i64 (0 : Int),
 V.i IntKind.i64 (0 : Int)]]
 h_1)
 (If ((↑c.toNat : Int) == (92 : Int))
 (∃ (n : Int),
 hcells h_1 id 1 1 = some [V.i IntKind.i64 n] ∧
 ∃ (s : List UInt8),
 hcells h_1 id 0 1 = some [V.s s] ∧
 If (leI (↑s.length : Int) n)
 (Con Tryz.Y (28 : Nat)
 [V.p (some (id, 0)), V.i IntKind.i64 (1 : Int)] h_1
 fun (v : V) (h' : Heap) =>
 v = V.tup [] ∧
 K Out.ret 140
 [V.lb
 [V.i IntKind.i64 (0 : Int), V.i IntKind.u64 (0 : Int),
 V.i IntKind.u64 (0 : Int), V.i IntKind.u64 (0 : Int),
 V.i IntKind.u64 (0 : Int),
 V.sl none 0 (some 0) 0,
 V.i IntKind.i64 (0 : Int), V.i IntKind.i64 (0 : Int),
 V.i IntKind.i64 (0 : Int)]]
 h')
 (∃ (s : List UInt8),
 hcells h_1 id 0 1 = some [V.s s] ∧
 ∃ (n : Int),
 hcells h_1 id 1 1 =
 some [V.i IntKind.i64 n] ∧
 ∃ (c : UInt8),
 ((0 : Int) ≤ n ∧ s[n.toNat]? = some c) ∧
 ∃ (n : Int),
 hcells h_1 id 1 1 =
 some [V.i IntKind.i64 n] ∧
 ∃ (h : Heap),
 hstore h_1 id 1
 [V.i IntKind.i64
 (IntKind.i64.wrap (n + (1 : Int)))] =
 some h ∧
 ∃ (n : Int),
 ∃ (n_1 : Int),
 ∃ (n_2 : Int),
 ∃ (n_3 : Int),
 (PCon Tryz.Y (96 : Nat)
 [V.i IntKind.u8 (↑c.toNat : Int)]
 fun (v : V) =>
 v =
 V.agg
 [V.i IntKind.u64 n,
 V.i IntKind.u64 n_1,
 V.i IntKind.u64 n_2,
 V.i IntKind.u64 n_3]) ∧
 K Out.ret 140
 [V.lb
 [V.i IntKind.i64 (1 : Int),
 V.i IntKind.u64 n,
 V.i IntKind.u64 n_1,
 V.i IntKind.u64 n_2,
 V.i IntKind.u64 n_3,
 V.sl none 0
 (some 0)
 0,
 V.i IntKind.i64 (0 : Int),
 V.i IntKind.i64 (0 : Int),
 V.i IntKind.i64 (0 : Int)]]
 h))
 (∃ (n : Int),
 ∃ (n_1 : Int),
 ∃ (n_2 : Int),
 ∃ (n_3 : Int),
 (PCon Tryz.Y (96 : Nat) [V.i IntKind.u8 (↑c.toNat : Int)]
 fun (v : V) =>
 v =
 V.agg
 [V.i IntKind.u64 n, V.i IntKind.u64 n_1, V.i IntKind.u64 n_2,
 V.i IntKind.u64 n_3]) ∧
 K Out.ret 140
 [V.lb
 [V.i IntKind.i64 (1 : Int), V.i IntKind.u64 n,
 V.i IntKind.u64 n_1, V.i IntKind.u64 n_2, V.i IntKind.u64 n_3,
 V.sl none 0 (some 0) 0,
 V.i IntKind.i64 (0 : Int), V.i IntKind.i64 (0 : Int),
 V.i IntKind.i64 (0 : Int)]]
 h_1))))))))))) := by kernel_rfl
end Go.Y
