/- What the pieces of functions come to: printed by program. -/
import Derived.Test.YteennilbmmlikaaGreatDoorYTryzP
import Derived.Test.YteennilbmmlikaaGreatDoorYLoop
namespace Go.Y
open Go.Proofs
set_option maxRecDepth 100000
set_option maxHeartbeats 0
theorem f114_0 (id : Nat) (k : Int) (s0 : Int) (s1 : Int) (s2 : Int) (s3 : Int) (kc : List V) (kn : Nat) (lo : Int) (hi : Int) (gn : Int) (h : Heap) (K : KT) : (codeP Tryz.Y (Tryz.Y.loc 114) 100 (pre (flat (bodyOf Tryz.f114))) ⟨(V.p (some (id, 0)) :: V.agg [V.i .i64 k, V.i .u64 s0, V.i .u64 s1, V.i .u64 s2, V.i .u64 s3, V.ts kc kn none, V.i .i64 lo, V.i .i64 hi, V.i .i64 gn] :: List.replicate 61 .undef), [], h⟩ (VQ [0, 2, 3, 28, 29, 30] K)) =
  (If (k == (1 : Int))
  (∃ (s : List UInt8),
 (PCon Tryz.Y (147 : Nat) [V.agg [V.i IntKind.u64 s0, V.i IntKind.u64 s1, V.i IntKind.u64 s2, V.i IntKind.u64 s3]]
 fun (v : V) => v = V.s s) ∧
 Con Tryz.Y (146 : Nat) [V.p (some (id, 0)), V.s s] h fun (v : V) (h' : Heap) =>
 ∃ (n : Int),
 v = V.tup [V.i IntKind.i64 n, V.nilifc] ∧
 K Out.normal 63
 [V.p (some (id, 0)), V.undef,
 V.lb
 [V.i IntKind.i64 k, V.i IntKind.u64 s0, V.i IntKind.u64 s1, V.i IntKind.u64 s2, V.i IntKind.u64 s3,
 V.ts kc kn none, V.i IntKind.i64 lo, V.i IntKind.i64 hi, V.i IntKind.i64 gn],
 V.ts kc kn none, V.i IntKind.i64 (↑kn : Int), V.i IntKind.i64 (0 : Int)]
 h' ∨
 ∃ (t : TypeId),
 ∃ (v_1 : V),
 v = V.tup [V.i IntKind.i64 n, V.ifc t v_1] ∧
 K Out.normal 63
 [V.p (some (id, 0)), V.undef,
 V.lb
 [V.i IntKind.i64 k, V.i IntKind.u64 s0, V.i IntKind.u64 s1, V.i IntKind.u64 s2,
 V.i IntKind.u64 s3, V.ts kc kn none, V.i IntKind.i64 lo, V.i IntKind.i64 hi,
 V.i IntKind.i64 gn],
 V.ts kc kn none, V.i IntKind.i64 (↑kn : Int), V.i IntKind.i64 (0 : Int)]
 h')
  (If (k == (2 : Int))
 (Con Tryz.Y (126 : Nat) [V.p (some (id, 0)), V.i IntKind.u8 (94 : Int)] h fun (v : V) (h' : Heap) =>
 v = V.nilifc ∧
 K Out.normal 63
 [V.p (some (id, 0)), V.undef,
 V.lb
 [V.i IntKind.i64 k, V.i IntKind.u64 s0, V.i IntKind.u64 s1, V.i IntKind.u64 s2, V.i IntKind.u64 s3,
 V.ts kc kn none, V.i IntKind.i64 lo, V.i IntKind.i64 hi, V.i IntKind.i64 gn],
 V.ts kc kn none, V.i IntKind.i64 (↑kn : Int), V.i IntKind.i64 (0 : Int)]
 h' ∨
 ∃ (t : TypeId),
 ∃ (v_1 : V),
 v = V.ifc t v_1 ∧
 K Out.normal 63
 [V.p (some (id, 0)), V.undef,
 V.lb
 [V.i IntKind.i64 k, V.i IntKind.u64 s0, V.i IntKind.u64 s1, V.i IntKind.u64 s2, V.i IntKind.u64 s3,
 V.ts kc kn none, V.i IntKind.i64 lo, V.i IntKind.i64 hi, V.i IntKind.i64 gn],
 V.ts kc kn none, V.i IntKind.i64 (↑kn : Int), V.i IntKind.i64 (0 : Int)]
 h')
 (If (k == (3 : Int))
 (Con Tryz.Y (126 : Nat) [V.p (some (id, 0)), V.i IntKind.u8 (36 : Int)] h fun (v : V) (h' : Heap) =>
 v = V.nilifc ∧
 K Out.normal 63
 [V.p (some (id, 0)), V.undef,
 V.lb
 [V.i IntKind.i64 k, V.i IntKind.u64 s0, V.i IntKind.u64 s1, V.i IntKind.u64 s2, V.i IntKind.u64 s3,
 V.ts kc kn none, V.i IntKind.i64 lo, V.i IntKind.i64 hi, V.i IntKind.i64 gn],
 V.ts kc kn none, V.i IntKind.i64 (↑kn : Int), V.i IntKind.i64 (0 : Int)]
 h' ∨
 ∃ (t : TypeId),
 ∃ (v_1 : V),
 v = V.ifc t v_1 ∧
 K Out.normal 63
 [V.p (some (id, 0)), V.undef,
 V.lb
 [V.i IntKind.i64 k, V.i IntKind.u64 s0, V.i IntKind.u64 s1, V.i IntKind.u64 s2,
 V.i IntKind.u64 s3, V.ts kc kn none, V.i IntKind.i64 lo, V.i IntKind.i64 hi,
 V.i IntKind.i64 gn],
 V.ts kc kn none, V.i IntKind.i64 (↑kn : Int), V.i IntKind.i64 (0 : Int)]
 h')
 (If (k == (7 : Int))
 (Con Tryz.Y (126 : Nat) [V.p (some (id, 0)), V.i IntKind.u8 (40 : Int)] h fun (v : V) (h' : Heap) =>
 v = V.nilifc ∧
 K Out.normal 63
 [V.p (some (id, 0)), V.undef,
 V.lb
 [V.i IntKind.i64 k, V.i IntKind.u64 s0, V.i IntKind.u64 s1, V.i IntKind.u64 s2, V.i IntKind.u64 s3,
 V.ts kc kn none, V.i IntKind.i64 lo, V.i IntKind.i64 hi, V.i IntKind.i64 gn],
 V.ts kc kn none, V.i IntKind.i64 (↑kn : Int), V.i IntKind.i64 (0 : Int)]
 h' ∨
 ∃ (t : TypeId),
 ∃ (v_1 : V),
 v = V.ifc t v_1 ∧
 K Out.normal 63
 [V.p (some (id, 0)), V.undef,
 V.lb
 [V.i IntKind.i64 k, V.i IntKind.u64 s0, V.i IntKind.u64 s1, V.i IntKind.u64 s2,
 V.i IntKind.u64 s3, V.ts kc kn none, V.i IntKind.i64 lo, V.i IntKind.i64 hi,
 V.i IntKind.i64 gn],
 V.ts kc kn none, V.i IntKind.i64 (↑kn : Int), V.i IntKind.i64 (0 : Int)]
 h')
 (K Out.normal 63
 [V.p (some (id, 0)), V.undef,
 V.lb
 [V.i IntKind.i64 k, V.i IntKind.u64 s0, V.i IntKind.u64 s1, V.i IntKind.u64 s2, V.i IntKind.u64 s3,
 V.ts kc kn none, V.i IntKind.i64 lo, V.i IntKind.i64 hi, V.i IntKind.i64 gn],
 V.ts kc kn none, V.i IntKind.i64 (↑kn : Int), V.i IntKind.i64 (0 : Int)]
 h))))) := by kernel_rfl
theorem f114_1 (id : Nat) (k : Int) (s0 : Int) (s1 : Int) (s2 : Int) (s3 : Int) (kc : List V) (kn : Nat) (lo : Int) (hi : Int) (gn : Int) (x30 : Int) (h : Heap) (K : KT) : (codeP Tryz.Y (Tryz.Y.loc 114) 100 ((flat (loopB (post (flat (bodyOf Tryz.f114)))))) ⟨mk 63 (([0, 2, 3, 28, 29, 30] : List Nat).zip [V.p (some (id, 0)), V.undef, V.lb [V.i IntKind.i64 k, V.i IntKind.u64 s0, V.i IntKind.u64 s1, V.i IntKind.u64 s2, V.i IntKind.u64 s3, V.ts kc kn none, V.i IntKind.i64 lo, V.i IntKind.i64 hi, V.i IntKind.i64 gn], V.ts kc kn none, V.i IntKind.i64 (↑kn : Int), V.i IntKind.i64 x30]), [], h⟩ (VQ [0, 2, 3, 28, 29, 30] K)) =
  (If (ltI x30 (↑kn : Int))
  (((0 : Int) ≤ x30 ∧ x30 < (↑kn : Int)) ∧
 ∃ (n : Int),
 ∃ (n_1 : Int),
 ∃ (n_2 : Int),
 ∃ (n_3 : Int),
 ∃ (n_4 : Int),
 ∃ (cs : List V),
 ∃ (l : Nat),
 ∃ (c : Option Nat),
 ∃ (n_5 : Int),
 ∃ (n_6 : Int),
 ∃ (n_7 : Int),
 takeX 9 (List.drop (x30.toNat * (9 : Nat)) kc) =
 some
 [V.i IntKind.i64 n, V.i IntKind.u64 n_1, V.i IntKind.u64 n_2, V.i IntKind.u64 n_3,
 V.i IntKind.u64 n_4, V.ts cs l c, V.i IntKind.i64 n_5, V.i IntKind.i64 n_6,
 V.i IntKind.i64 n_7] ∧
 If (ltI (0 : Int) x30)
 (If (k == (5 : Int))
 (Con Tryz.Y (126 : Nat) [V.p (some (id, 0)), V.i IntKind.u8 (124 : Int)] h
 fun (v : V) (h' : Heap) =>
 (v = V.nilifc ∧
 Con Tryz.Y (114 : Nat)
 [V.p (some (id, 0)),
 V.agg
 [V.i IntKind.i64 n, V.i IntKind.u64 n_1, V.i IntKind.u64 n_2,
 V.i IntKind.u64 n_3, V.i IntKind.u64 n_4, V.ts cs l c,
 V.i IntKind.i64 n_5, V.i IntKind.i64 n_6, V.i IntKind.i64 n_7]]
 h' fun (v : V) (h' : Heap) =>
 v = V.tup [] ∧
 K Out.normal 63
 [V.p (some (id, 0)), V.undef,
 V.lb
 [V.i IntKind.i64 k, V.i IntKind.u64 s0, V.i IntKind.u64 s1,
 V.i IntKind.u64 s2, V.i IntKind.u64 s3, V.ts kc kn none,
 V.i IntKind.i64 lo, V.i IntKind.i64 hi, V.i IntKind.i64 gn],
 V.ts kc kn none, V.i IntKind.i64 (↑kn : Int),
 V.i IntKind.i64 (IntKind.i64.wrap (x30 + (1 : Int)))]
 h') ∨
 ∃ (t : TypeId),
 ∃ (v_1 : V),
 v = V.ifc t v_1 ∧
 Con Tryz.Y (114 : Nat)
 [V.p (some (id, 0)),
 V.agg
 [V.i IntKind.i64 n, V.i IntKind.u64 n_1, V.i IntKind.u64 n_2,
 V.i IntKind.u64 n_3, V.i IntKind.u64 n_4, V.ts cs l c,
 V.i IntKind.i64 n_5, V.i IntKind.i64 n_6, V.i IntKind.i64 n_7]]
 h' fun (v : V) (h' : Heap) =>
 v = V.tup [] ∧
 K Out.normal 63
 [V.p (some (id, 0)), V.undef,
 V.lb
 [V.i IntKind.i64 k, V.i IntKind.u64 s0, V.i IntKind.u64 s1,
 V.i IntKind.u64 s2, V.i IntKind.u64 s3, V.ts kc kn none,
 V.i IntKind.i64 lo, V.i IntKind.i64 hi, V.i IntKind.i64 gn],
 V.ts kc kn none, V.i IntKind.i64 (↑kn : Int),
 V.i IntKind.i64 (IntKind.i64.wrap (x30 + (1 : Int)))]
 h')
 (Con Tryz.Y (114 : Nat)
 [V.p (some (id, 0)),
 V.agg
 [V.i IntKind.i64 n, V.i IntKind.u64 n_1, V.i IntKind.u64 n_2, V.i IntKind.u64 n_3,
 V.i IntKind.u64 n_4, V.ts cs l c, V.i IntKind.i64 n_5, V.i IntKind.i64 n_6,
 V.i IntKind.i64 n_7]]
 h fun (v : V) (h' : Heap) =>
 v = V.tup [] ∧
 K Out.normal 63
 [V.p (some (id, 0)), V.undef,
 V.lb
 [V.i IntKind.i64 k, V.i IntKind.u64 s0, V.i IntKind.u64 s1,
 V.i IntKind.u64 s2, V.i IntKind.u64 s3, V.ts kc kn none, V.i IntKind.i64 lo,
 V.i IntKind.i64 hi, V.i IntKind.i64 gn],
 V.ts kc kn none, V.i IntKind.i64 (↑kn : Int),
 V.i IntKind.i64 (IntKind.i64.wrap (x30 + (1 : Int)))]
 h'))
 (Con Tryz.Y (114 : Nat)
 [V.p (some (id, 0)),
 V.agg
 [V.i IntKind.i64 n, V.i IntKind.u64 n_1, V.i IntKind.u64 n_2, V.i IntKind.u64 n_3,
 V.i IntKind.u64 n_4, V.ts cs l c, V.i IntKind.i64 n_5, V.i IntKind.i64 n_6,
 V.i IntKind.i64 n_7]]
 h fun (v : V) (h' : Heap) =>
 v = V.tup [] ∧
 K Out.normal 63
 [V.p (some (id, 0)), V.undef,
 V.lb
 [V.i IntKind.i64 k, V.i IntKind.u64 s0, V.i IntKind.u64 s1, V.i IntKind.u64 s2,
 V.i IntKind.u64 s3, V.ts kc kn none, V.i IntKind.i64 lo, V.i IntKind.i64 hi,
 V.i IntKind.i64 gn],
 V.ts kc kn none, V.i IntKind.i64 (↑kn : Int),
 V.i IntKind.i64 (IntKind.i64.wrap (x30 + (1 : Int)))]
 h'))
  (K (Out.exit 1) 63
 [V.p (some (id, 0)), V.undef,
 V.lb
 [V.i IntKind.i64 k, V.i IntKind.u64 s0, V.i IntKind.u64 s1, V.i IntKind.u64 s2, V.i IntKind.u64 s3,
 V.ts kc kn none, V.i IntKind.i64 lo, V.i IntKind.i64 hi, V.i IntKind.i64 gn],
 V.ts kc kn none, V.i IntKind.i64 (↑kn : Int), V.i IntKind.i64 x30]
 h)) := by kernel_rfl
theorem f114_2 (id : Nat) (k : Int) (s0 : Int) (s1 : Int) (s2 : Int) (s3 : Int) (kc : List V) (kn : Nat) (lo : Int) (hi : Int) (gn : Int) (h : Heap) (K : KT) : (codeP Tryz.Y (Tryz.Y.loc 114) 100 (((post (flat (bodyOf Tryz.f114))).drop 1)) ⟨mk 63 (([0, 3] : List Nat).zip [V.p (some (id, 0)), V.lb [V.i IntKind.i64 k, V.i IntKind.u64 s0, V.i IntKind.u64 s1, V.i IntKind.u64 s2, V.i IntKind.u64 s3, V.ts kc kn none, V.i IntKind.i64 lo, V.i IntKind.i64 hi, V.i IntKind.i64 gn]]), [], h⟩ (VQ [] K)) =
  (If (k == (6 : Int))
  (∃ (s : List UInt8),
 (PCon Tryz.Y (148 : Nat) [V.i IntKind.i64 lo, V.i IntKind.i64 hi] fun (v : V) => v = V.s s) ∧
 Con Tryz.Y (146 : Nat) [V.p (some (id, 0)), V.s s] h fun (v : V) (h' : Heap) =>
 ∃ (n : Int),
 v = V.tup [V.i IntKind.i64 n, V.nilifc] ∧ K Out.normal 63 [] h' ∨
 ∃ (t : TypeId), ∃ (v_1 : V), v = V.tup [V.i IntKind.i64 n, V.ifc t v_1] ∧ K Out.normal 63 [] h')
  (If (k == (7 : Int))
 (Con Tryz.Y (126 : Nat) [V.p (some (id, 0)), V.i IntKind.u8 (41 : Int)] h fun (v : V) (h' : Heap) =>
 v = V.nilifc ∧ K Out.normal 63 [] h' ∨
 ∃ (t : TypeId), ∃ (v_1 : V), v = V.ifc t v_1 ∧ K Out.normal 63 [] h')
 (K Out.normal 63 [] h))) := by kernel_rfl
theorem f148_0 (x : Int) (y : Int) (h : Heap) (K : KT) : (codeP Tryz.Y (Tryz.Y.loc 148) 100 ((flat (bodyOf Tryz.f148))) ⟨(V.i .i64 x :: V.i .i64 y :: List.replicate 47 .undef), [], h⟩ (VQ [4] K)) =
  (If (x == (0 : Int))
  (If (y == (-1 : Int)) (K Out.ret 49 [V.s #[(42 : UInt8)].toList] h)
 (If (x == (1 : Int))
 (If (y == (-1 : Int)) (K Out.ret 49 [V.s #[(43 : UInt8)].toList] h)
 (If (x == (0 : Int))
 (If (y == (1 : Int)) (K Out.ret 49 [V.s #[(63 : UInt8)].toList] h)
 (If (x == y)
 (∃ (s : List UInt8),
 (PCon Tryz.Y (178 : Nat) [V.i IntKind.i64 x] fun (v : V) => v = V.s s) ∧
 #[(123 : UInt8)].toList.length + s.length ≤ 1152921504606846976 ∧
 (#[(123 : UInt8)].toList ++ s).length + #[(125 : UInt8)].toList.length ≤
 1152921504606846976 ∧
 K Out.ret 49 [V.s (#[(123 : UInt8)].toList ++ s ++ #[(125 : UInt8)].toList)] h)
 (If (y == (-1 : Int))
 (∃ (s : List UInt8),
 (PCon Tryz.Y (178 : Nat) [V.i IntKind.i64 x] fun (v : V) => v = V.s s) ∧
 #[(123 : UInt8)].toList.length + s.length ≤ 1152921504606846976 ∧
 (#[(123 : UInt8)].toList ++ s).length + #[(44 : UInt8), (125 : UInt8)].toList.length ≤
 1152921504606846976 ∧
 K Out.ret 49
 [V.s (#[(123 : UInt8)].toList ++ s ++ #[(44 : UInt8), (125 : UInt8)].toList)] h)
 (∃ (s : List UInt8),
 (PCon Tryz.Y (178 : Nat) [V.i IntKind.i64 x] fun (v : V) => v = V.s s) ∧
 #[(123 : UInt8)].toList.length + s.length ≤ 1152921504606846976 ∧
 (#[(123 : UInt8)].toList ++ s).length + #[(44 : UInt8)].toList.length ≤
 1152921504606846976 ∧
 ∃ (s_1 : List UInt8),
 (PCon Tryz.Y (178 : Nat) [V.i IntKind.i64 y] fun (v : V) => v = V.s s_1) ∧
 (#[(123 : UInt8)].toList ++ s ++ #[(44 : UInt8)].toList).length + s_1.length ≤
 1152921504606846976 ∧
 (#[(123 : UInt8)].toList ++ s ++ #[(44 : UInt8)].toList ++ s_1).length +
 #[(125 : UInt8)].toList.length ≤
 1152921504606846976 ∧
 K Out.ret 49
 [V.s
 (#[(123 : UInt8)].toList ++ s ++ #[(44 : UInt8)].toList ++ s_1 ++
 #[(125 : UInt8)].toList)]
 h))))
 (If (x == y)
 (∃ (s : List UInt8),
 (PCon Tryz.Y (178 : Nat) [V.i IntKind.i64 x] fun (v : V) => v = V.s s) ∧
 #[(123 : UInt8)].toList.length + s.length ≤ 1152921504606846976 ∧
 (#[(123 : UInt8)].toList ++ s).length + #[(125 : UInt8)].toList.length ≤ 1152921504606846976 ∧
 K Out.ret 49 [V.s (#[(123 : UInt8)].toList ++ s ++ #[(125 : UInt8)].toList)] h)
 (If (y == (-1 : Int))
 (∃ (s : List UInt8),
 (PCon Tryz.Y (178 : Nat) [V.i IntKind.i64 x] fun (v : V) => v = V.s s) ∧
 #[(123 : UInt8)].toList.length + s.length ≤ 1152921504606846976 ∧
 (#[(123 : UInt8)].toList ++ s).length + #[(44 : UInt8), (125 : UInt8)].toList.length ≤
 1152921504606846976 ∧
 K Out.ret 49
 [V.s (#[(123 : UInt8)].toList ++ s ++ #[(44 : UInt8), (125 : UInt8)].toList)] h)
 (∃ (s : List UInt8),
 (PCon Tryz.Y (178 : Nat) [V.i IntKind.i64 x] fun (v : V) => v = V.s s) ∧
 #[(123 : UInt8)].toList.length + s.length ≤ 1152921504606846976 ∧
 (#[(123 : UInt8)].toList ++ s).length + #[(44 : UInt8)].toList.length ≤
 1152921504606846976 ∧
 ∃ (s_1 : List UInt8),
 (PCon Tryz.Y (178 : Nat) [V.i IntKind.i64 y] fun (v : V) => v = V.s s_1) ∧
 (#[(123 : UInt8)].toList ++ s ++ #[(44 : UInt8)].toList).length + s_1.length ≤
 1152921504606846976 ∧
 (#[(123 : UInt8)].toList ++ s ++ #[(44 : UInt8)].toList ++ s_1).length +
 #[(125 : UInt8)].toList.length ≤
 1152921504606846976 ∧
 K Out.ret 49
 [V.s
 (#[(123 : UInt8)].toList ++ s ++ #[(44 : UInt8)].toList ++ s_1 ++
 #[(125 : UInt8)].toList)]
 h)))))
 (If (x == (0 : Int))
 (If (y == (1 : Int)) (K Out.ret 49 [V.s #[(63 : UInt8)].toList] h)
 (If (x == y)
 (∃ (s : List UInt8),
 (PCon Tryz.Y (178 : Nat) [V.i IntKind.i64 x] fun (v : V) => v = V.s s) ∧
 #[(123 : UInt8)].toList.length + s.length ≤ 1152921504606846976 ∧
 (#[(123 : UInt8)].toList ++ s).length + #[(125 : UInt8)].toList.length ≤ 1152921504606846976 ∧
 K Out.ret 49 [V.s (#[(123 : UInt8)].toList ++ s ++ #[(125 : UInt8)].toList)] h)
 (If (y == (-1 : Int))
 (∃ (s : List UInt8),
 (PCon Tryz.Y (178 : Nat) [V.i IntKind.i64 x] fun (v : V) => v = V.s s) ∧
 #[(123 : UInt8)].toList.length + s.length ≤ 1152921504606846976 ∧
 (#[(123 : UInt8)].toList ++ s).length + #[(44 : UInt8), (125 : UInt8)].toList.length ≤
 1152921504606846976 ∧
 K Out.ret 49
 [V.s (#[(123 : UInt8)].toList ++ s ++ #[(44 : UInt8), (125 : UInt8)].toList)] h)
 (∃ (s : List UInt8),
 (PCon Tryz.Y (178 : Nat) [V.i IntKind.i64 x] fun (v : V) => v = V.s s) ∧
 #[(123 : UInt8)].toList.length + s.length ≤ 1152921504606846976 ∧
 (#[(123 : UInt8)].toList ++ s).length + #[(44 : UInt8)].toList.length ≤
 1152921504606846976 ∧
 ∃ (s_1 : List UInt8),
 (PCon Tryz.Y (178 : Nat) [V.i IntKind.i64 y] fun (v : V) => v = V.s s_1) ∧
 (#[(123 : UInt8)].toList ++ s ++ #[(44 : UInt8)].toList).length + s_1.length ≤
 1152921504606846976 ∧
 (#[(123 : UInt8)].toList ++ s ++ #[(44 : UInt8)].toList ++ s_1).length +
 #[(125 : UInt8)].toList.length ≤
 1152921504606846976 ∧
 K Out.ret 49
 [V.s
 (#[(123 : UInt8)].toList ++ s ++ #[(44 : UInt8)].toList ++ s_1 ++
 #[(125 : UInt8)].toList)]
 h))))
 (If (x == y)
 (∃ (s : List UInt8),
 (PCon Tryz.Y (178 : Nat) [V.i IntKind.i64 x] fun (v : V) => v = V.s s) ∧
 #[(123 : UInt8)].toList.length + s.length ≤ 1152921504606846976 ∧
 (#[(123 : UInt8)].toList ++ s).length + #[(125 : UInt8)].toList.length ≤ 1152921504606846976 ∧
 K Out.ret 49 [V.s (#[(123 : UInt8)].toList ++ s ++ #[(125 : UInt8)].toList)] h)
 (If (y == (-1 : Int))
 (∃ (s : List UInt8),
 (PCon Tryz.Y (178 : Nat) [V.i IntKind.i64 x] fun (v : V) => v = V.s s) ∧
 #[(123 : UInt8)].toList.length + s.length ≤ 1152921504606846976 ∧
 (#[(123 : UInt8)].toList ++ s).length + #[(44 : UInt8), (125 : UInt8)].toList.length ≤
 1152921504606846976 ∧
 K Out.ret 49 [V.s (#[(123 : UInt8)].toList ++ s ++ #[(44 : UInt8), (125 : UInt8)].toList)]
 h)
 (∃ (s : List UInt8),
 (PCon Tryz.Y (178 : Nat) [V.i IntKind.i64 x] fun (v : V) => v = V.s s) ∧
 #[(123 : UInt8)].toList.length + s.length ≤ 1152921504606846976 ∧
 (#[(123 : UInt8)].toList ++ s).length + #[(44 : UInt8)].toList.length ≤ 1152921504606846976 ∧
 ∃ (s_1 : List UInt8),
 (PCon Tryz.Y (178 : Nat) [V.i IntKind.i64 y] fun (v : V) => v = V.s s_1) ∧
 (#[(123 : UInt8)].toList ++ s ++ #[(44 : UInt8)].toList).length + s_1.length ≤
 1152921504606846976 ∧
 (#[(123 : UInt8)].toList ++ s ++ #[(44 : UInt8)].toList ++ s_1).length +
 #[(125 : UInt8)].toList.length ≤
 1152921504606846976 ∧
 K Out.ret 49
 [V.s
 (#[(123 : UInt8)].toList ++ s ++ #[(44 : UInt8)].toList ++ s_1 ++
 #[(125 : UInt8)].toList)]
 h))))))
  (If (x == (1 : Int))
 (If (y == (-1 : Int)) (K Out.ret 49 [V.s #[(43 : UInt8)].toList] h)
 (If (x == (0 : Int))
 (If (y == (1 : Int)) (K Out.ret 49 [V.s #[(63 : UInt8)].toList] h)
 (If (x == y)
 (∃ (s : List UInt8),
 (PCon Tryz.Y (178 : Nat) [V.i IntKind.i64 x] fun (v : V) => v = V.s s) ∧
 #[(123 : UInt8)].toList.length + s.length ≤ 1152921504606846976 ∧
 (#[(123 : UInt8)].toList ++ s).length + #[(125 : UInt8)].toList.length ≤ 1152921504606846976 ∧
 K Out.ret 49 [V.s (#[(123 : UInt8)].toList ++ s ++ #[(125 : UInt8)].toList)] h)
 (If (y == (-1 : Int))
 (∃ (s : List UInt8),
 (PCon Tryz.Y (178 : Nat) [V.i IntKind.i64 x] fun (v : V) => v = V.s s) ∧
 #[(123 : UInt8)].toList.length + s.length ≤ 1152921504606846976 ∧
 (#[(123 : UInt8)].toList ++ s).length + #[(44 : UInt8), (125 : UInt8)].toList.length ≤
 1152921504606846976 ∧
 K Out.ret 49
 [V.s (#[(123 : UInt8)].toList ++ s ++ #[(44 : UInt8), (125 : UInt8)].toList)] h)
 (∃ (s : List UInt8),
 (PCon Tryz.Y (178 : Nat) [V.i IntKind.i64 x] fun (v : V) => v = V.s s) ∧
 #[(123 : UInt8)].toList.length + s.length ≤ 1152921504606846976 ∧
 (#[(123 : UInt8)].toList ++ s).length + #[(44 : UInt8)].toList.length ≤
 1152921504606846976 ∧
 ∃ (s_1 : List UInt8),
 (PCon Tryz.Y (178 : Nat) [V.i IntKind.i64 y] fun (v : V) => v = V.s s_1) ∧
 (#[(123 : UInt8)].toList ++ s ++ #[(44 : UInt8)].toList).length + s_1.length ≤
 1152921504606846976 ∧
 (#[(123 : UInt8)].toList ++ s ++ #[(44 : UInt8)].toList ++ s_1).length +
 #[(125 : UInt8)].toList.length ≤
 1152921504606846976 ∧
 K Out.ret 49
 [V.s
 (#[(123 : UInt8)].toList ++ s ++ #[(44 : UInt8)].toList ++ s_1 ++
 #[(125 : UInt8)].toList)]
 h))))
 (If (x == y)
 (∃ (s : List UInt8),
 (PCon Tryz.Y (178 : Nat) [V.i IntKind.i64 x] fun (v : V) => v = V.s s) ∧
 #[(123 : UInt8)].toList.length + s.length ≤ 1152921504606846976 ∧
 (#[(123 : UInt8)].toList ++ s).length + #[(125 : UInt8)].toList.length ≤ 1152921504606846976 ∧
 K Out.ret 49 [V.s (#[(123 : UInt8)].toList ++ s ++ #[(125 : UInt8)].toList)] h)
 (If (y == (-1 : Int))
 (∃ (s : List UInt8),
 (PCon Tryz.Y (178 : Nat) [V.i IntKind.i64 x] fun (v : V) => v = V.s s) ∧
 #[(123 : UInt8)].toList.length + s.length ≤ 1152921504606846976 ∧
 (#[(123 : UInt8)].toList ++ s).length + #[(44 : UInt8), (125 : UInt8)].toList.length ≤
 1152921504606846976 ∧
 K Out.ret 49 [V.s (#[(123 : UInt8)].toList ++ s ++ #[(44 : UInt8), (125 : UInt8)].toList)]
 h)
 (∃ (s : List UInt8),
 (PCon Tryz.Y (178 : Nat) [V.i IntKind.i64 x] fun (v : V) => v = V.s s) ∧
 #[(123 : UInt8)].toList.length + s.length ≤ 1152921504606846976 ∧
 (#[(123 : UInt8)].toList ++ s).length + #[(44 : UInt8)].toList.length ≤ 1152921504606846976 ∧
 ∃ (s_1 : List UInt8),
 (PCon Tryz.Y (178 : Nat) [V.i IntKind.i64 y] fun (v : V) => v = V.s s_1) ∧
 (#[(123 : UInt8)].toList ++ s ++ #[(44 : UInt8)].toList).length + s_1.length ≤
 1152921504606846976 ∧
 (#[(123 : UInt8)].toList ++ s ++ #[(44 : UInt8)].toList ++ s_1).length +
 #[(125 : UInt8)].toList.length ≤
 1152921504606846976 ∧
 K Out.ret 49
 [V.s
 (#[(123 : UInt8)].toList ++ s ++ #[(44 : UInt8)].toList ++ s_1 ++
 #[(125 : UInt8)].toList)]
 h)))))
 (If (x == (0 : Int))
 (If (y == (1 : Int)) (K Out.ret 49 [V.s #[(63 : UInt8)].toList] h)
 (If (x == y)
 (∃ (s : List UInt8),
 (PCon Tryz.Y (178 : Nat) [V.i IntKind.i64 x] fun (v : V) => v = V.s s) ∧
 #[(123 : UInt8)].toList.length + s.length ≤ 1152921504606846976 ∧
 (#[(123 : UInt8)].toList ++ s).length + #[(125 : UInt8)].toList.length ≤ 1152921504606846976 ∧
 K Out.ret 49 [V.s (#[(123 : UInt8)].toList ++ s ++ #[(125 : UInt8)].toList)] h)
 (If (y == (-1 : Int))
 (∃ (s : List UInt8),
 (PCon Tryz.Y (178 : Nat) [V.i IntKind.i64 x] fun (v : V) => v = V.s s) ∧
 #[(123 : UInt8)].toList.length + s.length ≤ 1152921504606846976 ∧
 (#[(123 : UInt8)].toList ++ s).length + #[(44 : UInt8), (125 : UInt8)].toList.length ≤
 1152921504606846976 ∧
 K Out.ret 49 [V.s (#[(123 : UInt8)].toList ++ s ++ #[(44 : UInt8), (125 : UInt8)].toList)]
 h)
 (∃ (s : List UInt8),
 (PCon Tryz.Y (178 : Nat) [V.i IntKind.i64 x] fun (v : V) => v = V.s s) ∧
 #[(123 : UInt8)].toList.length + s.length ≤ 1152921504606846976 ∧
 (#[(123 : UInt8)].toList ++ s).length + #[(44 : UInt8)].toList.length ≤ 1152921504606846976 ∧
 ∃ (s_1 : List UInt8),
 (PCon Tryz.Y (178 : Nat) [V.i IntKind.i64 y] fun (v : V) => v = V.s s_1) ∧
 (#[(123 : UInt8)].toList ++ s ++ #[(44 : UInt8)].toList).length + s_1.length ≤
 1152921504606846976 ∧
 (#[(123 : UInt8)].toList ++ s ++ #[(44 : UInt8)].toList ++ s_1).length +
 #[(125 : UInt8)].toList.length ≤
 1152921504606846976 ∧
 K Out.ret 49
 [V.s
 (#[(123 : UInt8)].toList ++ s ++ #[(44 : UInt8)].toList ++ s_1 ++
 #[(125 : UInt8)].toList)]
 h))))
 (If (x == y)
 (∃ (s : List UInt8),
 (PCon Tryz.Y (178 : Nat) [V.i IntKind.i64 x] fun (v : V) => v = V.s s) ∧
 #[(123 : UInt8)].toList.length + s.length ≤ 1152921504606846976 ∧
 (#[(123 : UInt8)].toList ++ s).length + #[(125 : UInt8)].toList.length ≤ 1152921504606846976 ∧
 K Out.ret 49 [V.s (#[(123 : UInt8)].toList ++ s ++ #[(125 : UInt8)].toList)] h)
 (If (y == (-1 : Int))
 (∃ (s : List UInt8),
 (PCon Tryz.Y (178 : Nat) [V.i IntKind.i64 x] fun (v : V) => v = V.s s) ∧
 #[(123 : UInt8)].toList.length + s.length ≤ 1152921504606846976 ∧
 (#[(123 : UInt8)].toList ++ s).length + #[(44 : UInt8), (125 : UInt8)].toList.length ≤
 1152921504606846976 ∧
 K Out.ret 49 [V.s (#[(123 : UInt8)].toList ++ s ++ #[(44 : UInt8), (125 : UInt8)].toList)]
 h)
 (∃ (s : List UInt8),
 (PCon Tryz.Y (178 : Nat) [V.i IntKind.i64 x] fun (v : V) => v = V.s s) ∧
 #[(123 : UInt8)].toList.length + s.length ≤ 1152921504606846976 ∧
 (#[(123 : UInt8)].toList ++ s).length + #[(44 : UInt8)].toList.length ≤ 1152921504606846976 ∧
 ∃ (s_1 : List UInt8),
 (PCon Tryz.Y (178 : Nat) [V.i IntKind.i64 y] fun (v : V) => v = V.s s_1) ∧
 (#[(123 : UInt8)].toList ++ s ++ #[(44 : UInt8)].toList).length + s_1.length ≤
 1152921504606846976 ∧
 (#[(123 : UInt8)].toList ++ s ++ #[(44 : UInt8)].toList ++ s_1).length +
 #[(125 : UInt8)].toList.length ≤
 1152921504606846976 ∧
 K Out.ret 49
 [V.s
 (#[(123 : UInt8)].toList ++ s ++ #[(44 : UInt8)].toList ++ s_1 ++
 #[(125 : UInt8)].toList)]
 h)))))) := by kernel_rfl
theorem f147_0 (s0 : Int) (s1 : Int) (s2 : Int) (s3 : Int) (h : Heap) (K : KT) : (codeP Tryz.Y (Tryz.Y.loc 147) 100 (pre (flat (bodyOf Tryz.f147))) ⟨(V.agg [V.i .u64 s0, V.i .u64 s1, V.i .u64 s2, V.i .u64 s3] :: List.replicate 62 .undef), [], h⟩ (VQ [2, 4, 38, 39, 40] K)) =
  (∃ (cs : List V),
  ∃ (l : Nat),
 ∃ (c : Option Nat),
 (PCon Tryz.Y (175 : Nat) [V.agg [V.i IntKind.u64 s0, V.i IntKind.u64 s1, V.i IntKind.u64 s2, V.i IntKind.u64 s3]]
 fun (v : V) => v = V.ts cs l c) ∧
 If ((↑l : Int) == (0 : Int))
 (K Out.ret 63
 [V.s #[(91 : UInt8), (94 : UInt8), (0 : UInt8), (45 : UInt8), (255 : UInt8), (93 : UInt8)].toList, V.undef,
 V.undef, V.undef, V.undef]
 h)
 (∃ (n : Int),
 ∃ (n_1 : Int),
 ∃ (n_2 : Int),
 ∃ (n_3 : Int),
 (PCon Tryz.Y (176 : Nat)
 [V.agg
 [V.i IntKind.u64 (0 : Int), V.i IntKind.u64 (0 : Int), V.i IntKind.u64 (0 : Int),
 V.i IntKind.u64 (0 : Int)]]
 fun (v : V) =>
 v = V.agg [V.i IntKind.u64 n, V.i IntKind.u64 n_1, V.i IntKind.u64 n_2, V.i IntKind.u64 n_3]) ∧
 If (s0 == n && (s1 == n_1 && (s2 == n_2 && (s3 == n_3 && true))))
 (K Out.ret 63 [V.s #[(46 : UInt8)].toList, V.undef, V.undef, V.undef, V.undef] h)
 (If ((↑l : Int) == (1 : Int))
 (((0 : Int) ≤ (0 : Int) ∧ (0 : Int) < (↑l : Int)) ∧
 ∃ (n : Int),
 takeX 1 cs = some [V.i IntKind.u8 n] ∧
 ((0 : Int) ≤ (0 : Int) ∧ (0 : Int) < (↑l : Int)) ∧
 ∃ (n_4 : Int),
 takeX 1
 (List.drop (1 : Nat) (List.drop (Int.toNat (0 : Int) * (2 : Nat)) cs)) =
 some [V.i IntKind.u8 n_4] ∧
 If (n == n_4)
 (((0 : Int) ≤ (0 : Int) ∧ (0 : Int) < (↑l : Int)) ∧
 ∃ (n : Int),
 takeX 1 cs = some [V.i IntKind.u8 n] ∧
 ∃ (s : List UInt8),
 (PCon Tryz.Y (177 : Nat)
 [V.i IntKind.u8 n,
 V.s
 #[(92 : UInt8), (124 : UInt8), (40 : UInt8), (41 : UInt8),
 (42 : UInt8), (43 : UInt8), (63 : UInt8), (123 : UInt8),
 (46 : UInt8), (91 : UInt8), (94 : UInt8),
 (36 : UInt8)].toList]
 fun (v : V) => v = V.s s) ∧
 K Out.ret 63 [V.s s, V.undef, V.undef, V.undef, V.undef] h)
 (K Out.normal 63
 [V.s #[].toList, V.s #[(91 : UInt8)].toList, V.ts cs l c,
 V.i IntKind.i64 (↑l : Int), V.i IntKind.i64 (0 : Int)]
 h))
 (K Out.normal 63
 [V.s #[].toList, V.s #[(91 : UInt8)].toList, V.ts cs l c, V.i IntKind.i64 (↑l : Int),
 V.i IntKind.i64 (0 : Int)]
 h)))) := by kernel_rfl
theorem f147_1 (s4 : List UInt8) (c38 : Option Nat) (cs38 : List V) (n38 : Nat) (x39 : Int) (x40z2 : Int) (h : Heap) (K : KT) : (codeP Tryz.Y (Tryz.Y.loc 147) 100 ((flat (loopB (post (flat (bodyOf Tryz.f147)))))) ⟨mk 63 (([4, 38, 39, 40] : List Nat).zip [V.s s4, V.ts cs38 n38 c38, V.i IntKind.i64 x39, V.i IntKind.i64 x40z2]), [], h⟩ (VQ [4, 38, 39, 40] K)) =
  (If (ltI x40z2 x39)
  (((0 : Int) ≤ x40z2 ∧ x40z2 < (↑n38 : Int)) ∧
 ∃ (n : Int),
 ∃ (n_1 : Int),
 takeX 2 (List.drop (x40z2.toNat * (2 : Nat)) cs38) = some [V.i IntKind.u8 n, V.i IntKind.u8 n_1] ∧
 ∃ (s : List UInt8),
 (PCon Tryz.Y (177 : Nat)
 [V.i IntKind.u8 n, V.s #[(93 : UInt8), (45 : UInt8), (92 : UInt8), (94 : UInt8)].toList] fun (v : V) =>
 v = V.s s) ∧
 s4.length + s.length ≤ 1152921504606846976 ∧
 If (n_1 != n)
 (∃ (s_1 : List UInt8),
 (PCon Tryz.Y (177 : Nat)
 [V.i IntKind.u8 n_1, V.s #[(93 : UInt8), (45 : UInt8), (92 : UInt8), (94 : UInt8)].toList]
 fun (v : V) => v = V.s s_1) ∧
 #[(45 : UInt8)].toList.length + s_1.length ≤ 1152921504606846976 ∧
 (s4 ++ s).length + (#[(45 : UInt8)].toList ++ s_1).length ≤ 1152921504606846976 ∧
 K Out.normal 63
 [V.s (s4 ++ s ++ (#[(45 : UInt8)].toList ++ s_1)), V.ts cs38 n38 c38, V.i IntKind.i64 x39,
 V.i IntKind.i64 (IntKind.i64.wrap (x40z2 + (1 : Int)))]
 h)
 (K Out.normal 63
 [V.s (s4 ++ s), V.ts cs38 n38 c38, V.i IntKind.i64 x39,
 V.i IntKind.i64 (IntKind.i64.wrap (x40z2 + (1 : Int)))]
 h))
  (K (Out.exit 1) 63 [V.s s4, V.ts cs38 n38 c38, V.i IntKind.i64 x39, V.i IntKind.i64 x40z2] h)) := by kernel_rfl
theorem f147_2 (s4z2 : List UInt8) (h : Heap) (K : KT) : (codeP Tryz.Y (Tryz.Y.loc 147) 100 (((post (flat (bodyOf Tryz.f147))).drop 1)) ⟨mk 63 (([4] : List Nat).zip [V.s s4z2]), [], h⟩ (VQ [2] K)) =
  (s4z2.length + #[(93 : UInt8)].toList.length ≤ 1152921504606846976 ∧
  K Out.ret 63 [V.s (s4z2 ++ #[(93 : UInt8)].toList)] h) := by kernel_rfl
end Go.Y
