/- What the pieces of functions come to: printed by program. -/
import Derived.Test.YtpddiafjmkjpmaaYTryP
import Derived.Test.YtpddiafjmkjpmaaYLoop
namespace Go.Y
open Go.Proofs
set_option maxRecDepth 100000
set_option maxHeartbeats 0
theorem f25_0 (cs0 : List V) (n0 : Nat) (h : Heap) (K : Out → Nat → List V → Heap → Prop) : (codeP Try.Y (Try.Y.loc 25) 100 (pre (flat (bodyOf Try.f25))) ⟨(V.ts cs0 n0 none :: List.replicate 39 .undef), [], h⟩ (VQ [2, 3, 4, 10, 11, 12] K)) =
  (∃ (b : Bool),
  (PCon Try.Y (26 : Nat) [V.ts cs0 n0 none] fun (v : V) => v = V.b b) ∧
 If (!b) (K Out.ret 40 [V.s #[].toList, V.i IntKind.i64 (5 : Int), V.undef, V.undef, V.undef, V.undef] h)
 (K Out.normal 40
 [V.s #[].toList, V.i IntKind.i64 (0 : Int), V.p (some (h.nx, 0)), V.ts cs0 n0 none,
 V.i IntKind.i64 (↑n0 : Int), V.i IntKind.i64 (0 : Int)]
 (h.pushT (Try.Y.tag (92 : Nat)) (YObj.arr [V.p none, V.sl none (0 : Nat) (some (0 : Nat)) (0 : Nat)] true)))) := by kernel_rfl
theorem f25_1 (cs0 : List V) (n0 : Nat) (id4 : Nat) (x12z8 : Int) (h : Heap) (K : Out → Nat → List V → Heap → Prop) : (codeP Try.Y (Try.Y.loc 25) 100 ((flat (loopB (post (flat (bodyOf Try.f25)))))) ⟨mk 40 (([4, 10, 11, 12] : List Nat).zip [V.p (some (id4, 0)), V.ts cs0 n0 none, V.i IntKind.i64 (↑n0 : Int), V.i IntKind.i64 x12z8]), [], h⟩ (VQ [2, 3, 4, 10, 11, 12] K)) =
  (If (ltI x12z8 (↑n0 : Int))
  (((0 : Int) ≤ x12z8 ∧ x12z8 < (↑n0 : Int)) ∧
 ∃ (n : Int),
 ∃ (n_1 : Int),
 ∃ (cs : List V),
 ∃ (l : Nat),
 ∃ (c : Option Nat),
 takeX 3 (List.drop (x12z8.toNat * (3 : Nat)) cs0) =
 some [V.i IntKind.i64 n, V.i IntKind.u8 n_1, V.ts cs l c] ∧
 If (n == (1 : Int))
 (Con Try.Y (63 : Nat) [V.p (some (id4, 0)), V.i IntKind.u8 (63 : Int)] h
 fun (v : V) (h' : Heap) =>
 (v = V.nilifc ∧
 ∃ (n : Int),
 RCon Try.Y (67 : Nat) [V.p (some (id4, 0))] h' (V.i IntKind.i64 n) ∧
 If (ltI (200 : Int) n)
 (K Out.ret 40
 [V.s #[].toList, V.i IntKind.i64 (2 : Int), V.p (some (id4, 0)),
 V.ts cs0 n0 none, V.i IntKind.i64 (↑n0 : Int), V.i IntKind.i64 x12z8]
 h')
 (K Out.normal 40
 [V.undef, V.undef, V.p (some (id4, 0)), V.ts cs0 n0 none,
 V.i IntKind.i64 (↑n0 : Int), V.i IntKind.i64 (IntKind.i64.wrap (x12z8 + (1 : Int)))]
 h')) ∨
 ∃ (t : TypeId),
 ∃ (v_1 : V),
 v = V.ifc t v_1 ∧
 ∃ (n : Int),
 RCon Try.Y (67 : Nat) [V.p (some (id4, 0))] h' (V.i IntKind.i64 n) ∧
 If (ltI (200 : Int) n)
 (K Out.ret 40
 [V.s #[].toList, V.i IntKind.i64 (2 : Int), V.p (some (id4, 0)),
 V.ts cs0 n0 none, V.i IntKind.i64 (↑n0 : Int), V.i IntKind.i64 x12z8]
 h')
 (K Out.normal 40
 [V.undef, V.undef, V.p (some (id4, 0)), V.ts cs0 n0 none,
 V.i IntKind.i64 (↑n0 : Int),
 V.i IntKind.i64 (IntKind.i64.wrap (x12z8 + (1 : Int)))]
 h'))
 (If (n == (2 : Int))
 (Con Try.Y (63 : Nat) [V.p (some (id4, 0)), V.i IntKind.u8 (42 : Int)] h
 fun (v : V) (h' : Heap) =>
 (v = V.nilifc ∧
 ∃ (n : Int),
 RCon Try.Y (67 : Nat) [V.p (some (id4, 0))] h' (V.i IntKind.i64 n) ∧
 If (ltI (200 : Int) n)
 (K Out.ret 40
 [V.s #[].toList, V.i IntKind.i64 (2 : Int), V.p (some (id4, 0)),
 V.ts cs0 n0 none, V.i IntKind.i64 (↑n0 : Int), V.i IntKind.i64 x12z8]
 h')
 (K Out.normal 40
 [V.undef, V.undef, V.p (some (id4, 0)), V.ts cs0 n0 none,
 V.i IntKind.i64 (↑n0 : Int), V.i IntKind.i64 (IntKind.i64.wrap (x12z8 + (1 : Int)))]
 h')) ∨
 ∃ (t : TypeId),
 ∃ (v_1 : V),
 v = V.ifc t v_1 ∧
 ∃ (n : Int),
 RCon Try.Y (67 : Nat) [V.p (some (id4, 0))] h' (V.i IntKind.i64 n) ∧
 If (ltI (200 : Int) n)
 (K Out.ret 40
 [V.s #[].toList, V.i IntKind.i64 (2 : Int), V.p (some (id4, 0)),
 V.ts cs0 n0 none, V.i IntKind.i64 (↑n0 : Int), V.i IntKind.i64 x12z8]
 h')
 (K Out.normal 40
 [V.undef, V.undef, V.p (some (id4, 0)), V.ts cs0 n0 none,
 V.i IntKind.i64 (↑n0 : Int),
 V.i IntKind.i64 (IntKind.i64.wrap (x12z8 + (1 : Int)))]
 h'))
 (If (n == (3 : Int))
 (∃ (s : List UInt8),
 (PCon Try.Y (65 : Nat) [V.ts cs l c] fun (v : V) => v = V.s s) ∧
 #[(91 : UInt8)].toList.length + s.length ≤ 1152921504606846976 ∧
 (#[(91 : UInt8)].toList ++ s).length + #[(93 : UInt8)].toList.length ≤
 1152921504606846976 ∧
 Con Try.Y (64 : Nat)
 [V.p (some (id4, 0)),
 V.s (#[(91 : UInt8)].toList ++ s ++ #[(93 : UInt8)].toList)]
 h fun (v : V) (h' : Heap) =>
 ∃ (n : Int),
 (v = V.tup [V.i IntKind.i64 n, V.nilifc] ∧
 ∃ (n : Int),
 RCon Try.Y (67 : Nat) [V.p (some (id4, 0))] h' (V.i IntKind.i64 n) ∧
 If (ltI (200 : Int) n)
 (K Out.ret 40
 [V.s #[].toList, V.i IntKind.i64 (2 : Int), V.p (some (id4, 0)),
 V.ts cs0 n0 none, V.i IntKind.i64 (↑n0 : Int), V.i IntKind.i64 x12z8]
 h')
 (K Out.normal 40
 [V.undef, V.undef, V.p (some (id4, 0)), V.ts cs0 n0 none,
 V.i IntKind.i64 (↑n0 : Int),
 V.i IntKind.i64 (IntKind.i64.wrap (x12z8 + (1 : Int)))]
 h')) ∨
 ∃ (t : TypeId),
 ∃ (v_1 : V),
 v = V.tup [V.i IntKind.i64 n, V.ifc t v_1] ∧
 ∃ (n : Int),
 RCon Try.Y (67 : Nat) [V.p (some (id4, 0))] h' (V.i IntKind.i64 n) ∧
 If (ltI (200 : Int) n)
 (K Out.ret 40
 [V.s #[].toList, V.i IntKind.i64 (2 : Int),
 V.p (some (id4, 0)), V.ts cs0 n0 none,
 V.i IntKind.i64 (↑n0 : Int), V.i IntKind.i64 x12z8]
 h')
 (K Out.normal 40
 [V.undef, V.undef, V.p (some (id4, 0)), V.ts cs0 n0 none,
 V.i IntKind.i64 (↑n0 : Int),
 V.i IntKind.i64 (IntKind.i64.wrap (x12z8 + (1 : Int)))]
 h'))
 (∃ (s : List UInt8),
 (PCon Try.Y (66 : Nat)
 [V.i IntKind.u8 n_1, V.s #[(42 : UInt8), (63 : UInt8), (91 : UInt8), (92 : UInt8)].toList]
 fun (v : V) => v = V.s s) ∧
 Con Try.Y (64 : Nat) [V.p (some (id4, 0)), V.s s] h fun (v : V) (h' : Heap) =>
 ∃ (n : Int),
 (v = V.tup [V.i IntKind.i64 n, V.nilifc] ∧
 ∃ (n : Int),
 RCon Try.Y (67 : Nat) [V.p (some (id4, 0))] h' (V.i IntKind.i64 n) ∧
 If (ltI (200 : Int) n)
 (K Out.ret 40
 [V.s #[].toList, V.i IntKind.i64 (2 : Int), V.p (some (id4, 0)),
 V.ts cs0 n0 none, V.i IntKind.i64 (↑n0 : Int), V.i IntKind.i64 x12z8]
 h')
 (K Out.normal 40
 [V.undef, V.undef, V.p (some (id4, 0)), V.ts cs0 n0 none,
 V.i IntKind.i64 (↑n0 : Int),
 V.i IntKind.i64 (IntKind.i64.wrap (x12z8 + (1 : Int)))]
 h')) ∨
 ∃ (t : TypeId),
 ∃ (v_1 : V),
 v = V.tup [V.i IntKind.i64 n, V.ifc t v_1] ∧
 ∃ (n : Int),
 RCon Try.Y (67 : Nat) [V.p (some (id4, 0))] h' (V.i IntKind.i64 n) ∧
 If (ltI (200 : Int) n)
 (K Out.ret 40
 [V.s #[].toList, V.i IntKind.i64 (2 : Int), V.p (some (id4, 0)),
 V.ts cs0 n0 none, V.i IntKind.i64 (↑n0 : Int), V.i IntKind.i64 x12z8]
 h')
 (K Out.normal 40
 [V.undef, V.undef, V.p (some (id4, 0)), V.ts cs0 n0 none,
 V.i IntKind.i64 (↑n0 : Int),
 V.i IntKind.i64 (IntKind.i64.wrap (x12z8 + (1 : Int)))]
 h')))))
  (K (Out.exit 0) 40
 [V.undef, V.undef, V.p (some (id4, 0)), V.ts cs0 n0 none, V.i IntKind.i64 (↑n0 : Int),
 V.i IntKind.i64 x12z8]
 h)) := by kernel_rfl
theorem f25_2 (id4 : Nat) (h : Heap) (K : Out → Nat → List V → Heap → Prop) : (codeP Try.Y (Try.Y.loc 25) 100 (((post (flat (bodyOf Try.f25))).drop 1)) ⟨mk 40 (([4] : List Nat).zip [V.p (some (id4, 0))]), [], h⟩ (VQ [2, 3] K)) =
  (Con Try.Y (68 : Nat) [V.p (some (id4, 0))] h fun (v : V) (h' : Heap) =>
  ∃ (s : List UInt8), v = V.s s ∧ K Out.ret 40 [V.s s, V.i IntKind.i64 (0 : Int)] h') := by kernel_rfl
theorem f65_0 (cs0 : List V) (n0 : Nat) (h : Heap) (K : Out → Nat → List V → Heap → Prop) : (codeP Try.Y (Try.Y.loc 65) 100 (pre (flat (bodyOf Try.f65))) ⟨(V.ts cs0 n0 none :: List.replicate 27 .undef), [], h⟩ (VQ [3, 6, 7, 8] K)) =
  (K Out.normal 28
  [V.p (some (h.nx, 0)), V.ts cs0 n0 none, V.i IntKind.i64 (↑n0 : Int), V.i IntKind.i64 (0 : Int)]
  (h.pushT (Try.Y.tag (92 : Nat)) (YObj.arr [V.p none, V.sl none (0 : Nat) (some (0 : Nat)) (0 : Nat)] true))) := by kernel_rfl
theorem f65_1 (cs0 : List V) (n0 : Nat) (id3 : Nat) (x8z6 : Int) (h : Heap) (K : Out → Nat → List V → Heap → Prop) : (codeP Try.Y (Try.Y.loc 65) 100 ((flat (loopB (post (flat (bodyOf Try.f65)))))) ⟨mk 28 (([3, 6, 7, 8] : List Nat).zip [V.p (some (id3, 0)), V.ts cs0 n0 none, V.i IntKind.i64 (↑n0 : Int), V.i IntKind.i64 x8z6]), [], h⟩ (VQ [3, 6, 7, 8] K)) =
  (If (ltI x8z6 (↑n0 : Int))
  (((0 : Int) ≤ x8z6 ∧ x8z6 < (↑n0 : Int)) ∧
 ∃ (n : Int),
 ∃ (n_1 : Int),
 takeX 2 (List.drop (x8z6.toNat * (2 : Nat)) cs0) = some [V.i IntKind.u8 n, V.i IntKind.u8 n_1] ∧
 ∃ (s : List UInt8),
 (PCon Try.Y (66 : Nat) [V.i IntKind.u8 n, V.s #[(93 : UInt8), (45 : UInt8), (92 : UInt8)].toList]
 fun (v : V) => v = V.s s) ∧
 Con Try.Y (64 : Nat) [V.p (some (id3, 0)), V.s s] h fun (v : V) (h' : Heap) =>
 ∃ (n_2 : Int),
 v = V.tup [V.i IntKind.i64 n_2, V.nilifc] ∧
 If (n_1 != n)
 (∃ (s : List UInt8),
 (PCon Try.Y (66 : Nat)
 [V.i IntKind.u8 n_1, V.s #[(93 : UInt8), (45 : UInt8), (92 : UInt8)].toList]
 fun (v : V) => v = V.s s) ∧
 #[(45 : UInt8)].toList.length + s.length ≤ 1152921504606846976 ∧
 Con Try.Y (64 : Nat) [V.p (some (id3, 0)), V.s (#[(45 : UInt8)].toList ++ s)] h'
 fun (v : V) (h' : Heap) =>
 ∃ (n : Int),
 v = V.tup [V.i IntKind.i64 n, V.nilifc] ∧
 K Out.normal 28
 [V.p (some (id3, 0)), V.ts cs0 n0 none, V.i IntKind.i64 (↑n0 : Int),
 V.i IntKind.i64 (IntKind.i64.wrap (x8z6 + (1 : Int)))]
 h' ∨
 ∃ (t : TypeId),
 ∃ (v_1 : V),
 v = V.tup [V.i IntKind.i64 n, V.ifc t v_1] ∧
 K Out.normal 28
 [V.p (some (id3, 0)), V.ts cs0 n0 none, V.i IntKind.i64 (↑n0 : Int),
 V.i IntKind.i64 (IntKind.i64.wrap (x8z6 + (1 : Int)))]
 h')
 (K Out.normal 28
 [V.p (some (id3, 0)), V.ts cs0 n0 none, V.i IntKind.i64 (↑n0 : Int),
 V.i IntKind.i64 (IntKind.i64.wrap (x8z6 + (1 : Int)))]
 h') ∨
 ∃ (t : TypeId),
 ∃ (v_1 : V),
 v = V.tup [V.i IntKind.i64 n_2, V.ifc t v_1] ∧
 If (n_1 != n)
 (∃ (s : List UInt8),
 (PCon Try.Y (66 : Nat)
 [V.i IntKind.u8 n_1, V.s #[(93 : UInt8), (45 : UInt8), (92 : UInt8)].toList]
 fun (v : V) => v = V.s s) ∧
 #[(45 : UInt8)].toList.length + s.length ≤ 1152921504606846976 ∧
 Con Try.Y (64 : Nat) [V.p (some (id3, 0)), V.s (#[(45 : UInt8)].toList ++ s)]
 h' fun (v : V) (h' : Heap) =>
 ∃ (n : Int),
 v = V.tup [V.i IntKind.i64 n, V.nilifc] ∧
 K Out.normal 28
 [V.p (some (id3, 0)), V.ts cs0 n0 none, V.i IntKind.i64 (↑n0 : Int),
 V.i IntKind.i64 (IntKind.i64.wrap (x8z6 + (1 : Int)))]
 h' ∨
 ∃ (t : TypeId),
 ∃ (v_2 : V),
 v = V.tup [V.i IntKind.i64 n, V.ifc t v_2] ∧
 K Out.normal 28
 [V.p (some (id3, 0)), V.ts cs0 n0 none,
 V.i IntKind.i64 (↑n0 : Int),
 V.i IntKind.i64 (IntKind.i64.wrap (x8z6 + (1 : Int)))]
 h')
 (K Out.normal 28
 [V.p (some (id3, 0)), V.ts cs0 n0 none, V.i IntKind.i64 (↑n0 : Int),
 V.i IntKind.i64 (IntKind.i64.wrap (x8z6 + (1 : Int)))]
 h'))
  (K (Out.exit 0) 28
 [V.p (some (id3, 0)), V.ts cs0 n0 none, V.i IntKind.i64 (↑n0 : Int), V.i IntKind.i64 x8z6] h)) := by kernel_rfl
theorem f65_2 (id3 : Nat) (h : Heap) (K : Out → Nat → List V → Heap → Prop) : (codeP Try.Y (Try.Y.loc 65) 100 (((post (flat (bodyOf Try.f65))).drop 1)) ⟨mk 28 (([3] : List Nat).zip [V.p (some (id3, 0))]), [], h⟩ (VQ [2] K)) =
  (Con Try.Y (68 : Nat) [V.p (some (id3, 0))] h fun (v : V) (h' : Heap) =>
  ∃ (s : List UInt8), v = V.s s ∧ K Out.ret 28 [V.s s] h') := by kernel_rfl
theorem f72_0 (cs0 : List V) (n0 : Nat) (h : Heap) (K : Out → Nat → List V → Heap → Prop) : (codeP Try.Y (Try.Y.loc 72) 100 (pre (flat (bodyOf Try.f72))) ⟨(V.ts cs0 n0 none :: List.replicate 39 .undef), [], h⟩ (VQ [0, 3, 4] K)) =
  (K Out.normal 40 [V.ts cs0 n0 none, V.s #[].toList, V.i IntKind.i64 (0 : Int)] h) := by kernel_rfl
theorem f72_1 (cs0 : List V) (n0 : Nat) (s3z2 : List UInt8) (x4z2 : Int) (h : Heap) (K : Out → Nat → List V → Heap → Prop) : (codeP Try.Y (Try.Y.loc 72) 100 ((flat (loopB (post (flat (bodyOf Try.f72)))))) ⟨mk 40 (([0, 3, 4] : List Nat).zip [V.ts cs0 n0 none, V.s s3z2, V.i IntKind.i64 x4z2]), [], h⟩ (VQ [0, 3, 4] K)) =
  (If (ltI x4z2 (↑n0 : Int))
  (((0 : Int) ≤ x4z2 ∧ x4z2 < (↑n0 : Int)) ∧
 ∃ (n : Int),
 takeX 1 (List.drop (0 : Nat) (List.drop (x4z2.toNat * (2 : Nat)) cs0)) = some [V.i IntKind.u8 n] ∧
 ∃ (s : List UInt8),
 (PCon Try.Y (107 : Nat) [V.i IntKind.u8 n] fun (v : V) => v = V.s s) ∧
 s3z2.length + s.length ≤ 1152921504606846976 ∧
 ((0 : Int) ≤ x4z2 ∧ x4z2 < (↑n0 : Int)) ∧
 ∃ (n : Int),
 takeX 1 (List.drop (1 : Nat) (List.drop (x4z2.toNat * (2 : Nat)) cs0)) =
 some [V.i IntKind.u8 n] ∧
 ((0 : Int) ≤ x4z2 ∧ x4z2 < (↑n0 : Int)) ∧
 ∃ (n_1 : Int),
 takeX 1 (List.drop (0 : Nat) (List.drop (x4z2.toNat * (2 : Nat)) cs0)) =
 some [V.i IntKind.u8 n_1] ∧
 If (n != n_1)
 ((s3z2 ++ s).length + #[(45 : UInt8)].toList.length ≤ 1152921504606846976 ∧
 ((0 : Int) ≤ x4z2 ∧ x4z2 < (↑n0 : Int)) ∧
 ∃ (n : Int),
 takeX 1 (List.drop (1 : Nat) (List.drop (x4z2.toNat * (2 : Nat)) cs0)) =
 some [V.i IntKind.u8 n] ∧
 ∃ (s_1 : List UInt8),
 (PCon Try.Y (107 : Nat) [V.i IntKind.u8 n] fun (v : V) => v = V.s s_1) ∧
 (s3z2 ++ s ++ #[(45 : UInt8)].toList).length + s_1.length ≤
 1152921504606846976 ∧
 K Out.normal 40
 [V.ts cs0 n0 none, V.s (s3z2 ++ s ++ #[(45 : UInt8)].toList ++ s_1),
 V.i IntKind.i64 (IntKind.i64.wrap (x4z2 + (1 : Int)))]
 h)
 (K Out.normal 40
 [V.ts cs0 n0 none, V.s (s3z2 ++ s), V.i IntKind.i64 (IntKind.i64.wrap (x4z2 + (1 : Int)))]
 h))
  (K (Out.exit 0) 40 [V.ts cs0 n0 none, V.s s3z2, V.i IntKind.i64 x4z2] h)) := by kernel_rfl
theorem f72_2 (s3z3 : List UInt8) (h : Heap) (K : Out → Nat → List V → Heap → Prop) : (codeP Try.Y (Try.Y.loc 72) 100 (((post (flat (bodyOf Try.f72))).drop 1)) ⟨mk 40 (([3] : List Nat).zip [V.s s3z3]), [], h⟩ (VQ [2] K)) =
  (K Out.ret 40 [V.s s3z3] h) := by kernel_rfl
theorem f107_0 (x0 : Int) (h : Heap) (K : Out → Nat → List V → Heap → Prop) : (codeP Try.Y (Try.Y.loc 107) 100 ((flat (bodyOf Try.f107))) ⟨(V.i IntKind.u8 x0 :: List.replicate 19 .undef), [], h⟩ (VQ [2] K)) =
  (If (x0 == (93 : Int))
  (∃ (l : List UInt8),
 some (Q.val (V.s ((fun (x : List UInt8) => UInt8.ofNat x0.toNat :: x) []))) = some (Q.val (V.s l)) ∧
 #[(92 : UInt8)].toList.length + l.length ≤ 1152921504606846976 ∧
 K Out.ret 20 [V.s (#[(92 : UInt8)].toList ++ l)] h)
  (If (x0 == (45 : Int))
 (∃ (l : List UInt8),
 some (Q.val (V.s ((fun (x : List UInt8) => UInt8.ofNat x0.toNat :: x) []))) = some (Q.val (V.s l)) ∧
 #[(92 : UInt8)].toList.length + l.length ≤ 1152921504606846976 ∧
 K Out.ret 20 [V.s (#[(92 : UInt8)].toList ++ l)] h)
 (If (x0 == (92 : Int))
 (∃ (l : List UInt8),
 some (Q.val (V.s ((fun (x : List UInt8) => UInt8.ofNat x0.toNat :: x) []))) = some (Q.val (V.s l)) ∧
 #[(92 : UInt8)].toList.length + l.length ≤ 1152921504606846976 ∧
 K Out.ret 20 [V.s (#[(92 : UInt8)].toList ++ l)] h)
 (∃ (l : List UInt8),
 some (Q.val (V.s ((fun (x : List UInt8) => UInt8.ofNat x0.toNat :: x) []))) = some (Q.val (V.s l)) ∧
 K Out.ret 20 [V.s l] h)))) := by kernel_rfl
theorem f6_0 (cs0 : List V) (n0 : Nat) (h : Heap) (K : Out → Nat → List V → Heap → Prop) : (codeP Try.Y (Try.Y.loc 6) 100 ((flat (bodyOf Try.f6))) ⟨(V.ts cs0 n0 none :: List.replicate 82 .undef), [], h⟩ (VQ [2] K)) =
  (∃ (b : Bool),
  (PCon Try.Y (12 : Nat) [] fun (v : V) => v = V.b b) ∧
 If (!b) (K Out.ret 83 [V.b false] h)
 (∃ (b : Bool),
 (PCon Try.Y (16 : Nat) [V.ts cs0 n0 none] fun (v : V) => v = V.b b) ∧
 If (!b) (K Out.ret 83 [V.b true] h)
 (∃ (s : List UInt8),
 ∃ (n : Int),
 (PCon Try.Y (25 : Nat) [V.ts cs0 n0 none] fun (v : V) => v = V.tup [V.s s, V.i IntKind.i64 n]) ∧
 ∃ (b : Bool),
 (PCon Try.Y (17 : Nat) [V.ts cs0 n0 none] fun (v : V) => v = V.b b) ∧
 If (!b)
 (If (s == #[].toList)
 (If (n == (5 : Int))
 (∃ (b : Bool),
 (PCon Try.Y (26 : Nat) [V.ts cs0 n0 none] fun (v : V) => v = V.b b) ∧
 K Out.ret 83 [V.b !b] h)
 (K Out.ret 83 [V.b false] h))
 (K Out.ret 83 [V.b false] h))
 (∃ (s_1 : List UInt8),
 (PCon Try.Y (27 : Nat) [V.ts cs0 n0 none] fun (v : V) => v = V.s s_1) ∧
 If (ltI (200 : Int) (↑s_1.length : Int))
 (If (s == #[].toList)
 (If (n == (2 : Int))
 (∃ (b : Bool),
 (PCon Try.Y (26 : Nat) [V.ts cs0 n0 none] fun (v : V) => v = V.b b) ∧
 K Out.ret 83 [V.b b] h)
 (K Out.ret 83 [V.b false] h))
 (K Out.ret 83 [V.b false] h))
 (∃ (cs : List V),
 ∃ (l : Nat),
 ∃ (c : Option Nat),
 ∃ (n_1 : Int),
 ∃ (n_2 : Int),
 (PCon Try.Y (13 : Nat) [V.s s] fun (v : V) =>
 v = V.tup [V.ts cs l c, V.i IntKind.i64 n_1, V.i IntKind.i64 n_2]) ∧
 If (s == s_1)
 (If (n == (0 : Int))
 (∃ (b : Bool),
 (PCon Try.Y (26 : Nat) [V.ts cs0 n0 none] fun (v : V) => v = V.b b) ∧
 If b
 (If (n_2 == (0 : Int))
 (If (n_1 == (0 : Int))
 (∃ (b : Bool),
 (PCon Try.Y (15 : Nat) [V.ts cs l c, V.ts cs0 n0 none]
 fun (v : V) => v = V.b b) ∧
 If b
 (∃ (b : Bool),
 (PCon Try.Y (28 : Nat) [V.ts cs l c, V.ts cs0 n0 none]
 fun (v : V) => v = V.b b) ∧
 K Out.ret 83 [V.b b] h)
 (K Out.ret 83 [V.b false] h))
 (K Out.ret 83 [V.b false] h))
 (K Out.ret 83 [V.b false] h))
 (K Out.ret 83 [V.b false] h))
 (K Out.ret 83 [V.b false] h))
 (K Out.ret 83 [V.b false] h)))))) := by kernel_rfl
end Go.Y
