/- What the pieces of functions come to: printed by program. -/
import Derived.Test.YtlnpmefmmiacaaaGreatDoorYTryzP
import Derived.Test.YtlnpmefmmiacaaaGreatDoorYFun
namespace Go.Y
open Go.Proofs
set_option maxRecDepth 100000
set_option maxHeartbeats 0
theorem f8_0 (cs0Sets : List V) (n0Sets : Nat) (cs0First : List V) (n0First : Nat) (cs0Last : List V) (n0Last : Nat) (cs0Follow : List V) (n0Follow : Nat) (b0Empty : Bool) (s1 : List UInt8) (h : Heap) (K : Out → Nat → List V → Heap → Prop) : (codeP Tryz.Y (Tryz.Y.loc 8) 100 (pre (flat (bodyOf Tryz.f8))) ⟨(V.agg [V.ts cs0Sets n0Sets none, V.ts cs0First n0First none, V.ts cs0Last n0Last none, V.ts cs0Follow n0Follow none, V.b b0Empty] :: V.s s1 :: List.replicate 35 .undef), [], h⟩ (VQ [1, 2, 4, 5, 6] K)) =
  (∃ (b : Bool),
  (PCon Tryz.Y (7 : Nat)
 [V.agg
 [V.ts cs0Sets n0Sets none, V.ts cs0First n0First none, V.ts cs0Last n0Last none, V.ts cs0Follow n0Follow none,
 V.b b0Empty]]
 fun (v : V) => v = V.b b) ∧
 If (!b)
 (K Out.ret 37
 [V.s s1,
 V.lb
 [V.ts cs0Sets n0Sets none, V.ts cs0First n0First none, V.ts cs0Last n0Last none,
 V.ts cs0Follow n0Follow none, V.b b0Empty],
 V.b false, V.undef, V.undef]
 h)
 (If (s1 == #[].toList)
 (K Out.ret 37
 [V.s s1,
 V.lb
 [V.ts cs0Sets n0Sets none, V.ts cs0First n0First none, V.ts cs0Last n0Last none,
 V.ts cs0Follow n0Follow none, V.b b0Empty],
 V.b b0Empty, V.undef, V.undef]
 h)
 (∃ (c : UInt8),
 ((0 : Int) ≤ (0 : Int) ∧ s1[Int.toNat (0 : Int)]? = some c) ∧
 ∃ (cs : List V),
 ∃ (l : Nat),
 ∃ (c_1 : Option Nat),
 (PCon Tryz.Y (23 : Nat)
 [V.agg
 [V.ts cs0Sets n0Sets none, V.ts cs0First n0First none, V.ts cs0Last n0Last none,
 V.ts cs0Follow n0Follow none, V.b b0Empty],
 V.ts cs0First n0First none, V.i IntKind.u8 (↑c.toNat : Int)]
 fun (v : V) => v = V.ts cs l c_1) ∧
 K Out.normal 37
 [V.s s1,
 V.lb
 [V.ts cs0Sets n0Sets none, V.ts cs0First n0First none, V.ts cs0Last n0Last none,
 V.ts cs0Follow n0Follow none, V.b b0Empty],
 V.b false, V.ts cs l c_1, V.i IntKind.i64 (1 : Int)]
 h))) := by kernel_rfl
theorem f8_1 (cs0Sets : List V) (n0Sets : Nat) (cs0First : List V) (n0First : Nat) (cs0Last : List V) (n0Last : Nat) (cs0Follow : List V) (n0Follow : Nat) (s1 : List UInt8) (b2_4 : Bool) (c5 : Option Nat) (cs5 : List V) (n5 : Nat) (x6 : Int) (h : Heap) (K : Out → Nat → List V → Heap → Prop) : (codeP Tryz.Y (Tryz.Y.loc 8) 100 ((flat (loopB (post (flat (bodyOf Tryz.f8)))))) ⟨mk 37 (([1, 2, 5, 6] : List Nat).zip [V.s s1, V.lb [V.ts cs0Sets n0Sets none, V.ts cs0First n0First none, V.ts cs0Last n0Last none, V.ts cs0Follow n0Follow none, V.b b2_4], V.ts cs5 n5 c5, V.i IntKind.i64 x6]), [], h⟩ (VQ [1, 2, 5, 6] K)) =
  (If (ltI x6 (↑s1.length : Int))
  (∃ (c : UInt8),
 ((0 : Int) ≤ x6 ∧ s1[x6.toNat]? = some c) ∧
 ∃ (cs : List V),
 ∃ (l : Nat),
 ∃ (c_1 : Option Nat),
 (PCon Tryz.Y (24 : Nat)
 [V.agg
 [V.ts cs0Sets n0Sets none, V.ts cs0First n0First none, V.ts cs0Last n0Last none,
 V.ts cs0Follow n0Follow none, V.b b2_4],
 V.ts cs5 n5 c5, V.i IntKind.u8 (↑c.toNat : Int)]
 fun (v : V) => v = V.ts cs l c_1) ∧
 K Out.normal 37
 [V.s s1,
 V.lb
 [V.ts cs0Sets n0Sets none, V.ts cs0First n0First none, V.ts cs0Last n0Last none,
 V.ts cs0Follow n0Follow none, V.b b2_4],
 V.ts cs l c_1, V.i IntKind.i64 (IntKind.i64.wrap (x6 + (1 : Int)))]
 h)
  (K (Out.exit 1) 37
 [V.s s1,
 V.lb
 [V.ts cs0Sets n0Sets none, V.ts cs0First n0First none, V.ts cs0Last n0Last none, V.ts cs0Follow n0Follow none,
 V.b b2_4],
 V.ts cs5 n5 c5, V.i IntKind.i64 x6]
 h)) := by kernel_rfl
theorem f8_2 (cs0Sets : List V) (n0Sets : Nat) (cs0First : List V) (n0First : Nat) (cs0Last : List V) (n0Last : Nat) (cs0Follow : List V) (n0Follow : Nat) (c5 : Option Nat) (cs5 : List V) (n5 : Nat) (b2_4z2 : Bool) (h : Heap) (K : Out → Nat → List V → Heap → Prop) : (codeP Tryz.Y (Tryz.Y.loc 8) 100 (((post (flat (bodyOf Tryz.f8))).drop 1)) ⟨mk 37 (([2, 5] : List Nat).zip [V.lb [V.ts cs0Sets n0Sets none, V.ts cs0First n0First none, V.ts cs0Last n0Last none, V.ts cs0Follow n0Follow none, V.b b2_4z2], V.ts cs5 n5 c5]), [], h⟩ (VQ [4] K)) =
  (∃ (b : Bool),
  (PCon Tryz.Y (25 : Nat)
 [V.agg
 [V.ts cs0Sets n0Sets none, V.ts cs0First n0First none, V.ts cs0Last n0Last none, V.ts cs0Follow n0Follow none,
 V.b b2_4z2],
 V.ts cs5 n5 c5]
 fun (v : V) => v = V.b b) ∧
 K Out.ret 37 [V.b b] h) := by kernel_rfl
theorem f9_0 (cs0Sets : List V) (n0Sets : Nat) (cs0First : List V) (n0First : Nat) (cs0Last : List V) (n0Last : Nat) (cs0Follow : List V) (n0Follow : Nat) (b0Empty : Bool) (x1 : Int) (h : Heap) (K : Out → Nat → List V → Heap → Prop) : (codeP Tryz.Y (Tryz.Y.loc 9) 100 ((flat (bodyOf Tryz.f9))) ⟨(V.agg [V.ts cs0Sets n0Sets none, V.ts cs0First n0First none, V.ts cs0Last n0Last none, V.ts cs0Follow n0Follow none, V.b b0Empty] :: V.i IntKind.u8 x1 :: List.replicate 11 .undef), [], h⟩ (VQ [4] K)) =
  (∃ (b : Bool),
  (PCon Tryz.Y (7 : Nat)
 [V.agg
 [V.ts cs0Sets n0Sets none, V.ts cs0First n0First none, V.ts cs0Last n0Last none, V.ts cs0Follow n0Follow none,
 V.b b0Empty]]
 fun (v : V) => v = V.b b) ∧
 If (!b) (K Out.ret 13 [V.sl none 0 (some 0) 0] h)
 (∃ (cs : List V),
 ∃ (l : Nat),
 ∃ (c : Option Nat),
 (PCon Tryz.Y (23 : Nat)
 [V.agg
 [V.ts cs0Sets n0Sets none, V.ts cs0First n0First none, V.ts cs0Last n0Last none,
 V.ts cs0Follow n0Follow none, V.b b0Empty],
 V.ts cs0First n0First none, V.i IntKind.u8 x1]
 fun (v : V) => v = V.ts cs l c) ∧
 K Out.ret 13 [V.ts cs l c] h)) := by kernel_rfl
theorem f10_0 (cs0Sets : List V) (n0Sets : Nat) (cs0First : List V) (n0First : Nat) (cs0Last : List V) (n0Last : Nat) (cs0Follow : List V) (n0Follow : Nat) (b0Empty : Bool) (cs1 : List V) (n1 : Nat) (x2 : Int) (h : Heap) (K : Out → Nat → List V → Heap → Prop) : (codeP Tryz.Y (Tryz.Y.loc 10) 100 ((flat (bodyOf Tryz.f10))) ⟨(V.agg [V.ts cs0Sets n0Sets none, V.ts cs0First n0First none, V.ts cs0Last n0Last none, V.ts cs0Follow n0Follow none, V.b b0Empty] :: V.ts cs1 n1 none :: V.i IntKind.u8 x2 :: List.replicate 11 .undef), [], h⟩ (VQ [6] K)) =
  (∃ (b : Bool),
  (PCon Tryz.Y (7 : Nat)
 [V.agg
 [V.ts cs0Sets n0Sets none, V.ts cs0First n0First none, V.ts cs0Last n0Last none, V.ts cs0Follow n0Follow none,
 V.b b0Empty]]
 fun (v : V) => v = V.b b) ∧
 If (!b) (K Out.ret 14 [V.sl none 0 (some 0) 0] h)
 (∃ (cs : List V),
 ∃ (l : Nat),
 ∃ (c : Option Nat),
 (PCon Tryz.Y (24 : Nat)
 [V.agg
 [V.ts cs0Sets n0Sets none, V.ts cs0First n0First none, V.ts cs0Last n0Last none,
 V.ts cs0Follow n0Follow none, V.b b0Empty],
 V.ts cs1 n1 none, V.i IntKind.u8 x2]
 fun (v : V) => v = V.ts cs l c) ∧
 K Out.ret 14 [V.ts cs l c] h)) := by kernel_rfl
theorem f11_0 (cs0Sets : List V) (n0Sets : Nat) (cs0First : List V) (n0First : Nat) (cs0Last : List V) (n0Last : Nat) (cs0Follow : List V) (n0Follow : Nat) (b0Empty : Bool) (cs1 : List V) (n1 : Nat) (h : Heap) (K : Out → Nat → List V → Heap → Prop) : (codeP Tryz.Y (Tryz.Y.loc 11) 100 ((flat (bodyOf Tryz.f11))) ⟨(V.agg [V.ts cs0Sets n0Sets none, V.ts cs0First n0First none, V.ts cs0Last n0Last none, V.ts cs0Follow n0Follow none, V.b b0Empty] :: V.ts cs1 n1 none :: List.replicate 10 .undef), [], h⟩ (VQ [4] K)) =
  (∃ (b : Bool),
  (PCon Tryz.Y (7 : Nat)
 [V.agg
 [V.ts cs0Sets n0Sets none, V.ts cs0First n0First none, V.ts cs0Last n0Last none, V.ts cs0Follow n0Follow none,
 V.b b0Empty]]
 fun (v : V) => v = V.b b) ∧
 If b
 (∃ (b : Bool),
 (PCon Tryz.Y (25 : Nat)
 [V.agg
 [V.ts cs0Sets n0Sets none, V.ts cs0First n0First none, V.ts cs0Last n0Last none,
 V.ts cs0Follow n0Follow none, V.b b0Empty],
 V.ts cs1 n1 none]
 fun (v : V) => v = V.b b) ∧
 K Out.ret 12 [V.b b] h)
 (K Out.ret 12 [V.b false] h)) := by kernel_rfl
theorem f12_0 (cs0Sets : List V) (n0Sets : Nat) (cs0First : List V) (n0First : Nat) (cs0Last : List V) (n0Last : Nat) (cs0Follow : List V) (n0Follow : Nat) (b0Empty : Bool) (s1 : List UInt8) (h : Heap) (K : Out → Nat → List V → Heap → Prop) : (codeP Tryz.Y (Tryz.Y.loc 12) 100 (pre (flat (bodyOf Tryz.f12))) ⟨(V.agg [V.ts cs0Sets n0Sets none, V.ts cs0First n0First none, V.ts cs0Last n0Last none, V.ts cs0Follow n0Follow none, V.b b0Empty] :: V.s s1 :: List.replicate 30 .undef), [], h⟩ (VQ [1, 2, 4, 5, 6] K)) =
  (If (s1 == #[].toList)
  (K Out.ret 32
 [V.s s1,
 V.lb
 [V.ts cs0Sets n0Sets none, V.ts cs0First n0First none, V.ts cs0Last n0Last none, V.ts cs0Follow n0Follow none,
 V.b b0Empty],
 V.b b0Empty, V.undef, V.undef]
 h)
  (∃ (c : UInt8),
 ((0 : Int) ≤ (0 : Int) ∧ s1[Int.toNat (0 : Int)]? = some c) ∧
 ∃ (cs : List V),
 ∃ (l : Nat),
 ∃ (c_1 : Option Nat),
 (PCon Tryz.Y (14 : Nat)
 [V.agg
 [V.ts cs0Sets n0Sets none, V.ts cs0First n0First none, V.ts cs0Last n0Last none,
 V.ts cs0Follow n0Follow none, V.b b0Empty],
 V.ts cs0First n0First none, V.i IntKind.u8 (↑c.toNat : Int)]
 fun (v : V) => v = V.ts cs l c_1) ∧
 K Out.normal 32
 [V.s s1,
 V.lb
 [V.ts cs0Sets n0Sets none, V.ts cs0First n0First none, V.ts cs0Last n0Last none,
 V.ts cs0Follow n0Follow none, V.b b0Empty],
 V.b false, V.ts cs l c_1, V.i IntKind.i64 (1 : Int)]
 h)) := by kernel_rfl
theorem f12_1 (cs0Sets : List V) (n0Sets : Nat) (cs0First : List V) (n0First : Nat) (cs0Last : List V) (n0Last : Nat) (cs0Follow : List V) (n0Follow : Nat) (b0Empty : Bool) (s1 : List UInt8) (c5 : Option Nat) (cs5 : List V) (n5 : Nat) (x6 : Int) (h : Heap) (K : Out → Nat → List V → Heap → Prop) : (codeP Tryz.Y (Tryz.Y.loc 12) 100 ((flat (loopB (post (flat (bodyOf Tryz.f12)))))) ⟨mk 32 (([1, 2, 5, 6] : List Nat).zip [V.s s1, V.lb [V.ts cs0Sets n0Sets none, V.ts cs0First n0First none, V.ts cs0Last n0Last none, V.ts cs0Follow n0Follow none, V.b b0Empty], V.ts cs5 n5 c5, V.i IntKind.i64 x6]), [], h⟩ (VQ [1, 2, 5, 6] K)) =
  (If (ltI x6 (↑s1.length : Int))
  (∃ (c : UInt8),
 ((0 : Int) ≤ x6 ∧ s1[x6.toNat]? = some c) ∧
 ∃ (cs : List V),
 ∃ (l : Nat),
 ∃ (c_1 : Option Nat),
 (PCon Tryz.Y (15 : Nat)
 [V.agg
 [V.ts cs0Sets n0Sets none, V.ts cs0First n0First none, V.ts cs0Last n0Last none,
 V.ts cs0Follow n0Follow none, V.b b0Empty],
 V.ts cs5 n5 c5, V.i IntKind.u8 (↑c.toNat : Int)]
 fun (v : V) => v = V.ts cs l c_1) ∧
 K Out.normal 32
 [V.s s1,
 V.lb
 [V.ts cs0Sets n0Sets none, V.ts cs0First n0First none, V.ts cs0Last n0Last none,
 V.ts cs0Follow n0Follow none, V.b b0Empty],
 V.ts cs l c_1, V.i IntKind.i64 (IntKind.i64.wrap (x6 + (1 : Int)))]
 h)
  (K (Out.exit 0) 32
 [V.s s1,
 V.lb
 [V.ts cs0Sets n0Sets none, V.ts cs0First n0First none, V.ts cs0Last n0Last none, V.ts cs0Follow n0Follow none,
 V.b b0Empty],
 V.ts cs5 n5 c5, V.i IntKind.i64 x6]
 h)) := by kernel_rfl
theorem f12_2 (cs0Sets : List V) (n0Sets : Nat) (cs0First : List V) (n0First : Nat) (cs0Last : List V) (n0Last : Nat) (cs0Follow : List V) (n0Follow : Nat) (b0Empty : Bool) (c5 : Option Nat) (cs5 : List V) (n5 : Nat) (h : Heap) (K : Out → Nat → List V → Heap → Prop) : (codeP Tryz.Y (Tryz.Y.loc 12) 100 (((post (flat (bodyOf Tryz.f12))).drop 1)) ⟨mk 32 (([2, 5] : List Nat).zip [V.lb [V.ts cs0Sets n0Sets none, V.ts cs0First n0First none, V.ts cs0Last n0Last none, V.ts cs0Follow n0Follow none, V.b b0Empty], V.ts cs5 n5 c5]), [], h⟩ (VQ [4] K)) =
  (∃ (b : Bool),
  (PCon Tryz.Y (16 : Nat)
 [V.agg
 [V.ts cs0Sets n0Sets none, V.ts cs0First n0First none, V.ts cs0Last n0Last none, V.ts cs0Follow n0Follow none,
 V.b b0Empty],
 V.ts cs5 n5 c5]
 fun (v : V) => v = V.b b) ∧
 K Out.ret 32 [V.b b] h) := by kernel_rfl
theorem f14_0 (cs0Sets : List V) (n0Sets : Nat) (cs0First : List V) (n0First : Nat) (cs0Last : List V) (n0Last : Nat) (cs0Follow : List V) (n0Follow : Nat) (b0Empty : Bool) (cs1 : List V) (n1 : Nat) (x2 : Int) (h : Heap) (K : Out → Nat → List V → Heap → Prop) : (codeP Tryz.Y (Tryz.Y.loc 14) 100 (pre (flat (bodyOf Tryz.f14))) ⟨(V.agg [V.ts cs0Sets n0Sets none, V.ts cs0First n0First none, V.ts cs0Last n0Last none, V.ts cs0Follow n0Follow none, V.b b0Empty] :: V.ts cs1 n1 none :: V.i IntKind.u8 x2 :: List.replicate 30 .undef), [], h⟩ (VQ [1, 2, 3, 7, 8] K)) =
  (K Out.normal 33
  [V.ts cs1 n1 none, V.i IntKind.u8 x2,
 V.lb
 [V.ts cs0Sets n0Sets none, V.ts cs0First n0First none, V.ts cs0Last n0Last none, V.ts cs0Follow n0Follow none,
 V.b b0Empty],
 V.sl none 0 (some 0) 0, V.i IntKind.i64 (0 : Int)]
  h) := by kernel_rfl
theorem f14_1 (cs0Sets : List V) (n0Sets : Nat) (cs0First : List V) (n0First : Nat) (cs0Last : List V) (n0Last : Nat) (cs0Follow : List V) (n0Follow : Nat) (b0Empty : Bool) (cs1 : List V) (n1 : Nat) (x2 : Int) (a7z2 : Option (Nat × Nat)) (l7z2 : Nat) (c7z2 : Option Nat) (k7z2 : Nat) (x8z2 : Int) (h : Heap) (K : Out → Nat → List V → Heap → Prop) : (codeP Tryz.Y (Tryz.Y.loc 14) 100 ((flat (loopB (post (flat (bodyOf Tryz.f14)))))) ⟨mk 33 (([1, 2, 3, 7, 8] : List Nat).zip [V.ts cs1 n1 none, V.i IntKind.u8 x2, V.lb [V.ts cs0Sets n0Sets none, V.ts cs0First n0First none, V.ts cs0Last n0Last none, V.ts cs0Follow n0Follow none, V.b b0Empty], V.sl a7z2 l7z2 c7z2 k7z2, V.i IntKind.i64 x8z2]), [], h⟩ (VQ [1, 2, 3, 7, 8] K)) =
  (If (ltI x8z2 (↑n1 : Int))
  (((0 : Int) ≤ x8z2 ∧ x8z2 < (↑n1 : Int)) ∧
 ∃ (n : Int),
 takeX 1 (List.drop (x8z2.toNat * (1 : Nat)) cs1) = some [V.i IntKind.i64 n] ∧
 ((0 : Int) ≤ n ∧ n < (↑n0Sets : Int)) ∧
 ∃ (n_1 : Int),
 ∃ (n_2 : Int),
 ∃ (n_3 : Int),
 ∃ (n_4 : Int),
 takeX 4 (List.drop (n.toNat * (4 : Nat)) cs0Sets) =
 some [V.i IntKind.u64 n_1, V.i IntKind.u64 n_2, V.i IntKind.u64 n_3, V.i IntKind.u64 n_4] ∧
 ∃ (b : Bool),
 (PCon Tryz.Y (26 : Nat)
 [V.agg [V.i IntKind.u64 n_1, V.i IntKind.u64 n_2, V.i IntKind.u64 n_3, V.i IntKind.u64 n_4],
 V.i IntKind.u8 x2]
 fun (v : V) => v = V.b b) ∧
 If b
 (((0 : Int) ≤ x8z2 ∧ x8z2 < (↑n1 : Int)) ∧
 ∃ (n : Int),
 takeX 1 (List.drop (x8z2.toNat * (1 : Nat)) cs1) = some [V.i IntKind.i64 n] ∧
 ∃ (a : Option (Nat × Nat)),
 ∃ (l : Nat),
 ∃ (c : Option Nat),
 ∃ (k : Nat),
 ∃ (h_1 : Heap),
 appendH Tryz.Y h 23 23 (V.sl a7z2 l7z2 c7z2 k7z2)
 (V.ts [V.i IntKind.i64 n] 1 (some 1)) =
 some (V.sl a l c k, h_1) ∧
 K Out.normal 33
 [V.ts cs1 n1 none, V.i IntKind.u8 x2,
 V.lb
 [V.ts cs0Sets n0Sets none, V.ts cs0First n0First none,
 V.ts cs0Last n0Last none, V.ts cs0Follow n0Follow none,
 V.b b0Empty],
 V.sl a l c k, V.i IntKind.i64 (IntKind.i64.wrap (x8z2 + (1 : Int)))]
 h_1)
 (K Out.normal 33
 [V.ts cs1 n1 none, V.i IntKind.u8 x2,
 V.lb
 [V.ts cs0Sets n0Sets none, V.ts cs0First n0First none, V.ts cs0Last n0Last none,
 V.ts cs0Follow n0Follow none, V.b b0Empty],
 V.sl a7z2 l7z2 c7z2 k7z2, V.i IntKind.i64 (IntKind.i64.wrap (x8z2 + (1 : Int)))]
 h))
  (K (Out.exit 0) 33
 [V.ts cs1 n1 none, V.i IntKind.u8 x2,
 V.lb
 [V.ts cs0Sets n0Sets none, V.ts cs0First n0First none, V.ts cs0Last n0Last none, V.ts cs0Follow n0Follow none,
 V.b b0Empty],
 V.sl a7z2 l7z2 c7z2 k7z2, V.i IntKind.i64 x8z2]
 h)) := by kernel_rfl
theorem f14_2 (a7z2 : Option (Nat × Nat)) (l7z2 : Nat) (c7z2 : Option Nat) (k7z2 : Nat) (h : Heap) (K : Out → Nat → List V → Heap → Prop) : (codeP Tryz.Y (Tryz.Y.loc 14) 100 (((post (flat (bodyOf Tryz.f14))).drop 1)) ⟨mk 33 (([7] : List Nat).zip [V.sl a7z2 l7z2 c7z2 k7z2]), [], h⟩ (VQ [6] K)) =
  (K Out.ret 33 [V.sl a7z2 l7z2 c7z2 k7z2] h) := by kernel_rfl
theorem f15_0 (cs0Sets : List V) (n0Sets : Nat) (cs0First : List V) (n0First : Nat) (cs0Last : List V) (n0Last : Nat) (cs0Follow : List V) (n0Follow : Nat) (b0Empty : Bool) (cs1 : List V) (n1 : Nat) (x2 : Int) (h : Heap) (K : Out → Nat → List V → Heap → Prop) : (codeP Tryz.Y (Tryz.Y.loc 15) 100 (pre (flat (bodyOf Tryz.f15))) ⟨(V.agg [V.ts cs0Sets n0Sets none, V.ts cs0First n0First none, V.ts cs0Last n0Last none, V.ts cs0Follow n0Follow none, V.b b0Empty] :: V.ts cs1 n1 none :: V.i IntKind.u8 x2 :: List.replicate 41 .undef), [], h⟩ (VQ [1, 2, 3, 5, 7, 8] K)) =
  (K Out.normal 44
  [V.ts cs1 n1 none, V.i IntKind.u8 x2,
 V.lb
 [V.ts cs0Sets n0Sets none, V.ts cs0First n0First none, V.ts cs0Last n0Last none, V.ts cs0Follow n0Follow none,
 V.b b0Empty],
 V.undef, V.sl none 0 (some 0) 0, V.i IntKind.i64 (0 : Int)]
  h) := by kernel_rfl
theorem f15_1 (cs0Sets : List V) (n0Sets : Nat) (cs0First : List V) (n0First : Nat) (cs0Last : List V) (n0Last : Nat) (cs0Follow : List V) (n0Follow : Nat) (b0Empty : Bool) (cs1 : List V) (n1 : Nat) (x2 : Int) (cs7 : List V) (n7 : Nat) (x8z3 : Int) (h : Heap) (K : Out → Nat → List V → Heap → Prop) : (codeP Tryz.Y (Tryz.Y.loc 15) 100 ((flat (loopB (post (flat (bodyOf Tryz.f15)))))) ⟨mk 44 (([1, 2, 3, 5, 7, 8] : List Nat).zip [V.ts cs1 n1 none, V.i IntKind.u8 x2, V.lb [V.ts cs0Sets n0Sets none, V.ts cs0First n0First none, V.ts cs0Last n0Last none, V.ts cs0Follow n0Follow none, V.b b0Empty], V.undef, V.ts cs7 n7 none, V.i IntKind.i64 x8z3]), [], h⟩ (VQ [1, 2, 3, 5, 7, 8] K)) =
  (If (ltI x8z3 (↑n1 : Int))
  (((0 : Int) ≤ x8z3 ∧ x8z3 < (↑n1 : Int)) ∧
 ∃ (n : Int),
 takeX 1 (List.drop (x8z3.toNat * (1 : Nat)) cs1) = some [V.i IntKind.i64 n] ∧
 If (leI (0 : Int) n)
 (((0 : Int) ≤ x8z3 ∧ x8z3 < (↑n1 : Int)) ∧
 ∃ (n : Int),
 takeX 1 (List.drop (x8z3.toNat * (1 : Nat)) cs1) = some [V.i IntKind.i64 n] ∧
 If (ltI n (↑n0Sets : Int))
 (((0 : Int) ≤ x8z3 ∧ x8z3 < (↑n1 : Int)) ∧
 ∃ (n : Int),
 takeX 1 (List.drop (x8z3.toNat * (1 : Nat)) cs1) = some [V.i IntKind.i64 n] ∧
 ((0 : Int) ≤ n ∧ n < (↑n0Follow : Int)) ∧
 ∃ (cs : List V),
 ∃ (l : Nat),
 ∃ (c : Option Nat),
 takeX 1 (List.drop (n.toNat * (1 : Nat)) cs0Follow) = some [V.ts cs l c] ∧
 ∃ (cs_1 : List V),
 ∃ (l_1 : Nat),
 ∃ (c_1 : Option Nat),
 (PCon Tryz.Y (14 : Nat)
 [V.agg
 [V.ts cs0Sets n0Sets none, V.ts cs0First n0First none,
 V.ts cs0Last n0Last none, V.ts cs0Follow n0Follow none, V.b b0Empty],
 V.ts cs l c, V.i IntKind.u8 x2]
 fun (v : V) => v = V.ts cs_1 l_1 c_1) ∧
 ∃ (cs : List V),
 ∃ (l : Nat),
 ∃ (c : Option Nat),
 (PCon Tryz.Y (27 : Nat) [V.ts cs7 n7 none, V.ts cs_1 l_1 c_1]
 fun (v : V) => v = V.ts cs l c) ∧
 K Out.normal 44
 [V.ts cs1 n1 none, V.i IntKind.u8 x2,
 V.lb
 [V.ts cs0Sets n0Sets none, V.ts cs0First n0First none,
 V.ts cs0Last n0Last none, V.ts cs0Follow n0Follow none,
 V.b b0Empty],
 V.undef, V.ts cs l c,
 V.i IntKind.i64 (IntKind.i64.wrap (x8z3 + (1 : Int)))]
 h)
 (K Out.normal 44
 [V.ts cs1 n1 none, V.i IntKind.u8 x2,
 V.lb
 [V.ts cs0Sets n0Sets none, V.ts cs0First n0First none, V.ts cs0Last n0Last none,
 V.ts cs0Follow n0Follow none, V.b b0Empty],
 V.undef, V.ts cs7 n7 none, V.i IntKind.i64 (IntKind.i64.wrap (x8z3 + (1 : Int)))]
 h))
 (K Out.normal 44
 [V.ts cs1 n1 none, V.i IntKind.u8 x2,
 V.lb
 [V.ts cs0Sets n0Sets none, V.ts cs0First n0First none, V.ts cs0Last n0Last none,
 V.ts cs0Follow n0Follow none, V.b b0Empty],
 V.undef, V.ts cs7 n7 none, V.i IntKind.i64 (IntKind.i64.wrap (x8z3 + (1 : Int)))]
 h))
  (K (Out.exit 0) 44
 [V.ts cs1 n1 none, V.i IntKind.u8 x2,
 V.lb
 [V.ts cs0Sets n0Sets none, V.ts cs0First n0First none, V.ts cs0Last n0Last none, V.ts cs0Follow n0Follow none,
 V.b b0Empty],
 V.undef, V.ts cs7 n7 none, V.i IntKind.i64 x8z3]
 h)) := by kernel_rfl
theorem f15_2 (cs7 : List V) (n7 : Nat) (h : Heap) (K : Out → Nat → List V → Heap → Prop) : (codeP Tryz.Y (Tryz.Y.loc 15) 100 (((post (flat (bodyOf Tryz.f15))).drop 1)) ⟨mk 44 (([7] : List Nat).zip [V.ts cs7 n7 none]), [], h⟩ (VQ [6] K)) =
  (K Out.ret 44 [V.ts cs7 n7 none] h) := by kernel_rfl
theorem f16_0 (cs0Sets : List V) (n0Sets : Nat) (cs0First : List V) (n0First : Nat) (cs0Last : List V) (n0Last : Nat) (cs0Follow : List V) (n0Follow : Nat) (b0Empty : Bool) (cs1 : List V) (n1 : Nat) (h : Heap) (K : Out → Nat → List V → Heap → Prop) : (codeP Tryz.Y (Tryz.Y.loc 16) 100 (pre (flat (bodyOf Tryz.f16))) ⟨(V.agg [V.ts cs0Sets n0Sets none, V.ts cs0First n0First none, V.ts cs0Last n0Last none, V.ts cs0Follow n0Follow none, V.b b0Empty] :: V.ts cs1 n1 none :: List.replicate 28 .undef), [], h⟩ (VQ [1, 2, 5] K)) =
  (K Out.normal 30
  [V.ts cs1 n1 none,
 V.lb
 [V.ts cs0Sets n0Sets none, V.ts cs0First n0First none, V.ts cs0Last n0Last none, V.ts cs0Follow n0Follow none,
 V.b b0Empty],
 V.i IntKind.i64 (0 : Int)]
  h) := by kernel_rfl
theorem f16_1 (cs0Sets : List V) (n0Sets : Nat) (cs0First : List V) (n0First : Nat) (cs0Last : List V) (n0Last : Nat) (cs0Follow : List V) (n0Follow : Nat) (b0Empty : Bool) (cs1 : List V) (n1 : Nat) (x5 : Int) (h : Heap) (K : Out → Nat → List V → Heap → Prop) : (codeP Tryz.Y (Tryz.Y.loc 16) 100 (pre (flat (loopB (post (flat (bodyOf Tryz.f16)))))) ⟨mk 30 (([1, 2, 5] : List Nat).zip [V.ts cs1 n1 none, V.lb [V.ts cs0Sets n0Sets none, V.ts cs0First n0First none, V.ts cs0Last n0Last none, V.ts cs0Follow n0Follow none, V.b b0Empty], V.i IntKind.i64 x5]), [], h⟩ (VQ [1, 2, 5] K)) =
  (If (ltI x5 (↑n1 : Int))
  (K Out.normal 30
 [V.ts cs1 n1 none,
 V.lb
 [V.ts cs0Sets n0Sets none, V.ts cs0First n0First none, V.ts cs0Last n0Last none, V.ts cs0Follow n0Follow none,
 V.b b0Empty],
 V.i IntKind.i64 x5]
 h)
  (K (Out.exit 0) 30
 [V.ts cs1 n1 none,
 V.lb
 [V.ts cs0Sets n0Sets none, V.ts cs0First n0First none, V.ts cs0Last n0Last none, V.ts cs0Follow n0Follow none,
 V.b b0Empty],
 V.i IntKind.i64 x5]
 h)) := by kernel_rfl
theorem f16_2 (cs0Sets : List V) (n0Sets : Nat) (cs0First : List V) (n0First : Nat) (cs0Last : List V) (n0Last : Nat) (cs0Follow : List V) (n0Follow : Nat) (b0Empty : Bool) (cs1 : List V) (n1 : Nat) (x5 : Int) (h : Heap) (K : Out → Nat → List V → Heap → Prop) : (codeP Tryz.Y (Tryz.Y.loc 16) 100 (pre (flat (blockB (post (flat (loopB (post (flat (bodyOf Tryz.f16))))))))) ⟨mk 30 (([1, 2, 5] : List Nat).zip [V.ts cs1 n1 none, V.lb [V.ts cs0Sets n0Sets none, V.ts cs0First n0First none, V.ts cs0Last n0Last none, V.ts cs0Follow n0Follow none, V.b b0Empty], V.i IntKind.i64 x5]), [], h⟩ (VQ [1, 2, 5, 6] K)) =
  (K Out.normal 30
  [V.ts cs1 n1 none,
 V.lb
 [V.ts cs0Sets n0Sets none, V.ts cs0First n0First none, V.ts cs0Last n0Last none, V.ts cs0Follow n0Follow none,
 V.b b0Empty],
 V.i IntKind.i64 x5, V.i IntKind.i64 (0 : Int)]
  h) := by kernel_rfl
theorem f16_3 (cs0Sets : List V) (n0Sets : Nat) (cs0First : List V) (n0First : Nat) (cs0Last : List V) (n0Last : Nat) (cs0Follow : List V) (n0Follow : Nat) (b0Empty : Bool) (cs1 : List V) (n1 : Nat) (x5 : Int) (x6z2 : Int) (h : Heap) (K : Out → Nat → List V → Heap → Prop) : (codeP Tryz.Y (Tryz.Y.loc 16) 100 ((flat (loopB (post (flat (blockB (post (flat (loopB (post (flat (bodyOf Tryz.f16)))))))))))) ⟨mk 30 (([1, 2, 5, 6] : List Nat).zip [V.ts cs1 n1 none, V.lb [V.ts cs0Sets n0Sets none, V.ts cs0First n0First none, V.ts cs0Last n0Last none, V.ts cs0Follow n0Follow none, V.b b0Empty], V.i IntKind.i64 x5, V.i IntKind.i64 x6z2]), [], h⟩ (VQ [1, 2, 4, 5, 6] K)) =
  (If (ltI x6z2 (↑n0Last : Int))
  (((0 : Int) ≤ x5 ∧ x5 < (↑n1 : Int)) ∧
 ∃ (n : Int),
 takeX 1 (List.drop (x5.toNat * (1 : Nat)) cs1) = some [V.i IntKind.i64 n] ∧
 ((0 : Int) ≤ x6z2 ∧ x6z2 < (↑n0Last : Int)) ∧
 ∃ (n_1 : Int),
 takeX 1 (List.drop (x6z2.toNat * (1 : Nat)) cs0Last) = some [V.i IntKind.i64 n_1] ∧
 If (n == n_1)
 (K Out.ret 30
 [V.ts cs1 n1 none,
 V.lb
 [V.ts cs0Sets n0Sets none, V.ts cs0First n0First none, V.ts cs0Last n0Last none,
 V.ts cs0Follow n0Follow none, V.b b0Empty],
 V.b true, V.i IntKind.i64 x5, V.i IntKind.i64 x6z2]
 h)
 (K Out.normal 30
 [V.ts cs1 n1 none,
 V.lb
 [V.ts cs0Sets n0Sets none, V.ts cs0First n0First none, V.ts cs0Last n0Last none,
 V.ts cs0Follow n0Follow none, V.b b0Empty],
 V.undef, V.i IntKind.i64 x5, V.i IntKind.i64 (IntKind.i64.wrap (x6z2 + (1 : Int)))]
 h))
  (K (Out.exit 2) 30
 [V.ts cs1 n1 none,
 V.lb
 [V.ts cs0Sets n0Sets none, V.ts cs0First n0First none, V.ts cs0Last n0Last none, V.ts cs0Follow n0Follow none,
 V.b b0Empty],
 V.undef, V.i IntKind.i64 x5, V.i IntKind.i64 x6z2]
 h)) := by kernel_rfl
theorem f16_4 (cs0Sets : List V) (n0Sets : Nat) (cs0First : List V) (n0First : Nat) (cs0Last : List V) (n0Last : Nat) (cs0Follow : List V) (n0Follow : Nat) (b0Empty : Bool) (cs1 : List V) (n1 : Nat) (x5 : Int) (h : Heap) (K : Out → Nat → List V → Heap → Prop) : (codeP Tryz.Y (Tryz.Y.loc 16) 100 (((post (flat (loopB (post (flat (bodyOf Tryz.f16)))))).drop 1)) ⟨mk 30 (([1, 2, 5] : List Nat).zip [V.ts cs1 n1 none, V.lb [V.ts cs0Sets n0Sets none, V.ts cs0First n0First none, V.ts cs0Last n0Last none, V.ts cs0Follow n0Follow none, V.b b0Empty], V.i IntKind.i64 x5]), [], h⟩ (VQ [1, 2, 5] K)) =
  (K Out.normal 30
  [V.ts cs1 n1 none,
 V.lb
 [V.ts cs0Sets n0Sets none, V.ts cs0First n0First none, V.ts cs0Last n0Last none, V.ts cs0Follow n0Follow none,
 V.b b0Empty],
 V.i IntKind.i64 (IntKind.i64.wrap (x5 + (1 : Int)))]
  h) := by kernel_rfl
theorem f16_5  (h : Heap) (K : Out → Nat → List V → Heap → Prop) : (codeP Tryz.Y (Tryz.Y.loc 16) 100 (((post (flat (bodyOf Tryz.f16))).drop 1)) ⟨mk 30 (([] : List Nat).zip []), [], h⟩ (VQ [4] K)) =
  (K Out.ret 30 [V.b false] h) := by kernel_rfl
theorem f23_0 (cs0Sets : List V) (n0Sets : Nat) (cs0First : List V) (n0First : Nat) (cs0Last : List V) (n0Last : Nat) (cs0Follow : List V) (n0Follow : Nat) (b0Empty : Bool) (cs1 : List V) (n1 : Nat) (x2 : Int) (h : Heap) (K : Out → Nat → List V → Heap → Prop) : (codeP Tryz.Y (Tryz.Y.loc 23) 100 (pre (flat (bodyOf Tryz.f23))) ⟨(V.agg [V.ts cs0Sets n0Sets none, V.ts cs0First n0First none, V.ts cs0Last n0Last none, V.ts cs0Follow n0Follow none, V.b b0Empty] :: V.ts cs1 n1 none :: V.i IntKind.u8 x2 :: List.replicate 32 .undef), [], h⟩ (VQ [2, 3, 7, 10, 11, 12] K)) =
  (K Out.normal 35
  [V.i IntKind.u8 x2,
 V.lb
 [V.ts cs0Sets n0Sets none, V.ts cs0First n0First none, V.ts cs0Last n0Last none, V.ts cs0Follow n0Follow none,
 V.b b0Empty],
 V.sl none 0 (some 0) 0, V.ts cs1 n1 none, V.i IntKind.i64 (↑n1 : Int),
 V.i IntKind.i64 (0 : Int)]
  h) := by kernel_rfl
theorem f23_1 (cs0Sets : List V) (n0Sets : Nat) (cs0First : List V) (n0First : Nat) (cs0Last : List V) (n0Last : Nat) (cs0Follow : List V) (n0Follow : Nat) (b0Empty : Bool) (cs1 : List V) (n1 : Nat) (x2 : Int) (a7z2 : Option (Nat × Nat)) (l7z2 : Nat) (c7z2 : Option Nat) (k7z2 : Nat) (x12z2 : Int) (h : Heap) (K : Out → Nat → List V → Heap → Prop) : (codeP Tryz.Y (Tryz.Y.loc 23) 100 ((flat (loopB (post (flat (bodyOf Tryz.f23)))))) ⟨mk 35 (([2, 3, 7, 10, 11, 12] : List Nat).zip [V.i IntKind.u8 x2, V.lb [V.ts cs0Sets n0Sets none, V.ts cs0First n0First none, V.ts cs0Last n0Last none, V.ts cs0Follow n0Follow none, V.b b0Empty], V.sl a7z2 l7z2 c7z2 k7z2, V.ts cs1 n1 none, V.i IntKind.i64 (↑n1 : Int), V.i IntKind.i64 x12z2]), [], h⟩ (VQ [2, 3, 7, 10, 11, 12] K)) =
  (If (ltI x12z2 (↑n1 : Int))
  (((0 : Int) ≤ x12z2 ∧ x12z2 < (↑n1 : Int)) ∧
 ∃ (n : Int),
 takeX 1 (List.drop (x12z2.toNat * (1 : Nat)) cs1) = some [V.i IntKind.i64 n] ∧
 (0 : Int) ≤ (6 : Int) ∧
 ((0 : Int) ≤ n ∧ n < (↑n0Sets : Int)) ∧
 ((0 : Int) ≤ x2.fdiv ((2 : Int) ^ min (Int.toNat (6 : Int)) IntKind.u8.bits) ∧
 x2.fdiv ((2 : Int) ^ min (Int.toNat (6 : Int)) IntKind.u8.bits) < (↑(4 : Nat) : Int)) ∧
 ∃ (n_1 : Int),
 takeX 1
 (List.drop ((x2.fdiv ((2 : Int) ^ min (Int.toNat (6 : Int)) IntKind.u8.bits)).toNat * (1 : Nat))
 (List.drop (n.toNat * (4 : Nat)) cs0Sets)) =
 some [V.i IntKind.u64 n_1] ∧
 (0 : Int) ≤
 IntKind.u8.wrap
 (↑(BitVec.ofInt IntKind.u8.bits x2 &&& BitVec.ofInt IntKind.u8.bits (63 : Int)).toNat : Int) ∧
 If
 (IntKind.u64.wrap
 (↑(BitVec.ofInt IntKind.u64.bits
 (n_1.fdiv
 ((2 : Int) ^
 min
 (IntKind.u8.wrap
 (↑(BitVec.ofInt IntKind.u8.bits x2 &&&
 BitVec.ofInt IntKind.u8.bits (63 : Int)).toNat :
 Int)).toNat
 IntKind.u64.bits)) &&&
 BitVec.ofInt IntKind.u64.bits (1 : Int)).toNat :
 Int) ==
 (1 : Int))
 (∃ (a : Option (Nat × Nat)),
 ∃ (l : Nat),
 ∃ (c : Option Nat),
 ∃ (k : Nat),
 ∃ (h_1 : Heap),
 appendH Tryz.Y h 23 23 (V.sl a7z2 l7z2 c7z2 k7z2)
 (V.ts [V.i IntKind.i64 n] 1 (some 1)) =
 some (V.sl a l c k, h_1) ∧
 K Out.normal 35
 [V.i IntKind.u8 x2,
 V.lb
 [V.ts cs0Sets n0Sets none, V.ts cs0First n0First none, V.ts cs0Last n0Last none,
 V.ts cs0Follow n0Follow none, V.b b0Empty],
 V.sl a l c k, V.ts cs1 n1 none, V.i IntKind.i64 (↑n1 : Int),
 V.i IntKind.i64 (IntKind.i64.wrap (x12z2 + (1 : Int)))]
 h_1)
 (K Out.normal 35
 [V.i IntKind.u8 x2,
 V.lb
 [V.ts cs0Sets n0Sets none, V.ts cs0First n0First none, V.ts cs0Last n0Last none,
 V.ts cs0Follow n0Follow none, V.b b0Empty],
 V.sl a7z2 l7z2 c7z2 k7z2, V.ts cs1 n1 none, V.i IntKind.i64 (↑n1 : Int),
 V.i IntKind.i64 (IntKind.i64.wrap (x12z2 + (1 : Int)))]
 h))
  (K (Out.exit 0) 35
 [V.i IntKind.u8 x2,
 V.lb
 [V.ts cs0Sets n0Sets none, V.ts cs0First n0First none, V.ts cs0Last n0Last none, V.ts cs0Follow n0Follow none,
 V.b b0Empty],
 V.sl a7z2 l7z2 c7z2 k7z2, V.ts cs1 n1 none, V.i IntKind.i64 (↑n1 : Int), V.i IntKind.i64 x12z2]
 h)) := by kernel_rfl
theorem f23_2 (a7z2 : Option (Nat × Nat)) (l7z2 : Nat) (c7z2 : Option Nat) (k7z2 : Nat) (h : Heap) (K : Out → Nat → List V → Heap → Prop) : (codeP Tryz.Y (Tryz.Y.loc 23) 100 (((post (flat (bodyOf Tryz.f23))).drop 1)) ⟨mk 35 (([7] : List Nat).zip [V.sl a7z2 l7z2 c7z2 k7z2]), [], h⟩ (VQ [6] K)) =
  (K Out.ret 35 [V.sl a7z2 l7z2 c7z2 k7z2] h) := by kernel_rfl
theorem f24_0 (cs0Sets : List V) (n0Sets : Nat) (cs0First : List V) (n0First : Nat) (cs0Last : List V) (n0Last : Nat) (cs0Follow : List V) (n0Follow : Nat) (b0Empty : Bool) (cs1 : List V) (n1 : Nat) (x2 : Int) (h : Heap) (K : Out → Nat → List V → Heap → Prop) : (codeP Tryz.Y (Tryz.Y.loc 24) 100 (pre (flat (bodyOf Tryz.f24))) ⟨(V.agg [V.ts cs0Sets n0Sets none, V.ts cs0First n0First none, V.ts cs0Last n0Last none, V.ts cs0Follow n0Follow none, V.b b0Empty] :: V.ts cs1 n1 none :: V.i IntKind.u8 x2 :: List.replicate 37 .undef), [], h⟩ (VQ [2, 3, 7, 10, 11, 12] K)) =
  (K Out.normal 40
  [V.i IntKind.u8 x2,
 V.lb
 [V.ts cs0Sets n0Sets none, V.ts cs0First n0First none, V.ts cs0Last n0Last none, V.ts cs0Follow n0Follow none,
 V.b b0Empty],
 V.sl none 0 (some 0) 0, V.ts cs1 n1 none, V.i IntKind.i64 (↑n1 : Int),
 V.i IntKind.i64 (0 : Int)]
  h) := by kernel_rfl
theorem f24_1 (cs0Sets : List V) (n0Sets : Nat) (cs0First : List V) (n0First : Nat) (cs0Last : List V) (n0Last : Nat) (cs0Follow : List V) (n0Follow : Nat) (b0Empty : Bool) (cs1 : List V) (n1 : Nat) (x2 : Int) (a7z3 : Option (Nat × Nat)) (l7z3 : Nat) (c7z3 : Option Nat) (k7z3 : Nat) (x12z3 : Int) (h : Heap) (K : Out → Nat → List V → Heap → Prop) : (codeP Tryz.Y (Tryz.Y.loc 24) 100 ((flat (loopB (post (flat (bodyOf Tryz.f24)))))) ⟨mk 40 (([2, 3, 7, 10, 11, 12] : List Nat).zip [V.i IntKind.u8 x2, V.lb [V.ts cs0Sets n0Sets none, V.ts cs0First n0First none, V.ts cs0Last n0Last none, V.ts cs0Follow n0Follow none, V.b b0Empty], V.sl a7z3 l7z3 c7z3 k7z3, V.ts cs1 n1 none, V.i IntKind.i64 (↑n1 : Int), V.i IntKind.i64 x12z3]), [], h⟩ (VQ [2, 3, 7, 10, 11, 12] K)) =
  (If (ltI x12z3 (↑n1 : Int))
  (((0 : Int) ≤ x12z3 ∧ x12z3 < (↑n1 : Int)) ∧
 ∃ (n : Int),
 takeX 1 (List.drop (x12z3.toNat * (1 : Nat)) cs1) = some [V.i IntKind.i64 n] ∧
 If (leI (0 : Int) n)
 (If (ltI n (↑n0Sets : Int))
 (((0 : Int) ≤ n ∧ n < (↑n0Follow : Int)) ∧
 ∃ (cs : List V),
 ∃ (l : Nat),
 ∃ (c : Option Nat),
 takeX 1 (List.drop (n.toNat * (1 : Nat)) cs0Follow) = some [V.ts cs l c] ∧
 ∃ (cs_1 : List V),
 ∃ (l_1 : Nat),
 ∃ (c_1 : Option Nat),
 (PCon Tryz.Y (23 : Nat)
 [V.agg
 [V.ts cs0Sets n0Sets none, V.ts cs0First n0First none, V.ts cs0Last n0Last none,
 V.ts cs0Follow n0Follow none, V.b b0Empty],
 V.ts cs l c, V.i IntKind.u8 x2]
 fun (v : V) => v = V.ts cs_1 l_1 c_1) ∧
 ∃ (a : Option (Nat × Nat)),
 ∃ (l : Nat),
 ∃ (c : Option Nat),
 ∃ (k : Nat),
 ∃ (h_1 : Heap),
 appendH Tryz.Y h 23 23 (V.sl a7z3 l7z3 c7z3 k7z3)
 (V.ts cs_1 l_1 c_1) =
 some (V.sl a l c k, h_1) ∧
 K Out.normal 40
 [V.i IntKind.u8 x2,
 V.lb
 [V.ts cs0Sets n0Sets none, V.ts cs0First n0First none,
 V.ts cs0Last n0Last none, V.ts cs0Follow n0Follow none, V.b b0Empty],
 V.sl a l c k, V.ts cs1 n1 none, V.i IntKind.i64 (↑n1 : Int),
 V.i IntKind.i64 (IntKind.i64.wrap (x12z3 + (1 : Int)))]
 h_1)
 (K Out.normal 40
 [V.i IntKind.u8 x2,
 V.lb
 [V.ts cs0Sets n0Sets none, V.ts cs0First n0First none, V.ts cs0Last n0Last none,
 V.ts cs0Follow n0Follow none, V.b b0Empty],
 V.sl a7z3 l7z3 c7z3 k7z3, V.ts cs1 n1 none, V.i IntKind.i64 (↑n1 : Int),
 V.i IntKind.i64 (IntKind.i64.wrap (x12z3 + (1 : Int)))]
 h))
 (K Out.normal 40
 [V.i IntKind.u8 x2,
 V.lb
 [V.ts cs0Sets n0Sets none, V.ts cs0First n0First none, V.ts cs0Last n0Last none,
 V.ts cs0Follow n0Follow none, V.b b0Empty],
 V.sl a7z3 l7z3 c7z3 k7z3, V.ts cs1 n1 none, V.i IntKind.i64 (↑n1 : Int),
 V.i IntKind.i64 (IntKind.i64.wrap (x12z3 + (1 : Int)))]
 h))
  (K (Out.exit 0) 40
 [V.i IntKind.u8 x2,
 V.lb
 [V.ts cs0Sets n0Sets none, V.ts cs0First n0First none, V.ts cs0Last n0Last none, V.ts cs0Follow n0Follow none,
 V.b b0Empty],
 V.sl a7z3 l7z3 c7z3 k7z3, V.ts cs1 n1 none, V.i IntKind.i64 (↑n1 : Int), V.i IntKind.i64 x12z3]
 h)) := by kernel_rfl
theorem f24_2 (a7z3 : Option (Nat × Nat)) (l7z3 : Nat) (c7z3 : Option Nat) (k7z3 : Nat) (h : Heap) (K : Out → Nat → List V → Heap → Prop) : (codeP Tryz.Y (Tryz.Y.loc 24) 100 (((post (flat (bodyOf Tryz.f24))).drop 1)) ⟨mk 40 (([7] : List Nat).zip [V.sl a7z3 l7z3 c7z3 k7z3]), [], h⟩ (VQ [6] K)) =
  (Con Tryz.Y (36 : Nat) [V.sl a7z3 l7z3 c7z3 k7z3] h fun (v : V) (h' : Heap) =>
  v = V.tup [] ∧
 Con Tryz.Y (37 : Nat) [V.sl a7z3 l7z3 c7z3 k7z3] h' fun (v : V) (h' : Heap) =>
 ∃ (a : Option (Nat × Nat)),
 ∃ (l : Nat), ∃ (c : Option Nat), ∃ (k : Nat), v = V.sl a l c k ∧ K Out.ret 40 [V.sl a l c k] h') := by kernel_rfl
theorem f25_0 (cs0Sets : List V) (n0Sets : Nat) (cs0First : List V) (n0First : Nat) (cs0Last : List V) (n0Last : Nat) (cs0Follow : List V) (n0Follow : Nat) (b0Empty : Bool) (cs1 : List V) (n1 : Nat) (h : Heap) (K : Out → Nat → List V → Heap → Prop) : (codeP Tryz.Y (Tryz.Y.loc 25) 100 ((flat (bodyOf Tryz.f25))) ⟨(V.agg [V.ts cs0Sets n0Sets none, V.ts cs0First n0First none, V.ts cs0Last n0Last none, V.ts cs0Follow n0Follow none, V.b b0Empty] :: V.ts cs1 n1 none :: List.replicate 6 .undef), [], h⟩ (VQ [4] K)) =
  (Con Tryz.Y (38 : Nat) [V.ts cs1 n1 none, V.fn (Fn.func (39 : Nat)) [] [V.p (some (h.nx, 0))]]
  (h.push
 (YObj.arr
 [V.ts cs0Sets n0Sets none, V.ts cs0First n0First none, V.ts cs0Last n0Last none, V.ts cs0Follow n0Follow none,
 V.b b0Empty]
 true))
  fun (v : V) (h' : Heap) => ∃ (b : Bool), v = V.b b ∧ K Out.ret 8 [V.b b] h') := by kernel_rfl
theorem f27_0 (cs0 : List V) (n0 : Nat) (cs1 : List V) (n1 : Nat) (h : Heap) (K : Out → Nat → List V → Heap → Prop) : (codeP Tryz.Y (Tryz.Y.loc 27) 100 (pre (flat (bodyOf Tryz.f27))) ⟨(V.ts cs0 n0 none :: V.ts cs1 n1 none :: List.replicate 17 .undef), [], h⟩ (VQ [0, 1, 5] K)) =
  (K Out.normal 19 [V.ts cs0 n0 none, V.ts cs1 n1 none, V.i IntKind.i64 (0 : Int)] h) := by kernel_rfl
theorem f27_1 (cs0 : List V) (n0 : Nat) (cs1 : List V) (n1 : Nat) (x5 : Int) (h : Heap) (K : Out → Nat → List V → Heap → Prop) : (codeP Tryz.Y (Tryz.Y.loc 27) 100 ((flat (loopB (post (flat (bodyOf Tryz.f27)))))) ⟨mk 19 (([0, 1, 5] : List Nat).zip [V.ts cs0 n0 none, V.ts cs1 n1 none, V.i IntKind.i64 x5]), [], h⟩ (VQ [0, 1, 5] K)) =
  (If (ltI x5 (↑n1 : Int))
  (((0 : Int) ≤ x5 ∧ x5 < (↑n1 : Int)) ∧
 ∃ (n : Int),
 takeX 1 (List.drop (x5.toNat * (1 : Nat)) cs1) = some [V.i IntKind.i64 n] ∧
 ∃ (cs : List V),
 ∃ (l : Nat),
 ∃ (c : Option Nat),
 (PCon Tryz.Y (41 : Nat) [V.ts cs0 n0 none, V.i IntKind.i64 n] fun (v : V) => v = V.ts cs l c) ∧
 K Out.normal 19
 [V.ts cs l c, V.ts cs1 n1 none, V.i IntKind.i64 (IntKind.i64.wrap (x5 + (1 : Int)))] h)
  (K (Out.exit 0) 19 [V.ts cs0 n0 none, V.ts cs1 n1 none, V.i IntKind.i64 x5] h)) := by kernel_rfl
theorem f27_2 (cs0 : List V) (n0 : Nat) (h : Heap) (K : Out → Nat → List V → Heap → Prop) : (codeP Tryz.Y (Tryz.Y.loc 27) 100 (((post (flat (bodyOf Tryz.f27))).drop 1)) ⟨mk 19 (([0] : List Nat).zip [V.ts cs0 n0 none]), [], h⟩ (VQ [4] K)) =
  (K Out.ret 19 [V.ts cs0 n0 none] h) := by kernel_rfl
theorem f41_0 (cs0 : List V) (n0 : Nat) (x1 : Int) (h : Heap) (K : Out → Nat → List V → Heap → Prop) : (codeP Tryz.Y (Tryz.Y.loc 41) 100 (pre (flat (bodyOf Tryz.f41))) ⟨(V.ts cs0 n0 none :: V.i IntKind.i64 x1 :: List.replicate 46 .undef), [], h⟩ (VQ [0, 1, 4, 5] K)) =
  (K Out.normal 48
  [V.ts cs0 n0 none, V.i IntKind.i64 x1, V.sl none 0 (some 0) 0,
 V.i IntKind.i64 (0 : Int)]
  h) := by kernel_rfl
theorem f41_1 (cs0 : List V) (n0 : Nat) (x1 : Int) (x5 : Int) (h : Heap) (K : Out → Nat → List V → Heap → Prop) : (codeP Tryz.Y (Tryz.Y.loc 41) 100 ((flat (loopB (post (flat (bodyOf Tryz.f41)))))) ⟨mk 48 (([0, 1, 4, 5] : List Nat).zip [V.ts cs0 n0 none, V.i IntKind.i64 x1, V.sl none 0 (some 0) 0, V.i IntKind.i64 x5]), [], h⟩ (VQ [0, 1, 4, 5] K)) =
  (If (ltI x5 (↑n0 : Int))
  (((0 : Int) ≤ x5 ∧ x5 < (↑n0 : Int)) ∧
 ∃ (n : Int),
 takeX 1 (List.drop (x5.toNat * (1 : Nat)) cs0) = some [V.i IntKind.i64 n] ∧
 If (ltI n x1)
 (K Out.normal 48
 [V.ts cs0 n0 none, V.i IntKind.i64 x1, V.sl none 0 (some 0) 0,
 V.i IntKind.i64 (IntKind.i64.wrap (x5 + (1 : Int)))]
 h)
 (K (Out.exit 0) 48
 [V.ts cs0 n0 none, V.i IntKind.i64 x1, V.sl none 0 (some 0) 0,
 V.i IntKind.i64 x5]
 h))
  (K (Out.exit 0) 48
 [V.ts cs0 n0 none, V.i IntKind.i64 x1, V.sl none 0 (some 0) 0, V.i IntKind.i64 x5] h)) := by kernel_rfl
theorem f41_2 (cs0 : List V) (n0 : Nat) (x1 : Int) (x5 : Int) (h : Heap) (K : Out → Nat → List V → Heap → Prop) : (codeP Tryz.Y (Tryz.Y.loc 41) 100 (((post (flat (bodyOf Tryz.f41))).drop 1)) ⟨mk 48 (([0, 1, 4, 5] : List Nat).zip [V.ts cs0 n0 none, V.i IntKind.i64 x1, V.sl none 0 (some 0) 0, V.i IntKind.i64 x5]), [], h⟩ (VQ [4] K)) =
  (If (ltI x5 (↑n0 : Int))
  (((0 : Int) ≤ x5 ∧ x5 < (↑n0 : Int)) ∧
 ∃ (n : Int),
 takeX 1 (List.drop (x5.toNat * (1 : Nat)) cs0) = some [V.i IntKind.i64 n] ∧
 If (n == x1) (K Out.ret 48 [V.ts cs0 n0 none] h)
 (((0 : Int) ≤ x5 ∧ x5 ≤ (↑n0 : Int)) ∧
 ((∃ (a : Option (Nat × Nat)),
 ∃ (l : Nat),
 ∃ (c : Option Nat),
 ∃ (k : Nat),
 ∃ (h_1 : Heap),
 appendH Tryz.Y h 23 23 (V.ts [] 0 (some 0))
 (V.ts
 (List.take ((x5.toNat - (0 : Nat)) * (1 : Nat)) (List.drop ((0 : Nat) * (1 : Nat)) cs0))
 (x5.toNat - (0 : Nat)) none) =
 some (V.sl a l c k, h_1) ∧
 ∃ (a_1 : Option (Nat × Nat)),
 ∃ (l_1 : Nat),
 ∃ (c_1 : Option Nat),
 ∃ (k_1 : Nat),
 ∃ (h : Heap),
 appendH Tryz.Y h_1 23 23 (V.sl a l c k)
 (V.ts [V.i IntKind.i64 x1] 1 (some 1)) =
 some (V.sl a_1 l_1 c_1 k_1, h) ∧
 ((0 : Int) ≤ x5 ∧ x5 ≤ (↑n0 : Int)) ∧
 ∃ (a : Option (Nat × Nat)),
 ∃ (l : Nat),
 ∃ (c : Option Nat),
 ∃ (k : Nat),
 ∃ (h_2 : Heap),
 appendH Tryz.Y h 23 23 (V.sl a_1 l_1 c_1 k_1)
 (V.ts
 (List.take ((n0 - x5.toNat) * (1 : Nat))
 (List.drop (x5.toNat * (1 : Nat)) cs0))
 (n0 - x5.toNat) none) =
 some (V.sl a l c k, h_2) ∧
 K Out.ret 48 [V.sl a l c k] h_2) ∨
 appendH Tryz.Y h 23 23 (V.ts [] 0 (some 0))
 (V.ts (List.take ((x5.toNat - (0 : Nat)) * (1 : Nat)) (List.drop ((0 : Nat) * (1 : Nat)) cs0))
 (x5.toNat - (0 : Nat)) none) =
 some (V.ts [] 0 (some 0), h) ∧
 ((∃ (a : Option (Nat × Nat)),
 ∃ (l : Nat),
 ∃ (c : Option Nat),
 ∃ (k : Nat),
 ∃ (h_1 : Heap),
 appendH Tryz.Y h 23 23 (V.ts [] 0 (some 0))
 (V.ts [V.i IntKind.i64 x1] 1 (some 1)) =
 some (V.sl a l c k, h_1) ∧
 ((0 : Int) ≤ x5 ∧ x5 ≤ (↑n0 : Int)) ∧
 ∃ (a_1 : Option (Nat × Nat)),
 ∃ (l_1 : Nat),
 ∃ (c_1 : Option Nat),
 ∃ (k_1 : Nat),
 ∃ (h : Heap),
 appendH Tryz.Y h_1 23 23 (V.sl a l c k)
 (V.ts
 (List.take ((n0 - x5.toNat) * (1 : Nat))
 (List.drop (x5.toNat * (1 : Nat)) cs0))
 (n0 - x5.toNat) none) =
 some (V.sl a_1 l_1 c_1 k_1, h) ∧
 K Out.ret 48 [V.sl a_1 l_1 c_1 k_1] h) ∨
 appendH Tryz.Y h 23 23 (V.ts [] 0 (some 0))
 (V.ts [V.i IntKind.i64 x1] 1 (some 1)) =
 some (V.ts [] 0 (some 0), h) ∧
 ((0 : Int) ≤ x5 ∧ x5 ≤ (↑n0 : Int)) ∧
 ((∃ (a : Option (Nat × Nat)),
 ∃ (l : Nat),
 ∃ (c : Option Nat),
 ∃ (k : Nat),
 ∃ (h_1 : Heap),
 appendH Tryz.Y h 23 23 (V.ts [] 0 (some 0))
 (V.ts
 (List.take ((n0 - x5.toNat) * (1 : Nat))
 (List.drop (x5.toNat * (1 : Nat)) cs0))
 (n0 - x5.toNat) none) =
 some (V.sl a l c k, h_1) ∧
 K Out.ret 48 [V.sl a l c k] h_1) ∨
 appendH Tryz.Y h 23 23 (V.ts [] 0 (some 0))
 (V.ts (List.take ((n0 - x5.toNat) * (1 : Nat)) (List.drop (x5.toNat * (1 : Nat)) cs0))
 (n0 - x5.toNat) none) =
 some (V.ts [] 0 (some 0), h) ∧
 K Out.ret 48 [V.ts [] 0 (some 0)] h)))))
  (((0 : Int) ≤ x5 ∧ x5 ≤ (↑n0 : Int)) ∧
 ((∃ (a : Option (Nat × Nat)),
 ∃ (l : Nat),
 ∃ (c : Option Nat),
 ∃ (k : Nat),
 ∃ (h_1 : Heap),
 appendH Tryz.Y h 23 23 (V.ts [] 0 (some 0))
 (V.ts (List.take ((x5.toNat - (0 : Nat)) * (1 : Nat)) (List.drop ((0 : Nat) * (1 : Nat)) cs0))
 (x5.toNat - (0 : Nat)) none) =
 some (V.sl a l c k, h_1) ∧
 ∃ (a_1 : Option (Nat × Nat)),
 ∃ (l_1 : Nat),
 ∃ (c_1 : Option Nat),
 ∃ (k_1 : Nat),
 ∃ (h : Heap),
 appendH Tryz.Y h_1 23 23 (V.sl a l c k)
 (V.ts [V.i IntKind.i64 x1] 1 (some 1)) =
 some (V.sl a_1 l_1 c_1 k_1, h) ∧
 ((0 : Int) ≤ x5 ∧ x5 ≤ (↑n0 : Int)) ∧
 ∃ (a : Option (Nat × Nat)),
 ∃ (l : Nat),
 ∃ (c : Option Nat),
 ∃ (k : Nat),
 ∃ (h_2 : Heap),
 appendH Tryz.Y h 23 23 (V.sl a_1 l_1 c_1 k_1)
 (V.ts
 (List.take ((n0 - x5.toNat) * (1 : Nat))
 (List.drop (x5.toNat * (1 : Nat)) cs0))
 (n0 - x5.toNat) none) =
 some (V.sl a l c k, h_2) ∧
 K Out.ret 48 [V.sl a l c k] h_2) ∨
 appendH Tryz.Y h 23 23 (V.ts [] 0 (some 0))
 (V.ts (List.take ((x5.toNat - (0 : Nat)) * (1 : Nat)) (List.drop ((0 : Nat) * (1 : Nat)) cs0))
 (x5.toNat - (0 : Nat)) none) =
 some (V.ts [] 0 (some 0), h) ∧
 ((∃ (a : Option (Nat × Nat)),
 ∃ (l : Nat),
 ∃ (c : Option Nat),
 ∃ (k : Nat),
 ∃ (h_1 : Heap),
 appendH Tryz.Y h 23 23 (V.ts [] 0 (some 0))
 (V.ts [V.i IntKind.i64 x1] 1 (some 1)) =
 some (V.sl a l c k, h_1) ∧
 ((0 : Int) ≤ x5 ∧ x5 ≤ (↑n0 : Int)) ∧
 ∃ (a_1 : Option (Nat × Nat)),
 ∃ (l_1 : Nat),
 ∃ (c_1 : Option Nat),
 ∃ (k_1 : Nat),
 ∃ (h : Heap),
 appendH Tryz.Y h_1 23 23 (V.sl a l c k)
 (V.ts
 (List.take ((n0 - x5.toNat) * (1 : Nat))
 (List.drop (x5.toNat * (1 : Nat)) cs0))
 (n0 - x5.toNat) none) =
 some (V.sl a_1 l_1 c_1 k_1, h) ∧
 K Out.ret 48 [V.sl a_1 l_1 c_1 k_1] h) ∨
 appendH Tryz.Y h 23 23 (V.ts [] 0 (some 0))
 (V.ts [V.i IntKind.i64 x1] 1 (some 1)) =
 some (V.ts [] 0 (some 0), h) ∧
 ((0 : Int) ≤ x5 ∧ x5 ≤ (↑n0 : Int)) ∧
 ((∃ (a : Option (Nat × Nat)),
 ∃ (l : Nat),
 ∃ (c : Option Nat),
 ∃ (k : Nat),
 ∃ (h_1 : Heap),
 appendH Tryz.Y h 23 23 (V.ts [] 0 (some 0))
 (V.ts (List.take ((n0 - x5.toNat) * (1 : Nat)) (List.drop (x5.toNat * (1 : Nat)) cs0))
 (n0 - x5.toNat) none) =
 some (V.sl a l c k, h_1) ∧
 K Out.ret 48 [V.sl a l c k] h_1) ∨
 appendH Tryz.Y h 23 23 (V.ts [] 0 (some 0))
 (V.ts (List.take ((n0 - x5.toNat) * (1 : Nat)) (List.drop (x5.toNat * (1 : Nat)) cs0))
 (n0 - x5.toNat) none) =
 some (V.ts [] 0 (some 0), h) ∧
 K Out.ret 48 [V.ts [] 0 (some 0)] h))))) := by kernel_rfl
end Go.Y
