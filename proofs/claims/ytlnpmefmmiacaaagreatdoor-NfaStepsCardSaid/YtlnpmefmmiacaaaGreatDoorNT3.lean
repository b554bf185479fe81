/- What the pieces of functions come to: printed by program. -/
import Derived.Test.YtlnpmefmmiacaaaGreatDoorYTryzP
import Derived.Test.YtlnpmefmmiacaaaGreatDoorYFun
namespace Go.Y
open Go.Proofs
set_option maxRecDepth 100000
set_option maxHeartbeats 0
theorem f3_0 (cs0Sets : List V) (n0Sets : Nat) (cs0First : List V) (n0First : Nat) (cs0Last : List V) (n0Last : Nat) (cs0Follow : List V) (n0Follow : Nat) (b0Empty : Bool) (cs1 : List V) (n1 : Nat) (s2 : List UInt8) (h : Heap) (K : Out → Nat → List V → Heap → Prop) : (codeP Tryz.Y (Tryz.Y.loc 3) 100 ((flat (bodyOf Tryz.f3))) ⟨(V.agg [V.ts cs0Sets n0Sets none, V.ts cs0First n0First none, V.ts cs0Last n0Last none, V.ts cs0Follow n0Follow none, V.b b0Empty] :: V.ts cs1 n1 none :: V.s s2 :: List.replicate 94 .undef), [], h⟩ (VQ [6] K)) =
  (∃ (b : Bool),
  (PCon Tryz.Y (4 : Nat) [] fun (v : V) => v = V.b b) ∧
 If (!b) (K Out.ret 97 [V.b false] h)
 (∃ (b : Bool),
 (PCon Tryz.Y (5 : Nat)
 [V.agg
 [V.ts cs0Sets n0Sets none, V.ts cs0First n0First none, V.ts cs0Last n0Last none,
 V.ts cs0Follow n0Follow none, V.b b0Empty]]
 fun (v : V) => v = V.b b) ∧
 If (!b) (K Out.ret 97 [V.b true] h)
 (If (ltI (20 : Int) (↑n1 : Int)) (K Out.ret 97 [V.b true] h)
 (If (ltI (20 : Int) (↑s2.length : Int)) (K Out.ret 97 [V.b true] h)
 (∃ (b : Bool),
 (PCon Tryz.Y (6 : Nat)
 [V.agg
 [V.ts cs0Sets n0Sets none, V.ts cs0First n0First none, V.ts cs0Last n0Last none,
 V.ts cs0Follow n0Follow none, V.b b0Empty]]
 fun (v : V) => v = V.b b) ∧
 ∃ (b_1 : Bool),
 (PCon Tryz.Y (7 : Nat)
 [V.agg
 [V.ts cs0Sets n0Sets none, V.ts cs0First n0First none, V.ts cs0Last n0Last none,
 V.ts cs0Follow n0Follow none, V.b b0Empty]]
 fun (v : V) => v = V.b b_1) ∧
 If (!b_1 == b) (K Out.ret 97 [V.b false] h)
 (If (!s2 == #[].toList)
 (∃ (c : UInt8),
 ((0 : Int) ≤ (0 : Int) ∧ s2[Int.toNat (0 : Int)]? = some c) ∧
 If (!b)
 (∃ (b : Bool),
 (PCon Tryz.Y (8 : Nat)
 [V.agg
 [V.ts cs0Sets n0Sets none, V.ts cs0First n0First none,
 V.ts cs0Last n0Last none, V.ts cs0Follow n0Follow none, V.b b0Empty],
 V.s s2]
 fun (v : V) => v = V.b b) ∧
 If (!b)
 (∃ (cs : List V),
 ∃ (l : Nat),
 ∃ (c_1 : Option Nat),
 (PCon Tryz.Y (9 : Nat)
 [V.agg
 [V.ts cs0Sets n0Sets none, V.ts cs0First n0First none,
 V.ts cs0Last n0Last none, V.ts cs0Follow n0Follow none,
 V.b b0Empty],
 V.i IntKind.u8 (↑c.toNat : Int)]
 fun (v : V) => v = V.ts cs l c_1) ∧
 ∃ (cs : List V),
 ∃ (l_1 : Nat),
 ∃ (c_2 : Option Nat),
 (PCon Tryz.Y (10 : Nat)
 [V.agg
 [V.ts cs0Sets n0Sets none, V.ts cs0First n0First none,
 V.ts cs0Last n0Last none, V.ts cs0Follow n0Follow none,
 V.b b0Empty],
 V.ts cs1 n1 none, V.i IntKind.u8 (↑c.toNat : Int)]
 fun (v : V) => v = V.ts cs l_1 c_2) ∧
 If (IntKind.i64.wrap ((↑l : Int) + (↑l_1 : Int)) == (0 : Int))
 (∃ (b : Bool),
 (PCon Tryz.Y (11 : Nat)
 [V.agg
 [V.ts cs0Sets n0Sets none,
 V.ts cs0First n0First none,
 V.ts cs0Last n0Last none,
 V.ts cs0Follow n0Follow none, V.b b0Empty],
 V.ts cs1 n1 none]
 fun (v : V) => v = V.b b) ∧
 K Out.ret 97 [V.b !b] h)
 (K Out.ret 97 [V.b false] h))
 (K Out.ret 97 [V.b false] h))
 (∃ (b : Bool),
 (PCon Tryz.Y (8 : Nat)
 [V.agg
 [V.ts cs0Sets n0Sets none, V.ts cs0First n0First none,
 V.ts cs0Last n0Last none, V.ts cs0Follow n0Follow none, V.b b0Empty],
 V.s s2]
 fun (v : V) => v = V.b b) ∧
 ∃ (b_2 : Bool),
 (PCon Tryz.Y (12 : Nat)
 [V.agg
 [V.ts cs0Sets n0Sets none, V.ts cs0First n0First none,
 V.ts cs0Last n0Last none, V.ts cs0Follow n0Follow none, V.b b0Empty],
 V.s s2]
 fun (v : V) => v = V.b b_2) ∧
 If (b == b_2)
 (∃ (cs : List V),
 ∃ (l : Nat),
 ∃ (c_1 : Option Nat),
 (PCon Tryz.Y (9 : Nat)
 [V.agg
 [V.ts cs0Sets n0Sets none, V.ts cs0First n0First none,
 V.ts cs0Last n0Last none, V.ts cs0Follow n0Follow none,
 V.b b0Empty],
 V.i IntKind.u8 (↑c.toNat : Int)]
 fun (v : V) => v = V.ts cs l c_1) ∧
 ∃ (cs_1 : List V),
 ∃ (l_1 : Nat),
 ∃ (c_2 : Option Nat),
 (PCon Tryz.Y (14 : Nat)
 [V.agg
 [V.ts cs0Sets n0Sets none, V.ts cs0First n0First none,
 V.ts cs0Last n0Last none,
 V.ts cs0Follow n0Follow none, V.b b0Empty],
 V.ts cs0First n0First none,
 V.i IntKind.u8 (↑c.toNat : Int)]
 fun (v : V) => v = V.ts cs_1 l_1 c_2) ∧
 ∃ (b : Bool),
 (PCon Tryz.Y (13 : Nat) [V.ts cs l c_1, V.ts cs_1 l_1 c_2]
 fun (v : V) => v = V.b b) ∧
 If b
 (∃ (cs : List V),
 ∃ (l : Nat),
 ∃ (c_3 : Option Nat),
 (PCon Tryz.Y (10 : Nat)
 [V.agg
 [V.ts cs0Sets n0Sets none,
 V.ts cs0First n0First none,
 V.ts cs0Last n0Last none,
 V.ts cs0Follow n0Follow none,
 V.b b0Empty],
 V.ts cs1 n1 none,
 V.i IntKind.u8 (↑c.toNat : Int)]
 fun (v : V) => v = V.ts cs l c_3) ∧
 ∃ (cs_2 : List V),
 ∃ (l_2 : Nat),
 ∃ (c_4 : Option Nat),
 (PCon Tryz.Y (15 : Nat)
 [V.agg
 [V.ts cs0Sets n0Sets none,
 V.ts cs0First n0First none,
 V.ts cs0Last n0Last none,
 V.ts cs0Follow n0Follow none,
 V.b b0Empty],
 V.ts cs1 n1 none,
 V.i IntKind.u8 (↑c.toNat : Int)]
 fun (v : V) =>
 v = V.ts cs_2 l_2 c_4) ∧
 ∃ (b : Bool),
 (PCon Tryz.Y (13 : Nat)
 [V.ts cs l c_3,
 V.ts cs_2 l_2 c_4]
 fun (v : V) => v = V.b b) ∧
 If b
 (∃ (b : Bool),
 (PCon Tryz.Y (11 : Nat)
 [V.agg
 [V.ts cs0Sets n0Sets
 none,
 V.ts cs0First
 n0First none,
 V.ts cs0Last n0Last
 none,
 V.ts cs0Follow
 n0Follow none,
 V.b b0Empty],
 V.ts cs1 n1 none]
 fun (v : V) =>
 v = V.b b) ∧
 ∃ (b_3 : Bool),
 (PCon Tryz.Y (16 : Nat)
 [V.agg
 [V.ts cs0Sets
 n0Sets none,
 V.ts cs0First
 n0First none,
 V.ts cs0Last
 n0Last none,
 V.ts cs0Follow
 n0Follow none,
 V.b b0Empty],
 V.ts cs1 n1 none]
 fun (v : V) =>
 v = V.b b_3) ∧
 K Out.ret 97
 [V.b (b == b_3)] h)
 (K Out.ret 97
 [V.b false] h))
 (K Out.ret 97 [V.b false] h))
 (K Out.ret 97 [V.b false] h)))
 (If (!b)
 (∃ (b : Bool),
 (PCon Tryz.Y (8 : Nat)
 [V.agg
 [V.ts cs0Sets n0Sets none, V.ts cs0First n0First none, V.ts cs0Last n0Last none,
 V.ts cs0Follow n0Follow none, V.b b0Empty],
 V.s s2]
 fun (v : V) => v = V.b b) ∧
 If (!b)
 (∃ (cs : List V),
 ∃ (l : Nat),
 ∃ (c : Option Nat),
 (PCon Tryz.Y (9 : Nat)
 [V.agg
 [V.ts cs0Sets n0Sets none, V.ts cs0First n0First none,
 V.ts cs0Last n0Last none, V.ts cs0Follow n0Follow none,
 V.b b0Empty],
 V.i IntKind.u8 (97 : Int)]
 fun (v : V) => v = V.ts cs l c) ∧
 ∃ (cs : List V),
 ∃ (l_1 : Nat),
 ∃ (c : Option Nat),
 (PCon Tryz.Y (10 : Nat)
 [V.agg
 [V.ts cs0Sets n0Sets none, V.ts cs0First n0First none,
 V.ts cs0Last n0Last none, V.ts cs0Follow n0Follow none,
 V.b b0Empty],
 V.ts cs1 n1 none, V.i IntKind.u8 (97 : Int)]
 fun (v : V) => v = V.ts cs l_1 c) ∧
 If (IntKind.i64.wrap ((↑l : Int) + (↑l_1 : Int)) == (0 : Int))
 (∃ (b : Bool),
 (PCon Tryz.Y (11 : Nat)
 [V.agg
 [V.ts cs0Sets n0Sets none, V.ts cs0First n0First none,
 V.ts cs0Last n0Last none,
 V.ts cs0Follow n0Follow none, V.b b0Empty],
 V.ts cs1 n1 none]
 fun (v : V) => v = V.b b) ∧
 K Out.ret 97 [V.b !b] h)
 (K Out.ret 97 [V.b false] h))
 (K Out.ret 97 [V.b false] h))
 (∃ (b : Bool),
 (PCon Tryz.Y (8 : Nat)
 [V.agg
 [V.ts cs0Sets n0Sets none, V.ts cs0First n0First none, V.ts cs0Last n0Last none,
 V.ts cs0Follow n0Follow none, V.b b0Empty],
 V.s s2]
 fun (v : V) => v = V.b b) ∧
 ∃ (b_2 : Bool),
 (PCon Tryz.Y (12 : Nat)
 [V.agg
 [V.ts cs0Sets n0Sets none, V.ts cs0First n0First none,
 V.ts cs0Last n0Last none, V.ts cs0Follow n0Follow none, V.b b0Empty],
 V.s s2]
 fun (v : V) => v = V.b b_2) ∧
 If (b == b_2)
 (∃ (cs : List V),
 ∃ (l : Nat),
 ∃ (c : Option Nat),
 (PCon Tryz.Y (9 : Nat)
 [V.agg
 [V.ts cs0Sets n0Sets none, V.ts cs0First n0First none,
 V.ts cs0Last n0Last none, V.ts cs0Follow n0Follow none,
 V.b b0Empty],
 V.i IntKind.u8 (97 : Int)]
 fun (v : V) => v = V.ts cs l c) ∧
 ∃ (cs_1 : List V),
 ∃ (l_1 : Nat),
 ∃ (c_1 : Option Nat),
 (PCon Tryz.Y (14 : Nat)
 [V.agg
 [V.ts cs0Sets n0Sets none, V.ts cs0First n0First none,
 V.ts cs0Last n0Last none, V.ts cs0Follow n0Follow none,
 V.b b0Empty],
 V.ts cs0First n0First none, V.i IntKind.u8 (97 : Int)]
 fun (v : V) => v = V.ts cs_1 l_1 c_1) ∧
 ∃ (b : Bool),
 (PCon Tryz.Y (13 : Nat) [V.ts cs l c, V.ts cs_1 l_1 c_1]
 fun (v : V) => v = V.b b) ∧
 If b
 (∃ (cs : List V),
 ∃ (l : Nat),
 ∃ (c : Option Nat),
 (PCon Tryz.Y (10 : Nat)
 [V.agg
 [V.ts cs0Sets n0Sets none,
 V.ts cs0First n0First none,
 V.ts cs0Last n0Last none,
 V.ts cs0Follow n0Follow none,
 V.b b0Empty],
 V.ts cs1 n1 none, V.i IntKind.u8 (97 : Int)]
 fun (v : V) => v = V.ts cs l c) ∧
 ∃ (cs_2 : List V),
 ∃ (l_2 : Nat),
 ∃ (c_2 : Option Nat),
 (PCon Tryz.Y (15 : Nat)
 [V.agg
 [V.ts cs0Sets n0Sets none,
 V.ts cs0First n0First none,
 V.ts cs0Last n0Last none,
 V.ts cs0Follow n0Follow none,
 V.b b0Empty],
 V.ts cs1 n1 none,
 V.i IntKind.u8 (97 : Int)]
 fun (v : V) => v = V.ts cs_2 l_2 c_2) ∧
 ∃ (b : Bool),
 (PCon Tryz.Y (13 : Nat)
 [V.ts cs l c, V.ts cs_2 l_2 c_2]
 fun (v : V) => v = V.b b) ∧
 If b
 (∃ (b : Bool),
 (PCon Tryz.Y (11 : Nat)
 [V.agg
 [V.ts cs0Sets n0Sets none,
 V.ts cs0First n0First
 none,
 V.ts cs0Last n0Last
 none,
 V.ts cs0Follow n0Follow
 none,
 V.b b0Empty],
 V.ts cs1 n1 none]
 fun (v : V) => v = V.b b) ∧
 ∃ (b_3 : Bool),
 (PCon Tryz.Y (16 : Nat)
 [V.agg
 [V.ts cs0Sets n0Sets
 none,
 V.ts cs0First
 n0First none,
 V.ts cs0Last n0Last
 none,
 V.ts cs0Follow
 n0Follow none,
 V.b b0Empty],
 V.ts cs1 n1 none]
 fun (v : V) =>
 v = V.b b_3) ∧
 K Out.ret 97
 [V.b (b == b_3)] h)
 (K Out.ret 97 [V.b false]
 h))
 (K Out.ret 97 [V.b false] h))
 (K Out.ret 97 [V.b false] h))))))))) := by kernel_rfl
theorem f21_0 (cs0 : List V) (n0 : Nat) (id1 : Nat) (h : Heap) (K : Out → Nat → List V → Heap → Prop) : (codeP Tryz.Y (Tryz.Y.loc 21) 100 ((flat (bodyOf Tryz.f21))) ⟨(V.ts cs0 n0 none :: V.fn (Fn.func 22) [] [V.p (some (id1, 0))] :: List.replicate 7 .undef), [], h⟩ (VQ [4] K)) =
  (Con Tryz.Y (35 : Nat) [V.ts cs0 n0 none, V.fn (Fn.func 22) [] [V.p (some (id1, 0))]] h
  fun (v : V) (h' : Heap) => ∃ (n : Int), v = V.i IntKind.i64 n ∧ K Out.ret 9 [V.b (leI (0 : Int) n)] h') := by kernel_rfl
theorem f22_0 (cs0 : List V) (n0 : Nat) (id1 : Nat) (h : Heap) (K : Out → Nat → List V → Heap → Prop) : (codeP Tryz.Y (Tryz.Y.loc 22) 100 ((flat (bodyOf Tryz.f22))) ⟨(V.ts cs0 n0 none :: V.p (some (id1, 0)) :: List.replicate 6 .undef), [], h⟩ (VQ [3] K)) =
  (∃ (n : Int),
  hcells h id1 0 1 = some [V.i IntKind.i64 n] ∧
 ∃ (b : Bool),
 (PCon Tryz.Y (20 : Nat) [V.ts cs0 n0 none, V.i IntKind.i64 n] fun (v : V) => v = V.b b) ∧
 K Out.ret 8 [V.b !b] h) := by kernel_rfl
theorem f35_0 (cs0 : List V) (n0 : Nat) (id1 : Nat) (h : Heap) (K : Out → Nat → List V → Heap → Prop) : (codeP Tryz.Y (Tryz.Y.loc 35) 100 (pre (flat (bodyOf Tryz.f35))) ⟨(V.ts cs0 n0 none :: V.fn (Fn.func 22) [] [V.p (some (id1, 0))] :: List.replicate 17 .undef), [], h⟩ (VQ [0, 1, 7, 8] K)) =
  (K Out.normal 19
  [V.ts cs0 n0 none, V.fn (Fn.func 22) [] [V.p (some (id1, 0))], V.i IntKind.i64 (↑n0 : Int),
 V.i IntKind.i64 (0 : Int)]
  h) := by kernel_rfl
theorem f35_1 (cs0 : List V) (n0 : Nat) (id1 : Nat) (x8 : Int) (h : Heap) (K : Out → Nat → List V → Heap → Prop) : (codeP Tryz.Y (Tryz.Y.loc 35) 100 ((flat (loopB (post (flat (bodyOf Tryz.f35)))))) ⟨mk 19 (([0, 1, 7, 8] : List Nat).zip [V.ts cs0 n0 none, V.fn (Fn.func 22) [] [V.p (some (id1, 0))], V.i IntKind.i64 (↑n0 : Int), V.i IntKind.i64 x8]), [], h⟩ (VQ [0, 1, 4, 7, 8] K)) =
  (If (ltI x8 (↑n0 : Int))
  (((0 : Int) ≤ x8 ∧ x8 < (↑n0 : Int)) ∧
 ∃ (cs : List V),
 ∃ (l : Nat),
 ∃ (c : Option Nat),
 takeX 1 (List.drop (x8.toNat * (1 : Nat)) cs0) = some [V.ts cs l c] ∧
 ∃ (b : Bool),
 RCon Tryz.Y 22 [V.ts cs l c, V.p (some (id1, 0))] h (V.b b) ∧
 If b
 (K Out.ret 19
 [V.ts cs0 n0 none, V.fn (Fn.func 22) [] [V.p (some (id1, 0))],
 V.i IntKind.i64 x8, V.i IntKind.i64 (↑n0 : Int), V.i IntKind.i64 x8]
 h)
 (K Out.normal 19
 [V.ts cs0 n0 none, V.fn (Fn.func 22) [] [V.p (some (id1, 0))], V.undef,
 V.i IntKind.i64 (↑n0 : Int), V.i IntKind.i64 (IntKind.i64.wrap (x8 + (1 : Int)))]
 h))
  (K (Out.exit 0) 19
 [V.ts cs0 n0 none, V.fn (Fn.func 22) [] [V.p (some (id1, 0))], V.undef,
 V.i IntKind.i64 (↑n0 : Int), V.i IntKind.i64 x8]
 h)) := by kernel_rfl
theorem f35_2  (h : Heap) (K : Out → Nat → List V → Heap → Prop) : (codeP Tryz.Y (Tryz.Y.loc 35) 100 (((post (flat (bodyOf Tryz.f35))).drop 1)) ⟨mk 19 (([] : List Nat).zip []), [], h⟩ (VQ [4] K)) =
  (K Out.ret 19 [V.i IntKind.i64 (-1 : Int)] h) := by kernel_rfl
theorem f38_0 (cs0 : List V) (n0 : Nat) (id1 : Nat) (h : Heap) (K : Out → Nat → List V → Heap → Prop) : (codeP Tryz.Y (Tryz.Y.loc 38) 100 ((flat (bodyOf Tryz.f38))) ⟨(V.ts cs0 n0 none :: V.fn (Fn.func 39) [] [V.p (some (id1, 0))] :: List.replicate 7 .undef), [], h⟩ (VQ [4] K)) =
  (Con Tryz.Y (52 : Nat) [V.ts cs0 n0 none, V.fn (Fn.func 39) [] [V.p (some (id1, 0))]] h
  fun (v : V) (h' : Heap) => ∃ (n : Int), v = V.i IntKind.i64 n ∧ K Out.ret 9 [V.b (leI (0 : Int) n)] h') := by kernel_rfl
theorem f39_0 (x0 : Int) (id1 : Nat) (h : Heap) (K : Out → Nat → List V → Heap → Prop) : (codeP Tryz.Y (Tryz.Y.loc 39) 100 ((flat (bodyOf Tryz.f39))) ⟨(V.i IntKind.i64 x0 :: V.p (some (id1, 0)) :: List.replicate 6 .undef), [], h⟩ (VQ [3] K)) =
  (∃ (cs : List V),
  ∃ (l : Nat),
 ∃ (c : Option Nat),
 hcells h id1 2 1 = some [V.ts cs l c] ∧
 ∃ (b : Bool),
 (PCon Tryz.Y (40 : Nat) [V.ts cs l c, V.i IntKind.i64 x0] fun (v : V) => v = V.b b) ∧
 K Out.ret 8 [V.b b] h) := by kernel_rfl
theorem f40_0 (cs0 : List V) (n0 : Nat) (x1 : Int) (h : Heap) (K : Out → Nat → List V → Heap → Prop) : (codeP Tryz.Y (Tryz.Y.loc 40) 100 ((flat (bodyOf Tryz.f40))) ⟨(V.ts cs0 n0 none :: V.i IntKind.i64 x1 :: List.replicate 7 .undef), [], h⟩ (VQ [4] K)) =
  (∃ (n : Int),
  (PCon Tryz.Y (53 : Nat) [V.ts cs0 n0 none, V.i IntKind.i64 x1] fun (v : V) => v = V.i IntKind.i64 n) ∧
 K Out.ret 9 [V.b (leI (0 : Int) n)] h) := by kernel_rfl
theorem f52_0 (cs0 : List V) (n0 : Nat) (id1 : Nat) (h : Heap) (K : Out → Nat → List V → Heap → Prop) : (codeP Tryz.Y (Tryz.Y.loc 52) 100 (pre (flat (bodyOf Tryz.f52))) ⟨(V.ts cs0 n0 none :: V.fn (Fn.func 39) [] [V.p (some (id1, 0))] :: List.replicate 17 .undef), [], h⟩ (VQ [0, 1, 7, 8] K)) =
  (K Out.normal 19
  [V.ts cs0 n0 none, V.fn (Fn.func 39) [] [V.p (some (id1, 0))], V.i IntKind.i64 (↑n0 : Int),
 V.i IntKind.i64 (0 : Int)]
  h) := by kernel_rfl
theorem f52_1 (cs0 : List V) (n0 : Nat) (id1 : Nat) (x8 : Int) (h : Heap) (K : Out → Nat → List V → Heap → Prop) : (codeP Tryz.Y (Tryz.Y.loc 52) 100 ((flat (loopB (post (flat (bodyOf Tryz.f52)))))) ⟨mk 19 (([0, 1, 7, 8] : List Nat).zip [V.ts cs0 n0 none, V.fn (Fn.func 39) [] [V.p (some (id1, 0))], V.i IntKind.i64 (↑n0 : Int), V.i IntKind.i64 x8]), [], h⟩ (VQ [0, 1, 4, 7, 8] K)) =
  (If (ltI x8 (↑n0 : Int))
  (((0 : Int) ≤ x8 ∧ x8 < (↑n0 : Int)) ∧
 ∃ (n : Int),
 takeX 1 (List.drop (x8.toNat * (1 : Nat)) cs0) = some [V.i IntKind.i64 n] ∧
 ∃ (b : Bool),
 RCon Tryz.Y 39 [V.i IntKind.i64 n, V.p (some (id1, 0))] h (V.b b) ∧
 If b
 (K Out.ret 19
 [V.ts cs0 n0 none, V.fn (Fn.func 39) [] [V.p (some (id1, 0))], V.i IntKind.i64 x8,
 V.i IntKind.i64 (↑n0 : Int), V.i IntKind.i64 x8]
 h)
 (K Out.normal 19
 [V.ts cs0 n0 none, V.fn (Fn.func 39) [] [V.p (some (id1, 0))], V.undef,
 V.i IntKind.i64 (↑n0 : Int), V.i IntKind.i64 (IntKind.i64.wrap (x8 + (1 : Int)))]
 h))
  (K (Out.exit 0) 19
 [V.ts cs0 n0 none, V.fn (Fn.func 39) [] [V.p (some (id1, 0))], V.undef,
 V.i IntKind.i64 (↑n0 : Int), V.i IntKind.i64 x8]
 h)) := by kernel_rfl
theorem f52_2  (h : Heap) (K : Out → Nat → List V → Heap → Prop) : (codeP Tryz.Y (Tryz.Y.loc 52) 100 (((post (flat (bodyOf Tryz.f52))).drop 1)) ⟨mk 19 (([] : List Nat).zip []), [], h⟩ (VQ [4] K)) =
  (K Out.ret 19 [V.i IntKind.i64 (-1 : Int)] h) := by kernel_rfl
theorem f53_0 (cs0 : List V) (n0 : Nat) (x1 : Int) (h : Heap) (K : Out → Nat → List V → Heap → Prop) : (codeP Tryz.Y (Tryz.Y.loc 53) 100 (pre (flat (bodyOf Tryz.f53))) ⟨(V.ts cs0 n0 none :: V.i IntKind.i64 x1 :: List.replicate 17 .undef), [], h⟩ (VQ [0, 1, 7, 8] K)) =
  (K Out.normal 19 [V.ts cs0 n0 none, V.i IntKind.i64 x1, V.i IntKind.i64 (↑n0 : Int), V.i IntKind.i64 (0 : Int)]
  h) := by kernel_rfl
theorem f53_1 (cs0 : List V) (n0 : Nat) (x1 : Int) (x8 : Int) (h : Heap) (K : Out → Nat → List V → Heap → Prop) : (codeP Tryz.Y (Tryz.Y.loc 53) 100 ((flat (loopB (post (flat (bodyOf Tryz.f53)))))) ⟨mk 19 (([0, 1, 7, 8] : List Nat).zip [V.ts cs0 n0 none, V.i IntKind.i64 x1, V.i IntKind.i64 (↑n0 : Int), V.i IntKind.i64 x8]), [], h⟩ (VQ [0, 1, 4, 7, 8] K)) =
  (If (ltI x8 (↑n0 : Int))
  (((0 : Int) ≤ x8 ∧ x8 < (↑n0 : Int)) ∧
 ∃ (n : Int),
 takeX 1 (List.drop (x8.toNat * (1 : Nat)) cs0) = some [V.i IntKind.i64 n] ∧
 If (x1 == n)
 (K Out.ret 19
 [V.ts cs0 n0 none, V.i IntKind.i64 x1, V.i IntKind.i64 x8, V.i IntKind.i64 (↑n0 : Int), V.i IntKind.i64 x8]
 h)
 (K Out.normal 19
 [V.ts cs0 n0 none, V.i IntKind.i64 x1, V.undef, V.i IntKind.i64 (↑n0 : Int),
 V.i IntKind.i64 (IntKind.i64.wrap (x8 + (1 : Int)))]
 h))
  (K (Out.exit 0) 19
 [V.ts cs0 n0 none, V.i IntKind.i64 x1, V.undef, V.i IntKind.i64 (↑n0 : Int), V.i IntKind.i64 x8] h)) := by kernel_rfl
theorem f53_2  (h : Heap) (K : Out → Nat → List V → Heap → Prop) : (codeP Tryz.Y (Tryz.Y.loc 53) 100 (((post (flat (bodyOf Tryz.f53))).drop 1)) ⟨mk 19 (([] : List Nat).zip []), [], h⟩ (VQ [4] K)) =
  (K Out.ret 19 [V.i IntKind.i64 (-1 : Int)] h) := by kernel_rfl
end Go.Y
