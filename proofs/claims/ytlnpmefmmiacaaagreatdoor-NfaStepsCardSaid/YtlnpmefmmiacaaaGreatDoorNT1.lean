/- What the pieces of functions come to: printed by program. -/
import Derived.Test.YtlnpmefmmiacaaaGreatDoorYTryzP
import Derived.Test.YtlnpmefmmiacaaaGreatDoorYFun
namespace Go.Y
open Go.Proofs
set_option maxRecDepth 100000
set_option maxHeartbeats 0
theorem f5_0 (cs0Sets : List V) (n0Sets : Nat) (cs0First : List V) (n0First : Nat) (cs0Last : List V) (n0Last : Nat) (cs0Follow : List V) (n0Follow : Nat) (b0Empty : Bool) (h : Heap) (K : Out → Nat → List V → Heap → Prop) : (codeP Tryz.Y (Tryz.Y.loc 5) 100 (pre (flat (bodyOf Tryz.f5))) ⟨(V.agg [V.ts cs0Sets n0Sets none, V.ts cs0First n0First none, V.ts cs0Last n0Last none, V.ts cs0Follow n0Follow none, V.b b0Empty] :: List.replicate 37 .undef), [], h⟩ (VQ [2, 28, 29, 30] K)) =
  (If (ltI (40 : Int) (↑n0Sets : Int)) (K Out.ret 38 [V.b false, V.undef, V.undef, V.undef] h)
  (If (ltI (40 : Int) (↑n0First : Int)) (K Out.ret 38 [V.b false, V.undef, V.undef, V.undef] h)
 (If (ltI (40 : Int) (↑n0Last : Int)) (K Out.ret 38 [V.b false, V.undef, V.undef, V.undef] h)
 (If (ltI (40 : Int) (↑n0Follow : Int)) (K Out.ret 38 [V.b false, V.undef, V.undef, V.undef] h)
 (K Out.normal 38
 [V.b false, V.ts cs0Follow n0Follow none, V.i IntKind.i64 (↑n0Follow : Int), V.i IntKind.i64 (0 : Int)] h))))) := by kernel_rfl
theorem f5_1 (cs0Follow : List V) (n0Follow : Nat) (x30 : Int) (h : Heap) (K : Out → Nat → List V → Heap → Prop) : (codeP Tryz.Y (Tryz.Y.loc 5) 100 ((flat (loopB (post (flat (bodyOf Tryz.f5)))))) ⟨mk 38 (([28, 29, 30] : List Nat).zip [V.ts cs0Follow n0Follow none, V.i IntKind.i64 (↑n0Follow : Int), V.i IntKind.i64 x30]), [], h⟩ (VQ [2, 28, 29, 30] K)) =
  (If (ltI x30 (↑n0Follow : Int))
  (((0 : Int) ≤ x30 ∧ x30 < (↑n0Follow : Int)) ∧
 ∃ (cs : List V),
 ∃ (l : Nat),
 ∃ (c : Option Nat),
 takeX 1 (List.drop (x30.toNat * (1 : Nat)) cs0Follow) = some [V.ts cs l c] ∧
 If (ltI (40 : Int) (↑l : Int))
 (K Out.ret 38
 [V.b false, V.ts cs0Follow n0Follow none, V.i IntKind.i64 (↑n0Follow : Int), V.i IntKind.i64 x30] h)
 (K Out.normal 38
 [V.undef, V.ts cs0Follow n0Follow none, V.i IntKind.i64 (↑n0Follow : Int),
 V.i IntKind.i64 (IntKind.i64.wrap (x30 + (1 : Int)))]
 h))
  (K (Out.exit 0) 38
 [V.undef, V.ts cs0Follow n0Follow none, V.i IntKind.i64 (↑n0Follow : Int), V.i IntKind.i64 x30] h)) := by kernel_rfl
theorem f5_2  (h : Heap) (K : Out → Nat → List V → Heap → Prop) : (codeP Tryz.Y (Tryz.Y.loc 5) 100 (((post (flat (bodyOf Tryz.f5))).drop 1)) ⟨mk 38 (([] : List Nat).zip []), [], h⟩ (VQ [2] K)) =
  (K Out.ret 38 [V.b true] h) := by kernel_rfl
theorem f6_0 (cs0Sets : List V) (n0Sets : Nat) (cs0First : List V) (n0First : Nat) (cs0Last : List V) (n0Last : Nat) (cs0Follow : List V) (n0Follow : Nat) (b0Empty : Bool) (h : Heap) (K : Out → Nat → List V → Heap → Prop) : (codeP Tryz.Y (Tryz.Y.loc 6) 100 (pre (flat (bodyOf Tryz.f6))) ⟨(V.agg [V.ts cs0Sets n0Sets none, V.ts cs0First n0First none, V.ts cs0Last n0Last none, V.ts cs0Follow n0Follow none, V.b b0Empty] :: List.replicate 43 .undef), [], h⟩ (VQ [1, 2, 3, 4] K)) =
  (If (ltI (300 : Int) (↑n0Sets : Int))
  (K Out.ret 44
 [V.lb
 [V.ts cs0Sets n0Sets none, V.ts cs0First n0First none, V.ts cs0Last n0Last none, V.ts cs0Follow n0Follow none,
 V.b b0Empty],
 V.b false, V.i IntKind.i64 (↑n0Sets : Int), V.undef]
 h)
  (If ((↑n0Follow : Int) != (↑n0Sets : Int))
 (K Out.ret 44
 [V.lb
 [V.ts cs0Sets n0Sets none, V.ts cs0First n0First none, V.ts cs0Last n0Last none, V.ts cs0Follow n0Follow none,
 V.b b0Empty],
 V.b false, V.i IntKind.i64 (↑n0Sets : Int), V.undef]
 h)
 (∃ (b : Bool),
 (PCon Tryz.Y (19 : Nat) [V.ts cs0First n0First none, V.i IntKind.i64 (↑n0Sets : Int)] fun (v : V) => v = V.b b) ∧
 If (!b)
 (K Out.ret 44
 [V.lb
 [V.ts cs0Sets n0Sets none, V.ts cs0First n0First none, V.ts cs0Last n0Last none,
 V.ts cs0Follow n0Follow none, V.b b0Empty],
 V.b false, V.i IntKind.i64 (↑n0Sets : Int), V.undef]
 h)
 (∃ (b : Bool),
 (PCon Tryz.Y (19 : Nat) [V.ts cs0Last n0Last none, V.i IntKind.i64 (↑n0Sets : Int)] fun (v : V) =>
 v = V.b b) ∧
 If (!b)
 (K Out.ret 44
 [V.lb
 [V.ts cs0Sets n0Sets none, V.ts cs0First n0First none, V.ts cs0Last n0Last none,
 V.ts cs0Follow n0Follow none, V.b b0Empty],
 V.b false, V.i IntKind.i64 (↑n0Sets : Int), V.undef]
 h)
 (K Out.normal 44
 [V.lb
 [V.ts cs0Sets n0Sets none, V.ts cs0First n0First none, V.ts cs0Last n0Last none,
 V.ts cs0Follow n0Follow none, V.b b0Empty],
 V.b false, V.i IntKind.i64 (↑n0Sets : Int), V.i IntKind.i64 (0 : Int)]
 h))))) := by kernel_rfl
theorem f6_1 (cs0Sets : List V) (n0Sets : Nat) (cs0First : List V) (n0First : Nat) (cs0Last : List V) (n0Last : Nat) (cs0Follow : List V) (n0Follow : Nat) (b1_4 : Bool) (x4 : Int) (h : Heap) (K : Out → Nat → List V → Heap → Prop) : (codeP Tryz.Y (Tryz.Y.loc 6) 100 ((flat (loopB (post (flat (bodyOf Tryz.f6)))))) ⟨mk 44 (([1, 3, 4] : List Nat).zip [V.lb [V.ts cs0Sets n0Sets none, V.ts cs0First n0First none, V.ts cs0Last n0Last none, V.ts cs0Follow n0Follow none, V.b b1_4], V.i IntKind.i64 (↑n0Sets : Int), V.i IntKind.i64 x4]), [], h⟩ (VQ [1, 2, 3, 4] K)) =
  (If (ltI x4 (↑n0Sets : Int))
  (((0 : Int) ≤ x4 ∧ x4 < (↑n0Follow : Int)) ∧
 ∃ (cs : List V),
 ∃ (l : Nat),
 ∃ (c : Option Nat),
 takeX 1 (List.drop (x4.toNat * (1 : Nat)) cs0Follow) = some [V.ts cs l c] ∧
 ∃ (b : Bool),
 (PCon Tryz.Y (19 : Nat) [V.ts cs l c, V.i IntKind.i64 (↑n0Sets : Int)] fun (v : V) => v = V.b b) ∧
 If (!b)
 (K Out.ret 44
 [V.lb
 [V.ts cs0Sets n0Sets none, V.ts cs0First n0First none, V.ts cs0Last n0Last none,
 V.ts cs0Follow n0Follow none, V.b b1_4],
 V.b false, V.i IntKind.i64 (↑n0Sets : Int), V.i IntKind.i64 x4]
 h)
 (K Out.normal 44
 [V.lb
 [V.ts cs0Sets n0Sets none, V.ts cs0First n0First none, V.ts cs0Last n0Last none,
 V.ts cs0Follow n0Follow none, V.b b1_4],
 V.undef, V.i IntKind.i64 (↑n0Sets : Int), V.i IntKind.i64 (IntKind.i64.wrap (x4 + (1 : Int)))]
 h))
  (K (Out.exit 0) 44
 [V.lb
 [V.ts cs0Sets n0Sets none, V.ts cs0First n0First none, V.ts cs0Last n0Last none, V.ts cs0Follow n0Follow none,
 V.b b1_4],
 V.undef, V.i IntKind.i64 (↑n0Sets : Int), V.i IntKind.i64 x4]
 h)) := by kernel_rfl
theorem f6_2  (h : Heap) (K : Out → Nat → List V → Heap → Prop) : (codeP Tryz.Y (Tryz.Y.loc 6) 100 (((post (flat (bodyOf Tryz.f6))).drop 1)) ⟨mk 44 (([] : List Nat).zip []), [], h⟩ (VQ [2] K)) =
  (K Out.ret 44 [V.b true] h) := by kernel_rfl
theorem f7_0 (cs0Sets : List V) (n0Sets : Nat) (cs0First : List V) (n0First : Nat) (cs0Last : List V) (n0Last : Nat) (cs0Follow : List V) (n0Follow : Nat) (b0Empty : Bool) (h : Heap) (K : Out → Nat → List V → Heap → Prop) : (codeP Tryz.Y (Tryz.Y.loc 7) 100 ((flat (bodyOf Tryz.f7))) ⟨(V.agg [V.ts cs0Sets n0Sets none, V.ts cs0First n0First none, V.ts cs0Last n0Last none, V.ts cs0Follow n0Follow none, V.b b0Empty] :: List.replicate 34 .undef), [], h⟩ (VQ [2] K)) =
  (∃ (h_1 : Heap),
  hstore (h.pushT (Tryz.Y.tag (3 : Nat)) (YObj.arr [V.i IntKind.i64 (0 : Int)] true)) h.nx 0
 [V.i IntKind.i64 (↑n0Sets : Int)] =
 some h_1 ∧
 ∃ (n : Int),
 hcells h_1 h.nx 0 1 = some [V.i IntKind.i64 n] ∧
 If (ltI (300 : Int) n) (K Out.ret 35 [V.b false] h_1)
 (∃ (n : Int),
 hcells h_1 h.nx 0 1 = some [V.i IntKind.i64 n] ∧
 If ((↑n0Follow : Int) != n) (K Out.ret 35 [V.b false] h_1)
 (∃ (n : Int),
 hcells h_1 h.nx 0 1 = some [V.i IntKind.i64 n] ∧
 ∃ (b : Bool),
 (PCon Tryz.Y (20 : Nat) [V.ts cs0First n0First none, V.i IntKind.i64 n] fun (v : V) =>
 v = V.b b) ∧
 If (!b) (K Out.ret 35 [V.b false] h_1)
 (∃ (n : Int),
 hcells h_1 h.nx 0 1 = some [V.i IntKind.i64 n] ∧
 ∃ (b : Bool),
 (PCon Tryz.Y (20 : Nat) [V.ts cs0Last n0Last none, V.i IntKind.i64 n] fun (v : V) =>
 v = V.b b) ∧
 If (!b) (K Out.ret 35 [V.b false] h_1)
 (Con Tryz.Y (21 : Nat)
 [V.ts cs0Follow n0Follow none,
 V.fn (Fn.func (22 : Nat)) [] [V.p (some (h.nx, 0))]]
 h_1 fun (v : V) (h' : Heap) =>
 ∃ (b : Bool), v = V.b b ∧ K Out.ret 35 [V.b !b] h'))))) := by kernel_rfl
theorem f13_0 (cs0 : List V) (n0 : Nat) (cs1 : List V) (n1 : Nat) (h : Heap) (K : Out → Nat → List V → Heap → Prop) : (codeP Tryz.Y (Tryz.Y.loc 13) 100 (pre (flat (bodyOf Tryz.f13))) ⟨(V.ts cs0 n0 none :: V.ts cs1 n1 none :: List.replicate 24 .undef), [], h⟩ (VQ [0, 1, 4, 5] K)) =
  (If ((↑n0 : Int) != (↑n1 : Int)) (K Out.ret 26 [V.ts cs0 n0 none, V.ts cs1 n1 none, V.b false, V.undef] h)
  (K Out.normal 26 [V.ts cs0 n0 none, V.ts cs1 n1 none, V.b false, V.i IntKind.i64 (0 : Int)] h)) := by kernel_rfl
theorem f13_1 (cs0 : List V) (n0 : Nat) (cs1 : List V) (n1 : Nat) (x5 : Int) (h : Heap) (K : Out → Nat → List V → Heap → Prop) : (codeP Tryz.Y (Tryz.Y.loc 13) 100 ((flat (loopB (post (flat (bodyOf Tryz.f13)))))) ⟨mk 26 (([0, 1, 5] : List Nat).zip [V.ts cs0 n0 none, V.ts cs1 n1 none, V.i IntKind.i64 x5]), [], h⟩ (VQ [0, 1, 4, 5] K)) =
  (If (ltI x5 (↑n0 : Int))
  (((0 : Int) ≤ x5 ∧ x5 < (↑n0 : Int)) ∧
 ∃ (n : Int),
 takeX 1 (List.drop (x5.toNat * (1 : Nat)) cs0) = some [V.i IntKind.i64 n] ∧
 ((0 : Int) ≤ x5 ∧ x5 < (↑n1 : Int)) ∧
 ∃ (n_1 : Int),
 takeX 1 (List.drop (x5.toNat * (1 : Nat)) cs1) = some [V.i IntKind.i64 n_1] ∧
 If (n != n_1)
 (K Out.ret 26 [V.ts cs0 n0 none, V.ts cs1 n1 none, V.b false, V.i IntKind.i64 x5] h)
 (K Out.normal 26
 [V.ts cs0 n0 none, V.ts cs1 n1 none, V.undef, V.i IntKind.i64 (IntKind.i64.wrap (x5 + (1 : Int)))] h))
  (K (Out.exit 0) 26 [V.ts cs0 n0 none, V.ts cs1 n1 none, V.undef, V.i IntKind.i64 x5] h)) := by kernel_rfl
theorem f13_2  (h : Heap) (K : Out → Nat → List V → Heap → Prop) : (codeP Tryz.Y (Tryz.Y.loc 13) 100 (((post (flat (bodyOf Tryz.f13))).drop 1)) ⟨mk 26 (([] : List Nat).zip []), [], h⟩ (VQ [4] K)) =
  (K Out.ret 26 [V.b true] h) := by kernel_rfl
theorem f19_0 (cs0 : List V) (n0 : Nat) (x1 : Int) (h : Heap) (K : Out → Nat → List V → Heap → Prop) : (codeP Tryz.Y (Tryz.Y.loc 19) 100 (pre (flat (bodyOf Tryz.f19))) ⟨(V.ts cs0 n0 none :: V.i IntKind.i64 x1 :: List.replicate 39 .undef), [], h⟩ (VQ [0, 1, 5] K)) =
  (K Out.normal 41 [V.ts cs0 n0 none, V.i IntKind.i64 x1, V.i IntKind.i64 (0 : Int)] h) := by kernel_rfl
theorem f19_1 (cs0 : List V) (n0 : Nat) (x1 : Int) (x5 : Int) (h : Heap) (K : Out → Nat → List V → Heap → Prop) : (codeP Tryz.Y (Tryz.Y.loc 19) 100 ((flat (loopB (post (flat (bodyOf Tryz.f19)))))) ⟨mk 41 (([0, 1, 5] : List Nat).zip [V.ts cs0 n0 none, V.i IntKind.i64 x1, V.i IntKind.i64 x5]), [], h⟩ (VQ [0, 1, 4, 5] K)) =
  (If (ltI x5 (↑n0 : Int))
  (((0 : Int) ≤ x5 ∧ x5 < (↑n0 : Int)) ∧
 ∃ (n : Int),
 takeX 1 (List.drop (x5.toNat * (1 : Nat)) cs0) = some [V.i IntKind.i64 n] ∧
 If (ltI n (0 : Int))
 (K Out.ret 41 [V.ts cs0 n0 none, V.i IntKind.i64 x1, V.b false, V.i IntKind.i64 x5] h)
 (((0 : Int) ≤ x5 ∧ x5 < (↑n0 : Int)) ∧
 ∃ (n : Int),
 takeX 1 (List.drop (x5.toNat * (1 : Nat)) cs0) = some [V.i IntKind.i64 n] ∧
 If (leI x1 n)
 (K Out.ret 41 [V.ts cs0 n0 none, V.i IntKind.i64 x1, V.b false, V.i IntKind.i64 x5] h)
 (If (ltI (0 : Int) x5)
 (((0 : Int) ≤ x5 ∧ x5 < (↑n0 : Int)) ∧
 ∃ (n : Int),
 takeX 1 (List.drop (x5.toNat * (1 : Nat)) cs0) = some [V.i IntKind.i64 n] ∧
 ((0 : Int) ≤ IntKind.i64.wrap (x5 - (1 : Int)) ∧
 IntKind.i64.wrap (x5 - (1 : Int)) < (↑n0 : Int)) ∧
 ∃ (n_1 : Int),
 takeX 1
 (List.drop ((IntKind.i64.wrap (x5 - (1 : Int))).toNat * (1 : Nat)) cs0) =
 some [V.i IntKind.i64 n_1] ∧
 If (leI n n_1)
 (K Out.ret 41
 [V.ts cs0 n0 none, V.i IntKind.i64 x1, V.b false, V.i IntKind.i64 x5] h)
 (K Out.normal 41
 [V.ts cs0 n0 none, V.i IntKind.i64 x1, V.undef,
 V.i IntKind.i64 (IntKind.i64.wrap (x5 + (1 : Int)))]
 h))
 (K Out.normal 41
 [V.ts cs0 n0 none, V.i IntKind.i64 x1, V.undef,
 V.i IntKind.i64 (IntKind.i64.wrap (x5 + (1 : Int)))]
 h))))
  (K (Out.exit 0) 41 [V.ts cs0 n0 none, V.i IntKind.i64 x1, V.undef, V.i IntKind.i64 x5] h)) := by kernel_rfl
theorem f19_2  (h : Heap) (K : Out → Nat → List V → Heap → Prop) : (codeP Tryz.Y (Tryz.Y.loc 19) 100 (((post (flat (bodyOf Tryz.f19))).drop 1)) ⟨mk 41 (([] : List Nat).zip []), [], h⟩ (VQ [4] K)) =
  (K Out.ret 41 [V.b true] h) := by kernel_rfl
theorem f20_0 (cs0 : List V) (n0 : Nat) (x1 : Int) (h : Heap) (K : Out → Nat → List V → Heap → Prop) : (codeP Tryz.Y (Tryz.Y.loc 20) 100 (pre (flat (bodyOf Tryz.f20))) ⟨(V.ts cs0 n0 none :: V.i IntKind.i64 x1 :: List.replicate 33 .undef), [], h⟩ (VQ [0, 1, 2, 7, 8, 9] K)) =
  (K Out.normal 35
  [V.ts cs0 n0 none, V.i IntKind.i64 x1, V.undef, V.ts cs0 n0 none, V.i IntKind.i64 (↑n0 : Int),
 V.i IntKind.i64 (0 : Int)]
  h) := by kernel_rfl
theorem f20_1 (cs0 : List V) (n0 : Nat) (x1 : Int) (x9 : Int) (h : Heap) (K : Out → Nat → List V → Heap → Prop) : (codeP Tryz.Y (Tryz.Y.loc 20) 100 ((flat (loopB (post (flat (bodyOf Tryz.f20)))))) ⟨mk 35 (([0, 1, 2, 7, 8, 9] : List Nat).zip [V.ts cs0 n0 none, V.i IntKind.i64 x1, V.undef, V.ts cs0 n0 none, V.i IntKind.i64 (↑n0 : Int), V.i IntKind.i64 x9]), [], h⟩ (VQ [0, 1, 2, 4, 7, 8, 9] K)) =
  (If (ltI x9 (↑n0 : Int))
  (((0 : Int) ≤ x9 ∧ x9 < (↑n0 : Int)) ∧
 ∃ (n : Int),
 takeX 1 (List.drop (x9.toNat * (1 : Nat)) cs0) = some [V.i IntKind.i64 n] ∧
 If (ltI n (0 : Int))
 (K Out.ret 35
 [V.ts cs0 n0 none, V.i IntKind.i64 x1, V.undef, V.b false, V.ts cs0 n0 none, V.i IntKind.i64 (↑n0 : Int),
 V.i IntKind.i64 x9]
 h)
 (If (leI x1 n)
 (K Out.ret 35
 [V.ts cs0 n0 none, V.i IntKind.i64 x1, V.undef, V.b false, V.ts cs0 n0 none, V.i IntKind.i64 (↑n0 : Int),
 V.i IntKind.i64 x9]
 h)
 (If (ltI (0 : Int) x9)
 (((0 : Int) ≤ IntKind.i64.wrap (x9 - (1 : Int)) ∧ IntKind.i64.wrap (x9 - (1 : Int)) < (↑n0 : Int)) ∧
 ∃ (n_1 : Int),
 takeX 1 (List.drop ((IntKind.i64.wrap (x9 - (1 : Int))).toNat * (1 : Nat)) cs0) =
 some [V.i IntKind.i64 n_1] ∧
 If (leI n n_1)
 (K Out.ret 35
 [V.ts cs0 n0 none, V.i IntKind.i64 x1, V.undef, V.b false, V.ts cs0 n0 none,
 V.i IntKind.i64 (↑n0 : Int), V.i IntKind.i64 x9]
 h)
 (K Out.normal 35
 [V.ts cs0 n0 none, V.i IntKind.i64 x1, V.undef, V.undef, V.ts cs0 n0 none,
 V.i IntKind.i64 (↑n0 : Int), V.i IntKind.i64 (IntKind.i64.wrap (x9 + (1 : Int)))]
 h))
 (K Out.normal 35
 [V.ts cs0 n0 none, V.i IntKind.i64 x1, V.undef, V.undef, V.ts cs0 n0 none, V.i IntKind.i64 (↑n0 : Int),
 V.i IntKind.i64 (IntKind.i64.wrap (x9 + (1 : Int)))]
 h))))
  (K (Out.exit 0) 35
 [V.ts cs0 n0 none, V.i IntKind.i64 x1, V.undef, V.undef, V.ts cs0 n0 none, V.i IntKind.i64 (↑n0 : Int),
 V.i IntKind.i64 x9]
 h)) := by kernel_rfl
theorem f20_2  (h : Heap) (K : Out → Nat → List V → Heap → Prop) : (codeP Tryz.Y (Tryz.Y.loc 20) 100 (((post (flat (bodyOf Tryz.f20))).drop 1)) ⟨mk 35 (([] : List Nat).zip []), [], h⟩ (VQ [4] K)) =
  (K Out.ret 35 [V.b true] h) := by kernel_rfl
end Go.Y
