/- What the pieces of functions come to: printed by program. -/
import Derived.Test.YteennilbmmlikaaGreatDoorYTryzP
import Derived.Test.YteennilbmmlikaaGreatDoorYLoop
import Derived.Test.YteennilbmmlikaaGreatDoorGEreJoin
import Derived.Test.YteennilbmmlikaaGreatDoorGRule
import Derived.Test.YteennilbmmlikaaGreatDoorGSortK
namespace Go.Y
open Go.Proofs
set_option maxRecDepth 100000
set_option maxHeartbeats 0
theorem f11_0 (cs0Sets : List V) (n0Sets : Nat) (cs0First : List V) (n0First : Nat) (cs0Last : List V) (n0Last : Nat) (cs0Follow : List V) (n0Follow : Nat) (b0Empty : Bool) (s1 : List UInt8) (h : Heap) (K : KT) : (codeP Tryz.Y (Tryz.Y.loc 11) 100 (pre (flat (bodyOf Tryz.f11))) ⟨(V.agg [V.ts cs0Sets n0Sets none, V.ts cs0First n0First none, V.ts cs0Last n0Last none, V.ts cs0Follow n0Follow none, V.b b0Empty] :: V.s s1 :: List.replicate 35 .undef), [], h⟩ (VQ [1, 2, 4, 5, 6] K)) =
  (∃ (b : Bool),
  (PCon Tryz.Y (26 : Nat)
 [V.agg
 [V.ts cs0Sets n0Sets none, V.ts cs0First n0First none, V.ts cs0Last n0Last none, V.ts cs0Follow n0Follow none,
 V.b b0Empty]]
 fun (v : V) => v = V.b b) ∧
 If (!b)
 (K Out.ret 37
 [V.s s1,
 V.lb
 [V.ts cs0Sets n0Sets none, V.ts cs0First n0First none, V.ts cs0Last n0Last none,
 V.ts cs0Follow n0Follow none, V.b b0Empty],
 V.b false, V.undef, V.undef]
 h)
 (If (s1 == #[].toList)
 (K Out.ret 37
 [V.s s1,
 V.lb
 [V.ts cs0Sets n0Sets none, V.ts cs0First n0First none, V.ts cs0Last n0Last none,
 V.ts cs0Follow n0Follow none, V.b b0Empty],
 V.b b0Empty, V.undef, V.undef]
 h)
 (∃ (c : UInt8),
 ((0 : Int) ≤ (0 : Int) ∧ s1[Int.toNat (0 : Int)]? = some c) ∧
 ∃ (cs : List V),
 ∃ (l : Nat),
 ∃ (c_1 : Option Nat),
 (PCon Tryz.Y (34 : Nat)
 [V.agg
 [V.ts cs0Sets n0Sets none, V.ts cs0First n0First none, V.ts cs0Last n0Last none,
 V.ts cs0Follow n0Follow none, V.b b0Empty],
 V.ts cs0First n0First none, V.i IntKind.u8 (↑c.toNat : Int)]
 fun (v : V) => v = V.ts cs l c_1) ∧
 K Out.normal 37
 [V.s s1,
 V.lb
 [V.ts cs0Sets n0Sets none, V.ts cs0First n0First none, V.ts cs0Last n0Last none,
 V.ts cs0Follow n0Follow none, V.b b0Empty],
 V.b false, V.ts cs l c_1, V.i IntKind.i64 (1 : Int)]
 h))) := by kernel_rfl
theorem f11_1 (cs0Sets : List V) (n0Sets : Nat) (cs0First : List V) (n0First : Nat) (cs0Last : List V) (n0Last : Nat) (cs0Follow : List V) (n0Follow : Nat) (s1 : List UInt8) (b2_4 : Bool) (c5 : Option Nat) (cs5 : List V) (n5 : Nat) (x6 : Int) (h : Heap) (K : KT) : (codeP Tryz.Y (Tryz.Y.loc 11) 100 ((flat (loopB (post (flat (bodyOf Tryz.f11)))))) ⟨mk 37 (([1, 2, 5, 6] : List Nat).zip [V.s s1, V.lb [V.ts cs0Sets n0Sets none, V.ts cs0First n0First none, V.ts cs0Last n0Last none, V.ts cs0Follow n0Follow none, V.b b2_4], V.ts cs5 n5 c5, V.i IntKind.i64 x6]), [], h⟩ (VQ [1, 2, 5, 6] K)) =
  (If (ltI x6 (↑s1.length : Int))
  (∃ (c : UInt8),
 ((0 : Int) ≤ x6 ∧ s1[x6.toNat]? = some c) ∧
 ∃ (cs : List V),
 ∃ (l : Nat),
 ∃ (c_1 : Option Nat),
 (PCon Tryz.Y (35 : Nat)
 [V.agg
 [V.ts cs0Sets n0Sets none, V.ts cs0First n0First none, V.ts cs0Last n0Last none,
 V.ts cs0Follow n0Follow none, V.b b2_4],
 V.ts cs5 n5 c5, V.i IntKind.u8 (↑c.toNat : Int)]
 fun (v : V) => v = V.ts cs l c_1) ∧
 K Out.normal 37
 [V.s s1,
 V.lb
 [V.ts cs0Sets n0Sets none, V.ts cs0First n0First none, V.ts cs0Last n0Last none,
 V.ts cs0Follow n0Follow none, V.b b2_4],
 V.ts cs l c_1, V.i IntKind.i64 (IntKind.i64.wrap (x6 + (1 : Int)))]
 h)
  (K (Out.exit 1) 37
 [V.s s1,
 V.lb
 [V.ts cs0Sets n0Sets none, V.ts cs0First n0First none, V.ts cs0Last n0Last none, V.ts cs0Follow n0Follow none,
 V.b b2_4],
 V.ts cs5 n5 c5, V.i IntKind.i64 x6]
 h)) := by kernel_rfl
theorem f11_2 (cs0Sets : List V) (n0Sets : Nat) (cs0First : List V) (n0First : Nat) (cs0Last : List V) (n0Last : Nat) (cs0Follow : List V) (n0Follow : Nat) (c5 : Option Nat) (cs5 : List V) (n5 : Nat) (b2_4z2 : Bool) (h : Heap) (K : KT) : (codeP Tryz.Y (Tryz.Y.loc 11) 100 (((post (flat (bodyOf Tryz.f11))).drop 1)) ⟨mk 37 (([2, 5] : List Nat).zip [V.lb [V.ts cs0Sets n0Sets none, V.ts cs0First n0First none, V.ts cs0Last n0Last none, V.ts cs0Follow n0Follow none, V.b b2_4z2], V.ts cs5 n5 c5]), [], h⟩ (VQ [4] K)) =
  (∃ (b : Bool),
  (PCon Tryz.Y (36 : Nat)
 [V.agg
 [V.ts cs0Sets n0Sets none, V.ts cs0First n0First none, V.ts cs0Last n0Last none, V.ts cs0Follow n0Follow none,
 V.b b2_4z2],
 V.ts cs5 n5 c5]
 fun (v : V) => v = V.b b) ∧
 K Out.ret 37 [V.b b] h) := by kernel_rfl
theorem f34_0 (cs0Sets : List V) (n0Sets : Nat) (cs0First : List V) (n0First : Nat) (cs0Last : List V) (n0Last : Nat) (cs0Follow : List V) (n0Follow : Nat) (b0Empty : Bool) (cs1 : List V) (n1 : Nat) (x2 : Int) (h : Heap) (K : KT) : (codeP Tryz.Y (Tryz.Y.loc 34) 100 (pre (flat (bodyOf Tryz.f34))) ⟨(V.agg [V.ts cs0Sets n0Sets none, V.ts cs0First n0First none, V.ts cs0Last n0Last none, V.ts cs0Follow n0Follow none, V.b b0Empty] :: V.ts cs1 n1 none :: V.i IntKind.u8 x2 :: List.replicate 32 .undef), [], h⟩ (VQ [2, 3, 7, 10, 11, 12] K)) =
  (K Out.normal 35
  [V.i IntKind.u8 x2,
 V.lb
 [V.ts cs0Sets n0Sets none, V.ts cs0First n0First none, V.ts cs0Last n0Last none, V.ts cs0Follow n0Follow none,
 V.b b0Empty],
 V.sl none 0 (some 0) 0, V.ts cs1 n1 none, V.i IntKind.i64 (↑n1 : Int),
 V.i IntKind.i64 (0 : Int)]
  h) := by kernel_rfl
theorem f34_1 (cs0Sets : List V) (n0Sets : Nat) (cs0First : List V) (n0First : Nat) (cs0Last : List V) (n0Last : Nat) (cs0Follow : List V) (n0Follow : Nat) (b0Empty : Bool) (cs1 : List V) (n1 : Nat) (x2 : Int) (a7z2 : Option (Nat × Nat)) (l7z2 : Nat) (c7z2 : Option Nat) (k7z2 : Nat) (x12z2 : Int) (h : Heap) (K : KT) : (codeP Tryz.Y (Tryz.Y.loc 34) 100 ((flat (loopB (post (flat (bodyOf Tryz.f34)))))) ⟨mk 35 (([2, 3, 7, 10, 11, 12] : List Nat).zip [V.i IntKind.u8 x2, V.lb [V.ts cs0Sets n0Sets none, V.ts cs0First n0First none, V.ts cs0Last n0Last none, V.ts cs0Follow n0Follow none, V.b b0Empty], V.sl a7z2 l7z2 c7z2 k7z2, V.ts cs1 n1 none, V.i IntKind.i64 (↑n1 : Int), V.i IntKind.i64 x12z2]), [], h⟩ (VQ [2, 3, 7, 10, 11, 12] K)) =
  (If (ltI x12z2 (↑n1 : Int))
  (((0 : Int) ≤ x12z2 ∧ x12z2 < (↑n1 : Int)) ∧
 ∃ (n : Int),
 takeX 1 (List.drop (x12z2.toNat * (1 : Nat)) cs1) = some [V.i IntKind.i64 n] ∧
 (0 : Int) ≤ (6 : Int) ∧
 ((0 : Int) ≤ n ∧ n < (↑n0Sets : Int)) ∧
 ((0 : Int) ≤ x2.fdiv ((2 : Int) ^ min (Int.toNat (6 : Int)) IntKind.u8.bits) ∧
 x2.fdiv ((2 : Int) ^ min (Int.toNat (6 : Int)) IntKind.u8.bits) < (↑(4 : Nat) : Int)) ∧
 ∃ (n_1 : Int),
 takeX 1
 (List.drop ((x2.fdiv ((2 : Int) ^ min (Int.toNat (6 : Int)) IntKind.u8.bits)).toNat * (1 : Nat))
 (List.drop (n.toNat * (4 : Nat)) cs0Sets)) =
 some [V.i IntKind.u64 n_1] ∧
 (0 : Int) ≤
 IntKind.u8.wrap
 (↑(BitVec.ofInt IntKind.u8.bits x2 &&& BitVec.ofInt IntKind.u8.bits (63 : Int)).toNat : Int) ∧
 If
 (IntKind.u64.wrap
 (↑(BitVec.ofInt IntKind.u64.bits
 (n_1.fdiv
 ((2 : Int) ^
 min
 (IntKind.u8.wrap
 (↑(BitVec.ofInt IntKind.u8.bits x2 &&&
 BitVec.ofInt IntKind.u8.bits (63 : Int)).toNat :
 Int)).toNat
 IntKind.u64.bits)) &&&
 BitVec.ofInt IntKind.u64.bits (1 : Int)).toNat :
 Int) ==
 (1 : Int))
 (∃ (a : Option (Nat × Nat)),
 ∃ (l : Nat),
 ∃ (c : Option Nat),
 ∃ (k : Nat),
 ∃ (h_1 : Heap),
 appendH Tryz.Y h 32 32 (V.sl a7z2 l7z2 c7z2 k7z2)
 (V.ts [V.i IntKind.i64 n] 1 (some 1)) =
 some (V.sl a l c k, h_1) ∧
 K Out.normal 35
 [V.i IntKind.u8 x2,
 V.lb
 [V.ts cs0Sets n0Sets none, V.ts cs0First n0First none, V.ts cs0Last n0Last none,
 V.ts cs0Follow n0Follow none, V.b b0Empty],
 V.sl a l c k, V.ts cs1 n1 none, V.i IntKind.i64 (↑n1 : Int),
 V.i IntKind.i64 (IntKind.i64.wrap (x12z2 + (1 : Int)))]
 h_1)
 (K Out.normal 35
 [V.i IntKind.u8 x2,
 V.lb
 [V.ts cs0Sets n0Sets none, V.ts cs0First n0First none, V.ts cs0Last n0Last none,
 V.ts cs0Follow n0Follow none, V.b b0Empty],
 V.sl a7z2 l7z2 c7z2 k7z2, V.ts cs1 n1 none, V.i IntKind.i64 (↑n1 : Int),
 V.i IntKind.i64 (IntKind.i64.wrap (x12z2 + (1 : Int)))]
 h))
  (K (Out.exit 0) 35
 [V.i IntKind.u8 x2,
 V.lb
 [V.ts cs0Sets n0Sets none, V.ts cs0First n0First none, V.ts cs0Last n0Last none, V.ts cs0Follow n0Follow none,
 V.b b0Empty],
 V.sl a7z2 l7z2 c7z2 k7z2, V.ts cs1 n1 none, V.i IntKind.i64 (↑n1 : Int), V.i IntKind.i64 x12z2]
 h)) := by kernel_rfl
theorem f34_2 (a7z2 : Option (Nat × Nat)) (l7z2 : Nat) (c7z2 : Option Nat) (k7z2 : Nat) (h : Heap) (K : KT) : (codeP Tryz.Y (Tryz.Y.loc 34) 100 (((post (flat (bodyOf Tryz.f34))).drop 1)) ⟨mk 35 (([7] : List Nat).zip [V.sl a7z2 l7z2 c7z2 k7z2]), [], h⟩ (VQ [6] K)) =
  (K Out.ret 35 [V.sl a7z2 l7z2 c7z2 k7z2] h) := by kernel_rfl
theorem f35_0 (cs0Sets : List V) (n0Sets : Nat) (cs0First : List V) (n0First : Nat) (cs0Last : List V) (n0Last : Nat) (cs0Follow : List V) (n0Follow : Nat) (b0Empty : Bool) (cs1 : List V) (n1 : Nat) (x2 : Int) (h : Heap) (K : KT) : (codeP Tryz.Y (Tryz.Y.loc 35) 100 (pre (flat (bodyOf Tryz.f35))) ⟨(V.agg [V.ts cs0Sets n0Sets none, V.ts cs0First n0First none, V.ts cs0Last n0Last none, V.ts cs0Follow n0Follow none, V.b b0Empty] :: V.ts cs1 n1 none :: V.i IntKind.u8 x2 :: List.replicate 37 .undef), [], h⟩ (VQ [2, 3, 7, 10, 11, 12] K)) =
  (K Out.normal 40
  [V.i IntKind.u8 x2,
 V.lb
 [V.ts cs0Sets n0Sets none, V.ts cs0First n0First none, V.ts cs0Last n0Last none, V.ts cs0Follow n0Follow none,
 V.b b0Empty],
 V.sl none 0 (some 0) 0, V.ts cs1 n1 none, V.i IntKind.i64 (↑n1 : Int),
 V.i IntKind.i64 (0 : Int)]
  h) := by kernel_rfl
theorem f35_1 (cs0Sets : List V) (n0Sets : Nat) (cs0First : List V) (n0First : Nat) (cs0Last : List V) (n0Last : Nat) (cs0Follow : List V) (n0Follow : Nat) (b0Empty : Bool) (cs1 : List V) (n1 : Nat) (x2 : Int) (a7z3 : Option (Nat × Nat)) (l7z3 : Nat) (c7z3 : Option Nat) (k7z3 : Nat) (x12z3 : Int) (h : Heap) (K : KT) : (codeP Tryz.Y (Tryz.Y.loc 35) 100 ((flat (loopB (post (flat (bodyOf Tryz.f35)))))) ⟨mk 40 (([2, 3, 7, 10, 11, 12] : List Nat).zip [V.i IntKind.u8 x2, V.lb [V.ts cs0Sets n0Sets none, V.ts cs0First n0First none, V.ts cs0Last n0Last none, V.ts cs0Follow n0Follow none, V.b b0Empty], V.sl a7z3 l7z3 c7z3 k7z3, V.ts cs1 n1 none, V.i IntKind.i64 (↑n1 : Int), V.i IntKind.i64 x12z3]), [], h⟩ (VQ [2, 3, 7, 10, 11, 12] K)) =
  (If (ltI x12z3 (↑n1 : Int))
  (((0 : Int) ≤ x12z3 ∧ x12z3 < (↑n1 : Int)) ∧
 ∃ (n : Int),
 takeX 1 (List.drop (x12z3.toNat * (1 : Nat)) cs1) = some [V.i IntKind.i64 n] ∧
 If (leI (0 : Int) n)
 (If (ltI n (↑n0Sets : Int))
 (((0 : Int) ≤ n ∧ n < (↑n0Follow : Int)) ∧
 ∃ (cs : List V),
 ∃ (l : Nat),
 ∃ (c : Option Nat),
 takeX 1 (List.drop (n.toNat * (1 : Nat)) cs0Follow) = some [V.ts cs l c] ∧
 ∃ (cs_1 : List V),
 ∃ (l_1 : Nat),
 ∃ (c_1 : Option Nat),
 (PCon Tryz.Y (34 : Nat)
 [V.agg
 [V.ts cs0Sets n0Sets none, V.ts cs0First n0First none, V.ts cs0Last n0Last none,
 V.ts cs0Follow n0Follow none, V.b b0Empty],
 V.ts cs l c, V.i IntKind.u8 x2]
 fun (v : V) => v = V.ts cs_1 l_1 c_1) ∧
 ∃ (a : Option (Nat × Nat)),
 ∃ (l : Nat),
 ∃ (c : Option Nat),
 ∃ (k : Nat),
 ∃ (h_1 : Heap),
 appendH Tryz.Y h 32 32 (V.sl a7z3 l7z3 c7z3 k7z3)
 (V.ts cs_1 l_1 c_1) =
 some (V.sl a l c k, h_1) ∧
 K Out.normal 40
 [V.i IntKind.u8 x2,
 V.lb
 [V.ts cs0Sets n0Sets none, V.ts cs0First n0First none,
 V.ts cs0Last n0Last none, V.ts cs0Follow n0Follow none, V.b b0Empty],
 V.sl a l c k, V.ts cs1 n1 none, V.i IntKind.i64 (↑n1 : Int),
 V.i IntKind.i64 (IntKind.i64.wrap (x12z3 + (1 : Int)))]
 h_1)
 (K Out.normal 40
 [V.i IntKind.u8 x2,
 V.lb
 [V.ts cs0Sets n0Sets none, V.ts cs0First n0First none, V.ts cs0Last n0Last none,
 V.ts cs0Follow n0Follow none, V.b b0Empty],
 V.sl a7z3 l7z3 c7z3 k7z3, V.ts cs1 n1 none, V.i IntKind.i64 (↑n1 : Int),
 V.i IntKind.i64 (IntKind.i64.wrap (x12z3 + (1 : Int)))]
 h))
 (K Out.normal 40
 [V.i IntKind.u8 x2,
 V.lb
 [V.ts cs0Sets n0Sets none, V.ts cs0First n0First none, V.ts cs0Last n0Last none,
 V.ts cs0Follow n0Follow none, V.b b0Empty],
 V.sl a7z3 l7z3 c7z3 k7z3, V.ts cs1 n1 none, V.i IntKind.i64 (↑n1 : Int),
 V.i IntKind.i64 (IntKind.i64.wrap (x12z3 + (1 : Int)))]
 h))
  (K (Out.exit 0) 40
 [V.i IntKind.u8 x2,
 V.lb
 [V.ts cs0Sets n0Sets none, V.ts cs0First n0First none, V.ts cs0Last n0Last none, V.ts cs0Follow n0Follow none,
 V.b b0Empty],
 V.sl a7z3 l7z3 c7z3 k7z3, V.ts cs1 n1 none, V.i IntKind.i64 (↑n1 : Int), V.i IntKind.i64 x12z3]
 h)) := by kernel_rfl
theorem f35_2 (a7z3 : Option (Nat × Nat)) (l7z3 : Nat) (c7z3 : Option Nat) (k7z3 : Nat) (h : Heap) (K : KT) : (codeP Tryz.Y (Tryz.Y.loc 35) 100 (((post (flat (bodyOf Tryz.f35))).drop 1)) ⟨mk 40 (([7] : List Nat).zip [V.sl a7z3 l7z3 c7z3 k7z3]), [], h⟩ (VQ [6] K)) =
  (Con Tryz.Y (75 : Nat) [V.sl a7z3 l7z3 c7z3 k7z3] h fun (v : V) (h' : Heap) =>
  v = V.tup [] ∧
 Con Tryz.Y (76 : Nat) [V.sl a7z3 l7z3 c7z3 k7z3] h' fun (v : V) (h' : Heap) =>
 ∃ (a : Option (Nat × Nat)),
 ∃ (l : Nat), ∃ (c : Option Nat), ∃ (k : Nat), v = V.sl a l c k ∧ K Out.ret 40 [V.sl a l c k] h') := by kernel_rfl
theorem f36_0 (cs0Sets : List V) (n0Sets : Nat) (cs0First : List V) (n0First : Nat) (cs0Last : List V) (n0Last : Nat) (cs0Follow : List V) (n0Follow : Nat) (b0Empty : Bool) (cs1 : List V) (n1 : Nat) (h : Heap) (K : KT) : (codeP Tryz.Y (Tryz.Y.loc 36) 100 ((flat (bodyOf Tryz.f36))) ⟨(V.agg [V.ts cs0Sets n0Sets none, V.ts cs0First n0First none, V.ts cs0Last n0Last none, V.ts cs0Follow n0Follow none, V.b b0Empty] :: V.ts cs1 n1 none :: List.replicate 6 .undef), [], h⟩ (VQ [4] K)) =
  (Con Tryz.Y (77 : Nat) [V.ts cs1 n1 none, V.fn (Fn.func (78 : Nat)) [] [V.p (some (h.nx, 0))]]
  (h.push
 (YObj.arr
 [V.ts cs0Sets n0Sets none, V.ts cs0First n0First none, V.ts cs0Last n0Last none, V.ts cs0Follow n0Follow none,
 V.b b0Empty]
 true))
  fun (v : V) (h' : Heap) => ∃ (b : Bool), v = V.b b ∧ K Out.ret 8 [V.b b] h') := by kernel_rfl
end Go.Y

/- Automata: Has, having. -/
namespace Go.Y
open Go.Proofs
set_option maxRecDepth 100000
set_option maxHeartbeats 1000000

theorem byteHi {c : Nat} : (c : Int).fdiv ((2 : Int) ^ min (Int.toNat (6 : Int)) IntKind.u8.bits) = ((c / 64 : Nat) : Int) := by
  have e : (2 : Int) ^ min (Int.toNat (6 : Int)) IntKind.u8.bits = 64 := by decide
  rw [e, Int.fdiv_eq_ediv_of_nonneg _ (by decide)]
  omega
theorem byteLo {c : Nat} (hc : c < 256) : IntKind.u8.wrap (((BitVec.ofInt IntKind.u8.bits (c : Int) &&& BitVec.ofInt IntKind.u8.bits (63 : Int)).toNat : Nat) : Int) = ((c % 64 : Nat) : Int) := by
  have h : ∀ c : _root_.Fin 256, IntKind.u8.wrap (((BitVec.ofInt IntKind.u8.bits (c.val : Int) &&& BitVec.ofInt IntKind.u8.bits (63 : Int)).toNat : Nat) : Int) = ((c.val % 64 : Nat) : Int) := by decide +kernel
  exact h ⟨c, hc⟩
theorem bitLo (y : Int) : IntKind.u64.wrap (((BitVec.ofInt IntKind.u64.bits y &&& BitVec.ofInt IntKind.u64.bits (1 : Int)).toNat : Nat) : Int) = y % 2 := by
  have e : IntKind.u64.bits = 64 := rfl
  have e1 : (BitVec.ofInt IntKind.u64.bits y &&& BitVec.ofInt IntKind.u64.bits (1 : Int)).toNat = (y % 18446744073709551616).toNat % 2 := by
    rw [e, BitVec.toNat_and, BitVec.toNat_ofInt, BitVec.toNat_ofInt]
    have : ((1 : Int) % ((2 ^ 64 : Nat) : Int)).toNat = 1 := by decide
    rw [this, Nat.and_one_is_mod]
    rfl
  rw [e1]
  have e2 : (2 : Int) ^ IntKind.u64.bits = 18446744073709551616 := by decide
  unfold IntKind.wrap
  simp only [e2, IntKind.signed, Bool.false_and]
  simp only [Bool.false_eq_true, if_false]
  omega

def okS (x : Set4) : Prop := 0 ≤ x.1 ∧ 0 ≤ x.2.1 ∧ 0 ≤ x.2.2.1 ∧ 0 ≤ x.2.2.2
theorem havL_snoc (sets : List Set4) (l : List Int) (c : Nat) {i : Nat} (hi : i < l.length) (s : Set4) (hs : sets.getD l[i].toNat set0 = s) : havL sets (l.take (i + 1)) c = havL sets (l.take i) c ++ if hasN s c then [l[i]] else [] := by
  rw [List.take_succ_eq_append_getElem hi]
  unfold havL
  rw [List.filter_append, List.filter_cons, List.filter_nil, hs]
theorem havL_len (sets : List Set4) (l : List Int) (c : Nat) : (havL sets l c).length ≤ l.length := List.length_filter_le _ _

theorem getS1 (l : List Set4) {i k : Nat} (h : i < l.length) (hk : k < 4) : takeX 1 (List.drop (((k : Nat) : Int).toNat * 1) (List.drop (i * 4) (row setC l))) = some [.i .u64 (pickS l[i] k)] := by
  rw [row_cons setC_len l h, Int.toNat_natCast]
  match k, hk with
  | 0, _ => rfl
  | 1, _ => rfl
  | 2, _ => rfl
  | 3, _ => rfl

theorem app1I {h : Heap} {a : Option (Nat × Nat)} {l : Nat} {c : Option Nat} {kk : Nat} {out : List Int} (x : Int) (hl : Lst encI 1 h a l c kk out) (hb : out.length < 2 ^ 29) :
    ∃ a' l' c' k' h', appendH Tryz.Y h 32 32 (.sl a l c kk) (.ts [.i .i64 x] 1 (some 1)) = some (.sl a' l' c' k', h') ∧ Lst encI 1 h' a' l' c' k' (out ++ [x]) ∧ Fr h a h' ∧ ∃ j, a' = some (j, 0) ∧ h.nx ≤ j :=
  Lst.app1 (Y := Tryz.Y) (e := 3) (te := ⟨1, 8, .int .i64, [.i .i64 0]⟩) x (by kernel_rfl) (by kernel_rfl) rfl (by decide) hl (.cons _ _ _ _ (.i _ _) .nil) rfl rfl rfl (by decide) hb

theorem having23 (a : Au) (l : List Int) (c : Nat) (hc : c < 256) (hr : ∀ p ∈ l, 0 ≤ p ∧ p < a.sets.length) (hl : l.length < 2 ^ 20) : PCon Tryz.Y 34 [.agg (auC a), lst encI l, .i .u8 (c : Nat)] (· = lst encI (havL a.sets l c)) := by
  refine pcon_of Tryz.Yok (fn := Tryz.f34) (by kernel_rfl) (by kernel_rfl) rfl ?_
  refine pre_rule Tryz.Yok (n := 35) (loc := Tryz.Y.loc 34) 100 [2, 3, 7, 10, 11, 12] (by kernel_rfl) ?_
  refine Eq.mpr (f34_0 (row setC a.sets) a.sets.length (row encI a.first) a.first.length (row encI a.last) a.last.length (row encLI a.follow) a.follow.length a.empty (row encI l) l.length (c : Nat) .empty _) ?_
  refine ⟨rfl, loop2 [2, 3, 7, 10, 11, 12] [2, 3, 7, 10, 11, 12] rfl (by kernel_rfl) (fun m vs h => ∃ (i : Nat) (q : Option (Nat × Nat)) (n : Nat) (cp : Option Nat) (kk : Nat), vs = [.i .u8 (c : Nat), .lb (auC a), .sl q n cp kk, lst encI l, .i .i64 l.length, .i .i64 (i : Nat)] ∧ i ≤ l.length ∧ m = l.length - i ∧ Lst encI 1 h q n cp kk (havL a.sets (l.take i) c)) l.length mk_len ⟨0, none, 0, some 0, 0, rfl, by omega, by omega, Lst.nil _ _ _ _ _⟩ ?_⟩
  rintro m vs h ⟨i, q, n, cp, kk, rfl, hi, rfl, hL⟩
  refine all_rule Tryz.Yok (loc := Tryz.Y.loc 34) 100 [2, 3, 7, 10, 11, 12] ?_
  refine Eq.mpr (f34_1 (row setC a.sets) a.sets.length (row encI a.first) a.first.length (row encI a.last) a.last.length (row encLI a.follow) a.follow.length a.empty (row encI l) l.length (c : Nat) q n cp kk (i : Nat) h _) ?_
  refine if_lt_nat (fun hlt => ?_) (fun hge => ?_)
  · obtain ⟨p0, p1⟩ := hr l[i] (List.getElem_mem hlt)
    have hp : l[i].toNat < a.sets.length := by omega
    have hD : a.sets.getD l[i].toNat set0 = a.sets[l[i].toNat] := by simp [hp]
    have hs := havL_snoc a.sets l c hlt _ hD
    have hlen : (havL a.sets (l.take i) c).length < 2 ^ 29 := by
      have := havL_len a.sets (l.take i) c
      rw [List.length_take] at this; omega
    refine ⟨bnd_nat hlt, _, getI l hlt, by decide, ⟨p0, p1⟩, ?_⟩
    rw [byteHi, byteLo hc]
    refine ⟨⟨by omega, by omega⟩, _, getS1 a.sets hp (by omega), by omega, ?_⟩
    have e4 : min (((c % 64 : Nat) : Int)).toNat IntKind.u64.bits = c % 64 := by
      have : IntKind.u64.bits = 64 := rfl
      rw [this, Int.toNat_natCast]; omega
    rw [e4, bitLo]
    refine if_mk (fun g => ?_) (fun g => ?_)
    · have g : hasN a.sets[l[i].toNat] c = true := g
      rw [g, if_pos rfl] at hs
      obtain ⟨a', l', c', k', h', q1, q2, q3, q4⟩ := app1I l[i] hL hlen
      exact ⟨a', l', c', k', h', q1, rfl, l.length - (i + 1), by omega, i + 1, a', l', c', k', by rw [wrap_succ (by omega)]; rfl, by omega, rfl, by rw [hs]; exact q2⟩
    · have g : hasN a.sets[l[i].toNat] c = false := g
      rw [g, if_neg (by decide), List.append_nil] at hs
      exact ⟨rfl, l.length - (i + 1), by omega, i + 1, q, n, cp, kk, by rw [wrap_succ (by omega)]; rfl, by omega, rfl, by rw [hs]; exact hL⟩
  · refine roundW_exit [7] (by kernel_rfl) rfl rfl ?_
    refine end_rule Tryz.Yok (loc := Tryz.Y.loc 34) 100 [6] ?_
    refine Eq.mpr (f34_2 ..) ?_
    rw [List.take_of_length_le hge] at hL
    exact finV1 (.inr rfl) rfl (hL.frz (by decide) encI_len) rfl

end Go.Y

/- Automata: Put, all, step. -/
namespace Go.Y
open Go.Proofs
set_option maxRecDepth 100000
set_option maxHeartbeats 1000000

theorem kd23 : Tryz.Y.kd 32 = some (.slice 3) := by kernel_rfl
theorem frzI {h : Heap} : ∀ {l : List V} {zs : List Int}, FrzL h l (intsV zs) → l = intsV zs
  | _, [], f => by cases f; rfl
  | _, z :: zs, f => by
    cases f with
    | cons _ _ _ _ h1 h2 =>
      cases h1
      rw [frzI h2]
      rfl

theorem app0I {h : Heap} {a : Option (Nat × Nat)} {l : Nat} {c : Option Nat} {kk : Nat} {out : List Int} {cap : Option Nat} (hl : Lst encI 1 h a l c kk out) :
    ∃ a' l' c' k', appendH Tryz.Y h 32 32 (.sl a l c kk) (.ts (row encI ([] : List Int)) 0 cap) = some (.sl a' l' c' k', h) ∧ Lst encI 1 h a' l' c' k' out ∧ a' = a := by
  obtain ⟨⟨cells, h1, h2, h3⟩, h4⟩ := hl
  have hs : source Tryz.Y ⟨[], [], h⟩ ⟨1, 8, .int .i64, [.i .i64 0]⟩ 32 (.ts (row encI ([] : List Int)) 0 cap) = some (0, []) := by
    simp only [source, kd23, elems, elemsS, takeX, Option.map_some]
  rcases h1.2 with ⟨rfl, h0, h5⟩ | ⟨id, rfl, rfl, rfl, h5, h6⟩
  · refine ⟨none, 0, some 0, 1, ?_, ⟨⟨cells, ⟨by subst h5; rfl, .inl ⟨rfl, rfl, h5⟩⟩, h2, h3⟩, by omega⟩, rfl⟩
    simp only [appendH, appendY, kd23, ty3, hs]
    rfl
  · refine ⟨some (id, 0), l, none, 1, ?_, ⟨⟨cells, h1, h2, h3⟩, h4⟩, rfl⟩
    simp only [appendH, appendY, kd23, ty3, hs]
    rfl

theorem appLI {h : Heap} {a : Option (Nat × Nat)} {l : Nat} {c : Option Nat} {kk : Nat} {out : List Int} (xs : List Int) (hl : Lst encI 1 h a l c kk out) (hb : out.length + xs.length < 2 ^ 29) :
    ∃ a' l' c' k' h', appendH Tryz.Y h 32 32 (.sl a l c kk) (.ts (row encI xs) xs.length none) = some (.sl a' l' c' k', h') ∧ Lst encI 1 h' a' l' c' k' (out ++ xs) ∧ (out ++ xs = [] → a' = a) := by
  by_cases hx : xs = []
  · subst hx
    obtain ⟨a', l', c', k', q1, q2, q3⟩ := app0I (cap := none) hl
    exact ⟨a', l', c', k', h, q1, by rw [List.append_nil]; exact q2, fun _ => q3⟩
  · have hm : most = 1099511627776 := by decide
    obtain ⟨a', l', c', k', h', q1, q2, _, _⟩ := Lst.app (Y := Tryz.Y) (st := 32) (e := 3) (te := ⟨1, 8, .int .i64, [.i .i64 0]⟩) xs (cap := none) kd23 ty3 rfl (by decide) hl (rowI_frz xs _) (by
      rw [rowI]
      induction xs with
      | nil => rfl
      | cons x r ih =>
        by_cases hr : r = []
        · subst hr; rfl
        · have := ih (by simp at hb ⊢; omega) hr
          simp only [List.map_cons, colds1, this, Bool.and_true]
          rfl) hx (by rw [rowI_len]; exact (Nat.mul_one _).symm) (rowI_all xs) (by show (out.length + xs.length) * 8 ≤ most; rw [hm]; omega) (by rw [hm]; omega)
    exact ⟨a', l', c', k', h', q1, q2, fun e => absurd (List.append_eq_nil_iff.1 e).2 hx⟩

end Go.Y
