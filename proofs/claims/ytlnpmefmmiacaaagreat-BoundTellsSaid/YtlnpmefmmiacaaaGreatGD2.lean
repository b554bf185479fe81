/- What the pieces of functions come to: printed by program. -/
import Derived.Test.YtlnpmefmmiacaaaGreatYTryzP
import Derived.Test.YtlnpmefmmiacaaaGreatYFun
namespace Go.Y
open Go.Proofs
set_option maxRecDepth 100000
set_option maxHeartbeats 0
theorem f40_0 (s0 : List UInt8) (h : Heap) (K : Out → Nat → List V → Heap → Prop) : (codeP Tryz.Y (Tryz.Y.loc 40) 100 (pre (flat (bodyOf Tryz.f40))) ⟨(V.s s0 :: List.replicate 37 .undef), [], h⟩ (VQ [0, 2, 3] K)) =
  (If ((↑s0.length : Int) == (1 : Int))
  (∃ (c : UInt8),
 ((0 : Int) ≤ (0 : Int) ∧ s0[Int.toNat (0 : Int)]? = some c) ∧
 If (leI (48 : Int) (↑c.toNat : Int))
 (∃ (c : UInt8),
 ((0 : Int) ≤ (0 : Int) ∧ s0[Int.toNat (0 : Int)]? = some c) ∧
 If (leI (↑c.toNat : Int) (57 : Int)) (K Out.ret 38 [V.s s0, V.b true, V.undef] h)
 (K Out.normal 38 [V.s s0, V.b false, V.i IntKind.i64 (0 : Int)] h))
 (K Out.normal 38 [V.s s0, V.b false, V.i IntKind.i64 (0 : Int)] h))
  (K Out.normal 38 [V.s s0, V.b false, V.i IntKind.i64 (0 : Int)] h)) := by kernel_rfl
theorem f40_1 (s0 : List UInt8) (x3 : Int) (h : Heap) (K : Out → Nat → List V → Heap → Prop) : (codeP Tryz.Y (Tryz.Y.loc 40) 100 ((flat (loopB (post (flat (bodyOf Tryz.f40)))))) ⟨mk 38 (([0, 3] : List Nat).zip [V.s s0, V.i IntKind.i64 x3]), [], h⟩ (VQ [0, 2, 3] K)) =
  (If (ltI x3 (↑s0.length : Int))
  (∃ (c : UInt8),
 ((0 : Int) ≤ x3 ∧ s0[x3.toNat]? = some c) ∧
 ∃ (b : Bool),
 (PCon Tryz.Y (54 : Nat) [V.i IntKind.u8 (↑c.toNat : Int), V.b (ltI (0 : Int) x3)] fun (v : V) => v = V.b b) ∧
 If (!b) (K Out.ret 38 [V.s s0, V.b false, V.i IntKind.i64 x3] h)
 (K Out.normal 38 [V.s s0, V.undef, V.i IntKind.i64 (IntKind.i64.wrap (x3 + (1 : Int)))] h))
  (K (Out.exit 0) 38 [V.s s0, V.undef, V.i IntKind.i64 x3] h)) := by kernel_rfl
theorem f40_2 (s0 : List UInt8) (x3 : Int) (h : Heap) (K : Out → Nat → List V → Heap → Prop) : (codeP Tryz.Y (Tryz.Y.loc 40) 100 (((post (flat (bodyOf Tryz.f40))).drop 1)) ⟨mk 38 (([0, 3] : List Nat).zip [V.s s0, V.i IntKind.i64 x3]), [], h⟩ (VQ [2] K)) =
  (If (leI (1 : Int) (↑s0.length : Int)) (K Out.ret 38 [V.b (leI (↑s0.length : Int) (8 : Int))] h)
  (K Out.ret 38 [V.b false] h)) := by kernel_rfl
theorem f79_0 (s0 : List UInt8) (h : Heap) (K : Out → Nat → List V → Heap → Prop) : (codeP Tryz.Y (Tryz.Y.loc 79) 100 (pre (flat (bodyOf Tryz.f79))) ⟨(V.s s0 :: List.replicate 44 .undef), [], h⟩ (VQ [0, 2, 35, 36] K)) =
  (If (s0 == #[].toList) (K Out.ret 45 [V.s s0, V.b false, V.undef, V.undef] h)
  (If (ltI (8 : Int) (↑s0.length : Int)) (K Out.ret 45 [V.s s0, V.b false, V.undef, V.undef] h)
 (If ((↑s0.length : Int) == (1 : Int))
 (∃ (c : UInt8),
 ((0 : Int) ≤ (0 : Int) ∧ s0[Int.toNat (0 : Int)]? = some c) ∧
 ∃ (b : Bool),
 (PCon Tryz.Y (99 : Nat) [V.i IntKind.u8 (↑c.toNat : Int)] fun (v : V) => v = V.b b) ∧
 If b (K Out.ret 45 [V.s s0, V.b true, V.undef, V.undef] h)
 (∃ (c : UInt8),
 ((0 : Int) ≤ (0 : Int) ∧ s0[Int.toNat (0 : Int)]? = some c) ∧
 If (leI (48 : Int) (↑c.toNat : Int))
 (∃ (c : UInt8),
 ((0 : Int) ≤ (0 : Int) ∧ s0[Int.toNat (0 : Int)]? = some c) ∧
 K Out.ret 45 [V.s s0, V.b (leI (↑c.toNat : Int) (57 : Int)), V.undef, V.undef] h)
 (K Out.ret 45 [V.s s0, V.b false, V.undef, V.undef] h)))
 (∃ (c : UInt8),
 ((0 : Int) ≤ (0 : Int) ∧ s0[Int.toNat (0 : Int)]? = some c) ∧
 ∃ (b : Bool),
 (PCon Tryz.Y (99 : Nat) [V.i IntKind.u8 (↑c.toNat : Int)] fun (v : V) => v = V.b b) ∧
 If (!b) (K Out.ret 45 [V.s s0, V.b false, V.undef, V.undef] h)
 (K Out.normal 45
 [V.s s0, V.b false, V.i IntKind.i64 (↑s0.length : Int), V.i IntKind.i64 (0 : Int)] h))))) := by kernel_rfl
theorem f79_1 (s0 : List UInt8) (x36 : Int) (h : Heap) (K : Out → Nat → List V → Heap → Prop) : (codeP Tryz.Y (Tryz.Y.loc 79) 100 ((flat (loopB (post (flat (bodyOf Tryz.f79)))))) ⟨mk 45 (([0, 35, 36] : List Nat).zip [V.s s0, V.i IntKind.i64 (↑s0.length : Int), V.i IntKind.i64 x36]), [], h⟩ (VQ [0, 2, 35, 36] K)) =
  (If (ltI x36 (↑s0.length : Int))
  (∃ (c : UInt8),
 ((0 : Int) ≤ x36 ∧ s0[x36.toNat]? = some c) ∧
 ∃ (b : Bool),
 (PCon Tryz.Y (100 : Nat) [V.i IntKind.u8 (↑c.toNat : Int)] fun (v : V) => v = V.b b) ∧
 If (!b)
 (K Out.ret 45 [V.s s0, V.b false, V.i IntKind.i64 (↑s0.length : Int), V.i IntKind.i64 x36] h)
 (K Out.normal 45
 [V.s s0, V.undef, V.i IntKind.i64 (↑s0.length : Int),
 V.i IntKind.i64 (IntKind.i64.wrap (x36 + (1 : Int)))]
 h))
  (K (Out.exit 1) 45 [V.s s0, V.undef, V.i IntKind.i64 (↑s0.length : Int), V.i IntKind.i64 x36] h)) := by kernel_rfl
theorem f79_2  (h : Heap) (K : Out → Nat → List V → Heap → Prop) : (codeP Tryz.Y (Tryz.Y.loc 79) 100 (((post (flat (bodyOf Tryz.f79))).drop 1)) ⟨mk 45 (([] : List Nat).zip []), [], h⟩ (VQ [2] K)) =
  (K Out.ret 45 [V.b true] h) := by kernel_rfl
theorem f54_0 (x0 : Int) (b1 : Bool) (h : Heap) (K : Out → Nat → List V → Heap → Prop) : (codeP Tryz.Y (Tryz.Y.loc 54) 100 ((flat (bodyOf Tryz.f54))) ⟨(V.i IntKind.u8 x0 :: V.b b1 :: List.replicate 24 .undef), [], h⟩ (VQ [4] K)) =
  (If (leI (97 : Int) x0)
  (If (leI x0 (122 : Int)) (K Out.ret 26 [V.b true] h)
 (If b1
 (If (leI (48 : Int) x0)
 (If (leI x0 (57 : Int)) (K Out.ret 26 [V.b true] h)
 (K Out.ret 26 [V.b (x0 == (95 : Int))] h))
 (K Out.ret 26 [V.b (x0 == (95 : Int))] h))
 (K Out.ret 26 [V.b false] h)))
  (If b1
 (If (leI (48 : Int) x0)
 (If (leI x0 (57 : Int)) (K Out.ret 26 [V.b true] h) (K Out.ret 26 [V.b (x0 == (95 : Int))] h))
 (K Out.ret 26 [V.b (x0 == (95 : Int))] h))
 (K Out.ret 26 [V.b false] h))) := by kernel_rfl
theorem f99_0 (x0 : Int) (h : Heap) (K : Out → Nat → List V → Heap → Prop) : (codeP Tryz.Y (Tryz.Y.loc 99) 100 ((flat (bodyOf Tryz.f99))) ⟨(V.i IntKind.u8 x0 :: List.replicate 8 .undef), [], h⟩ (VQ [2] K)) =
  (If (leI (97 : Int) x0) (K Out.ret 9 [V.b (leI x0 (122 : Int))] h) (K Out.ret 9 [V.b false] h)) := by kernel_rfl
theorem f100_0 (x0 : Int) (h : Heap) (K : Out → Nat → List V → Heap → Prop) : (codeP Tryz.Y (Tryz.Y.loc 100) 100 ((flat (bodyOf Tryz.f100))) ⟨(V.i IntKind.u8 x0 :: List.replicate 16 .undef), [], h⟩ (VQ [2] K)) =
  (∃ (b : Bool),
  (PCon Tryz.Y (99 : Nat) [V.i IntKind.u8 x0] fun (v : V) => v = V.b b) ∧
 If b (K Out.ret 17 [V.b true] h)
 (If (leI (48 : Int) x0)
 (If (leI x0 (57 : Int)) (K Out.ret 17 [V.b true] h)
 (K Out.ret 17 [V.b (x0 == (95 : Int))] h))
 (K Out.ret 17 [V.b (x0 == (95 : Int))] h))) := by kernel_rfl
theorem f103_0 (x0Kind : Int) (s0Text : List UInt8) (x0Lo : Int) (x0Hi : Int) (x0To : Int) (h : Heap) (K : Out → Nat → List V → Heap → Prop) : (codeP Tryz.Y (Tryz.Y.loc 103) 100 ((flat (bodyOf Tryz.f103))) ⟨(V.agg [V.i IntKind.i64 x0Kind, V.s s0Text, V.i IntKind.i64 x0Lo, V.i IntKind.i64 x0Hi, V.i IntKind.i64 x0To] :: List.replicate 27 .undef), [], h⟩ (VQ [2] K)) =
  (If (leI (0 : Int) x0Lo)
  (If (leI x0Lo (9 : Int))
 (If (x0Hi == (-1 : Int)) (K Out.ret 28 [V.b true] h)
 (If (leI x0Lo x0Hi) (K Out.ret 28 [V.b (leI x0Hi (9 : Int))] h) (K Out.ret 28 [V.b false] h)))
 (K Out.ret 28 [V.b false] h))
  (K Out.ret 28 [V.b false] h)) := by kernel_rfl
end Go.Y
