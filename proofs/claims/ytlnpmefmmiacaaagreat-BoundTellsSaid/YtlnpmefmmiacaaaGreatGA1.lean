/- What the pieces of functions come to: printed by program. -/
import Derived.Test.YtlnpmefmmiacaaaGreatYTryzP
import Derived.Test.YtlnpmefmmiacaaaGreatYFun
namespace Go.Y
open Go.Proofs
set_option maxRecDepth 100000
set_option maxHeartbeats 0
theorem f117_0 (id : Nat) (h : Heap) (K : Out → Nat → List V → Heap → Prop) : (codeP Tryz.Y (Tryz.Y.loc 117) 100 ((flat (bodyOf Tryz.f117))) ⟨(V.p (some (id, 0)) :: List.replicate 32 .undef), [], h⟩ (VQ [2] K)) =
  (∃ (n : Int),
  hcells h id 1 1 = some [V.i IntKind.i64 n] ∧
 ∃ (s : List UInt8),
 hcells h id 0 1 = some [V.s s] ∧
 If (leI (↑s.length : Int) n)
 (∃ (h_1 : Heap), hstore h id 2 [V.b true] = some h_1 ∧ K Out.ret 33 [V.i IntKind.u8 0] h_1)
 (∃ (n : Int),
 hcells h id 1 1 = some [V.i IntKind.i64 n] ∧
 ∃ (h_1 : Heap),
 hstore h id 1 [V.i IntKind.i64 (IntKind.i64.wrap (n + 1))] = some h_1 ∧
 ∃ (s : List UInt8),
 hcells h_1 id 0 1 = some [V.s s] ∧
 ∃ (n : Int),
 hcells h_1 id 1 1 = some [V.i IntKind.i64 n] ∧
 ∃ (c : UInt8),
 (0 ≤ IntKind.i64.wrap (n - 1) ∧ s[(IntKind.i64.wrap (n - 1)).toNat]? = some c) ∧
 K Out.ret 33 [V.i IntKind.u8 (↑c.toNat : Int)] h_1)) := by kernel_rfl
theorem f123_0 (id : Nat) (c : Int) (h : Heap) (K : Out → Nat → List V → Heap → Prop) : (codeP Tryz.Y (Tryz.Y.loc 123) 100 ((flat (bodyOf Tryz.f123))) ⟨(V.p (some (id, 0)) :: V.i .u8 c :: List.replicate 26 .undef), [], h⟩ (VQ [4] K)) =
  (∃ (n : Int),
  hcells h id 1 1 = some [V.i IntKind.i64 n] ∧
 ∃ (s : List UInt8),
 hcells h id 0 1 = some [V.s s] ∧
 If (ltI n (↑s.length : Int))
 (∃ (s : List UInt8),
 hcells h id 0 1 = some [V.s s] ∧
 ∃ (n : Int),
 hcells h id 1 1 = some [V.i IntKind.i64 n] ∧
 ∃ (c_1 : UInt8), (0 ≤ n ∧ s[n.toNat]? = some c_1) ∧ K Out.ret 28 [V.b ((↑c_1.toNat : Int) == c)] h)
 (K Out.ret 28 [V.b false] h)) := by kernel_rfl
theorem f128_0 (id : Nat) (h : Heap) (K : Out → Nat → List V → Heap → Prop) : (codeP Tryz.Y (Tryz.Y.loc 128) 100 ((flat (bodyOf Tryz.f128))) ⟨(V.p (some (id, 0)) :: List.replicate 26 .undef), [], h⟩ (VQ [2] K)) =
  (∃ (b : Bool),
  (∃ (h1 : Heap),
 (Con Tryz.Y 123 [V.p (some (id, 0)), V.i IntKind.u8 93] h fun (v : V) (h' : Heap) => v = V.b b ∧ h' = h1) ∧
 (∀ (i : Nat), i < h.nx → h1.get i = h.get i) ∧ ∀ (p : Nat × TypeId), List.Mem p h.tg → List.Mem p h1.tg) ∧
 If b (∃ (h_1 : Heap), hstore h id 2 [V.b true] = some h_1 ∧ K Out.ret 27 [V.i IntKind.u8 0] h_1)
 (∃ (b : Bool),
 (∃ (h1 : Heap),
 (Con Tryz.Y 123 [V.p (some (id, 0)), V.i IntKind.u8 45] h fun (v : V) (h' : Heap) => v = V.b b ∧ h' = h1) ∧
 (∀ (i : Nat), i < h.nx → h1.get i = h.get i) ∧ ∀ (p : Nat × TypeId), List.Mem p h.tg → List.Mem p h1.tg) ∧
 If b (∃ (h_1 : Heap), hstore h id 2 [V.b true] = some h_1 ∧ K Out.ret 27 [V.i IntKind.u8 0] h_1)
 (Con Tryz.Y 117 [V.p (some (id, 0))] h fun (v : V) (h' : Heap) =>
 ∃ (n : Int),
 v = V.i IntKind.u8 n ∧
 If (n == 92)
 (∃ (b : Bool),
 hcells h' id 2 1 = some [V.b b] ∧
 If (!b)
 (Con Tryz.Y 117 [V.p (some (id, 0))] h' fun (v : V) (h' : Heap) =>
 ∃ (n : Int), v = V.i IntKind.u8 n ∧ K Out.ret 27 [V.i IntKind.u8 n] h')
 (K Out.ret 27 [V.i IntKind.u8 n] h'))
 (K Out.ret 27 [V.i IntKind.u8 n] h')))) := by kernel_rfl
theorem f124_0 (id : Nat) (h : Heap) (K : Out → Nat → List V → Heap → Prop) : (codeP Tryz.Y (Tryz.Y.loc 124) 100 ((flat (bodyOf Tryz.f124))) ⟨(V.p (some (id, 0)) :: List.replicate 52 .undef), [], h⟩ (VQ [2] K)) =
  (Con Tryz.Y 128 [V.p (some (id, 0))] h fun (v : V) (h' : Heap) =>
  ∃ (n : Int),
 v = V.i IntKind.u8 n ∧
 ∃ (b : Bool),
 hcells h' id 2 1 = some [V.b b] ∧
 If b (K Out.ret 53 [V.lb [V.i IntKind.u8 n, V.i IntKind.u8 n]] h')
 (∃ (b : Bool),
 (∃ (h1 : Heap),
 (Con Tryz.Y 123 [V.p (some (id, 0)), V.i IntKind.u8 45] h' fun (v : V) (h' : Heap) =>
 v = V.b b ∧ h' = h1) ∧
 (∀ (i : Nat), i < h'.nx → h1.get i = h'.get i) ∧
 ∀ (p : Nat × TypeId), List.Mem p h'.tg → List.Mem p h1.tg) ∧
 If (!b) (K Out.ret 53 [V.lb [V.i IntKind.u8 n, V.i IntKind.u8 n]] h')
 (∃ (n_1 : Int),
 hcells h' id 1 1 = some [V.i IntKind.i64 n_1] ∧
 ∃ (h : Heap),
 hstore h' id 1 [V.i IntKind.i64 (IntKind.i64.wrap (n_1 + 1))] = some h ∧
 Con Tryz.Y 128 [V.p (some (id, 0))] h fun (v : V) (h' : Heap) =>
 ∃ (n_2 : Int),
 v = V.i IntKind.u8 n_2 ∧
 ∃ (b : Bool),
 hcells h' id 2 1 = some [V.b b] ∧
 If (!b)
 (If (ltI n_2 n)
 (∃ (h : Heap),
 hstore h' id 2 [V.b true] = some h ∧
 ∃ (n_3 : Int),
 hcells h id 1 1 = some [V.i IntKind.i64 n_3] ∧
 ∃ (h_1 : Heap),
 hstore h id 1 [V.i IntKind.i64 (IntKind.i64.wrap (n_3 - 1))] =
 some h_1 ∧
 K Out.ret 53 [V.lb [V.i IntKind.u8 n, V.i IntKind.u8 n_2]] h_1)
 (K Out.ret 53 [V.lb [V.i IntKind.u8 n, V.i IntKind.u8 n_2]] h'))
 (K Out.ret 53 [V.lb [V.i IntKind.u8 n, V.i IntKind.u8 n_2]] h')))) := by kernel_rfl
theorem f118_0 (id : Nat) (h : Heap) (K : Out → Nat → List V → Heap → Prop) : (codeP Tryz.Y (Tryz.Y.loc 118) 100 (pre (flat (bodyOf Tryz.f118))) ⟨(V.p (some (id, 0)) :: List.replicate 28 .undef), [], h⟩ (VQ [0, 3] K)) =
  (K Out.normal 29 [V.p (some (id, 0)), V.sl none 0 (some 0) 0] h) := by kernel_rfl
theorem f118_1 (id : Nat) (a3 : Option (Nat × Nat)) (l3 : Nat) (c3 : Option Nat) (k3 : Nat) (h : Heap) (K : Out → Nat → List V → Heap → Prop) : (codeP Tryz.Y (Tryz.Y.loc 118) 100 ((flat (loopB (post (flat (bodyOf Tryz.f118)))))) ⟨mk 29 (([0, 3] : List Nat).zip [V.p (some (id, 0)), V.sl a3 l3 c3 k3]), [], h⟩ (VQ [0, 2, 3] K)) =
  (If ((↑l3 : Int) == 0)
  (Con Tryz.Y 124 [V.p (some (id, 0))] h fun (v : V) (h' : Heap) =>
 ∃ (n : Int),
 ∃ (n_1 : Int),
 v = V.agg [V.i IntKind.u8 n, V.i IntKind.u8 n_1] ∧
 ∃ (a : Option (Nat × Nat)),
 ∃ (l : Nat),
 ∃ (c : Option Nat),
 ∃ (k : Nat),
 ∃ (h : Heap),
 appendH Tryz.Y h' 142 142 (V.sl a3 l3 c3 k3) (V.ts [V.i IntKind.u8 n, V.i IntKind.u8 n_1] 1 (some 1)) =
 some (V.sl a l c k, h) ∧
 ∃ (b : Bool),
 hcells h id 2 1 = some [V.b b] ∧
 If b (K Out.ret 29 [V.p (some (id, 0)), V.sl none 0 (some 0) 0, V.sl a l c k] h)
 (K Out.normal 29 [V.p (some (id, 0)), V.undef, V.sl a l c k] h))
  (∃ (b : Bool),
 (∃ (h1 : Heap),
 (Con Tryz.Y 123 [V.p (some (id, 0)), V.i IntKind.u8 93] h fun (v : V) (h' : Heap) => v = V.b b ∧ h' = h1) ∧
 (∀ (i : Nat), i < h.nx → h1.get i = h.get i) ∧ ∀ (p : Nat × TypeId), List.Mem p h.tg → List.Mem p h1.tg) ∧
 If (!b)
 (Con Tryz.Y 124 [V.p (some (id, 0))] h fun (v : V) (h' : Heap) =>
 ∃ (n : Int),
 ∃ (n_1 : Int),
 v = V.agg [V.i IntKind.u8 n, V.i IntKind.u8 n_1] ∧
 ∃ (a : Option (Nat × Nat)),
 ∃ (l : Nat),
 ∃ (c : Option Nat),
 ∃ (k : Nat),
 ∃ (h : Heap),
 appendH Tryz.Y h' 142 142 (V.sl a3 l3 c3 k3)
 (V.ts [V.i IntKind.u8 n, V.i IntKind.u8 n_1] 1 (some 1)) =
 some (V.sl a l c k, h) ∧
 ∃ (b : Bool),
 hcells h id 2 1 = some [V.b b] ∧
 If b (K Out.ret 29 [V.p (some (id, 0)), V.sl none 0 (some 0) 0, V.sl a l c k] h)
 (K Out.normal 29 [V.p (some (id, 0)), V.undef, V.sl a l c k] h))
 (K (Out.exit 0) 29 [V.p (some (id, 0)), V.undef, V.sl a3 l3 c3 k3] h))) := by kernel_rfl
theorem f118_2 (id : Nat) (a3 : Option (Nat × Nat)) (l3 : Nat) (c3 : Option Nat) (k3 : Nat) (h : Heap) (K : Out → Nat → List V → Heap → Prop) : (codeP Tryz.Y (Tryz.Y.loc 118) 100 (((post (flat (bodyOf Tryz.f118))).drop 1)) ⟨mk 29 (([0, 3] : List Nat).zip [V.p (some (id, 0)), V.sl a3 l3 c3 k3]), [], h⟩ (VQ [2] K)) =
  (∃ (n : Int),
  hcells h id 1 1 = some [V.i IntKind.i64 n] ∧
 ∃ (h_1 : Heap),
 hstore h id 1 [V.i IntKind.i64 (IntKind.i64.wrap (n + 1))] = some h_1 ∧ K Out.ret 29 [V.sl a3 l3 c3 k3] h_1) := by kernel_rfl
theorem f110_0 (id : Nat) (h : Heap) (K : Out → Nat → List V → Heap → Prop) : (codeP Tryz.Y (Tryz.Y.loc 110) 100 ((flat (bodyOf Tryz.f110))) ⟨(V.p (some (id, 0)) :: List.replicate 24 .undef), [], h⟩ (VQ [2] K)) =
  (Con Tryz.Y 117 [V.p (some (id, 0))] h fun (v : V) (h' : Heap) =>
  ∃ (n : Int),
 v = V.i IntKind.u8 n ∧
 If (n == 42) (K Out.ret 25 [V.lb [V.i IntKind.i64 2, V.i IntKind.u8 0, V.sl none 0 (some 0) 0]] h')
 (If (n == 63) (K Out.ret 25 [V.lb [V.i IntKind.i64 1, V.i IntKind.u8 0, V.sl none 0 (some 0) 0]] h')
 (If (n == 91)
 (Con Tryz.Y 118 [V.p (some (id, 0))] h' fun (v : V) (h' : Heap) =>
 ∃ (cs : List V),
 ∃ (l : Nat),
 ∃ (c : Option Nat),
 v = V.ts cs l c ∧ K Out.ret 25 [V.lb [V.i IntKind.i64 3, V.i IntKind.u8 0, V.ts cs l c]] h')
 (If (n == 92)
 (Con Tryz.Y 117 [V.p (some (id, 0))] h' fun (v : V) (h' : Heap) =>
 ∃ (n : Int),
 v = V.i IntKind.u8 n ∧
 K Out.ret 25 [V.lb [V.i IntKind.i64 0, V.i IntKind.u8 n, V.sl none 0 (some 0) 0]] h')
 (K Out.ret 25 [V.lb [V.i IntKind.i64 0, V.i IntKind.u8 n, V.sl none 0 (some 0) 0]] h'))))) := by kernel_rfl
end Go.Y
