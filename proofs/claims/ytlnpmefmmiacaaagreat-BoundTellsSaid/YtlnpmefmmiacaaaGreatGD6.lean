/- What the pieces of functions come to: printed by program. -/
import Derived.Test.YtlnpmefmmiacaaaGreatYTryzP
import Derived.Test.YtlnpmefmmiacaaaGreatYFun
namespace Go.Y
open Go.Proofs
set_option maxRecDepth 100000
set_option maxHeartbeats 0
theorem f57_0 (x0Cap : Int) (cs0Places : List V) (n0Places : Nat) (h : Heap) (K : Out → Nat → List V → Heap → Prop) : (codeP Tryz.Y (Tryz.Y.loc 57) 100 (pre (flat (bodyOf Tryz.f57))) ⟨(V.agg [V.i IntKind.i64 x0Cap, V.ts cs0Places n0Places none] :: List.replicate 59 .undef), [], h⟩ (VQ [1, 2, 10, 26, 27, 28] K)) =
  (∃ (n : Int),
  hcells (h.push (YObj.arr [V.i IntKind.i64 x0Cap, V.ts cs0Places n0Places none] true)) h.nx 0 1 =
 some [V.i IntKind.i64 n] ∧
 If (ltI n (1 : Int))
 (K Out.ret 60 [V.p (some (h.nx, 0)), V.b false, V.tup [], V.undef, V.undef, V.undef]
 (h.push (YObj.arr [V.i IntKind.i64 x0Cap, V.ts cs0Places n0Places none] true)))
 (∃ (n : Int),
 hcells (h.push (YObj.arr [V.i IntKind.i64 x0Cap, V.ts cs0Places n0Places none] true)) h.nx 0
 1 =
 some [V.i IntKind.i64 n] ∧
 If (ltI (16 : Int) n)
 (K Out.ret 60
 [V.p (some (h.nx, 0)), V.b false, V.i IntKind.i64 n, V.undef, V.undef, V.undef]
 (h.push (YObj.arr [V.i IntKind.i64 x0Cap, V.ts cs0Places n0Places none] true)))
 (∃ (cs : List V),
 ∃ (l : Nat),
 ∃ (c : Option Nat),
 hcells (h.push (YObj.arr [V.i IntKind.i64 x0Cap, V.ts cs0Places n0Places none] true)) h.nx 1
 1 =
 some [V.ts cs l c] ∧
 If (ltI (↑l : Int) (1 : Int))
 (K Out.ret 60
 [V.p (some (h.nx, 0)), V.b false, V.i IntKind.i64 n, V.undef, V.undef, V.undef]
 (h.push (YObj.arr [V.i IntKind.i64 x0Cap, V.ts cs0Places n0Places none] true)))
 (∃ (cs : List V),
 ∃ (l : Nat),
 ∃ (c : Option Nat),
 hcells (h.push (YObj.arr [V.i IntKind.i64 x0Cap, V.ts cs0Places n0Places none] true)) h.nx
 1 1 =
 some [V.ts cs l c] ∧
 If (ltI (16 : Int) (↑l : Int))
 (K Out.ret 60
 [V.p (some (h.nx, 0)), V.b false, V.i IntKind.i64 n, V.undef, V.undef,
 V.undef]
 (h.push (YObj.arr [V.i IntKind.i64 x0Cap, V.ts cs0Places n0Places none] true)))
 (∃ (cs : List V),
 ∃ (l : Nat),
 ∃ (c : Option Nat),
 hcells
 (h.push
 (YObj.arr [V.i IntKind.i64 x0Cap, V.ts cs0Places n0Places none] true))
 h.nx 1 1 =
 some [V.ts cs l c] ∧
 K Out.normal 60
 [V.p (some (h.nx, 0)), V.b false, V.i IntKind.i64 n, V.ts cs l c,
 V.i IntKind.i64 (↑l : Int), V.i IntKind.i64 (0 : Int)]
 (h.push
 (YObj.arr [V.i IntKind.i64 x0Cap, V.ts cs0Places n0Places none] true))))))) := by kernel_rfl
theorem f57_1 (id1 : Nat) (x10 : Int) (c26 : Option Nat) (cs26 : List V) (n26 : Nat) (x27 : Int) (x28 : Int) (h : Heap) (K : Out → Nat → List V → Heap → Prop) : (codeP Tryz.Y (Tryz.Y.loc 57) 100 ((flat (loopB (post (flat (bodyOf Tryz.f57)))))) ⟨mk 60 (([1, 10, 26, 27, 28] : List Nat).zip [V.p (some (id1, 0)), V.i IntKind.i64 x10, V.ts cs26 n26 c26, V.i IntKind.i64 x27, V.i IntKind.i64 x28]), [], h⟩ (VQ [1, 2, 10, 26, 27, 28] K)) =
  (If (ltI x28 x27)
  (((0 : Int) ≤ x28 ∧ x28 < (↑n26 : Int)) ∧
 ∃ (s : List UInt8),
 ∃ (b : Bool),
 ∃ (cs : List V),
 ∃ (l : Nat),
 ∃ (c : Option Nat),
 takeX 3 (List.drop (x28.toNat * (3 : Nat)) cs26) = some [V.s s, V.b b, V.ts cs l c] ∧
 ∃ (h_1 : Heap),
 hstore
 (h.pushT (Tryz.Y.tag (79 : Nat))
 (YObj.arr [V.s [], V.b false, V.sl none (0 : Nat) (some (0 : Nat)) (0 : Nat)] true))
 h.nx 0 [V.s s, V.b b, V.ts cs l c] =
 some h_1 ∧
 ∃ (s : List UInt8),
 hcells h_1 h.nx 0 1 = some [V.s s] ∧
 ∃ (b : Bool),
 (PCon Tryz.Y (79 : Nat) [V.s s] fun (v : V) => v = V.b b) ∧
 If (!b)
 (K Out.ret 60
 [V.p (some (id1, 0)), V.b false, V.i IntKind.i64 x10, V.ts cs26 n26 c26,
 V.i IntKind.i64 x27, V.i IntKind.i64 x28]
 h_1)
 (∃ (s : List UInt8),
 hcells h_1 h.nx 0 1 = some [V.s s] ∧
 ∃ (c : UInt8),
 ((0 : Int) ≤ (0 : Int) ∧ s[Int.toNat (0 : Int)]? = some c) ∧
 If (ltI (↑c.toNat : Int) (97 : Int))
 (K Out.ret 60
 [V.p (some (id1, 0)), V.b false, V.i IntKind.i64 x10,
 V.ts cs26 n26 c26, V.i IntKind.i64 x27, V.i IntKind.i64 x28]
 h_1)
 (∃ (cs : List V),
 ∃ (l : Nat),
 ∃ (c : Option Nat),
 hcells h_1 h.nx 2 1 = some [V.ts cs l c] ∧
 If (ltI (8 : Int) (↑l : Int))
 (K Out.ret 60
 [V.p (some (id1, 0)), V.b false, V.i IntKind.i64 x10,
 V.ts cs26 n26 c26, V.i IntKind.i64 x27, V.i IntKind.i64 x28]
 h_1)
 (∃ (cs : List V),
 ∃ (l : Nat),
 ∃ (c : Option Nat),
 hcells h_1 id1 1 1 = some [V.ts cs l c] ∧
 ((0 : Int) ≤ x28 ∧ x28 ≤ (↑l : Int)) ∧
 Con Tryz.Y (80 : Nat)
 [V.ts
 (List.take ((x28.toNat - (0 : Nat)) * (3 : Nat))
 (List.drop ((0 : Nat) * (3 : Nat)) cs))
 (x28.toNat - (0 : Nat))
 (Option.map (fun (x : Nat) => x - (0 : Nat)) c),
 V.fn (Fn.func (81 : Nat)) []
 [V.p (some (h.nx, 0))]]
 h_1 fun (v : V) (h' : Heap) =>
 ∃ (b : Bool),
 v = V.b b ∧
 If b
 (K Out.ret 60
 [V.p (some (id1, 0)), V.b false,
 V.i IntKind.i64 x10, V.ts cs26 n26 c26,
 V.i IntKind.i64 x27, V.i IntKind.i64 x28]
 h')
 (∃ (cs : List V),
 ∃ (l : Nat),
 ∃ (c : Option Nat),
 hcells h' h.nx 2 1 =
 some [V.ts cs l c] ∧
 Con Tryz.Y (82 : Nat)
 [V.ts cs l c,
 V.fn (Fn.func (83 : Nat)) []
 [V.p (some (id1, 0))]]
 h' fun (v : V) (h' : Heap) =>
 ∃ (b : Bool),
 v = V.b b ∧
 If b
 (K Out.ret 60
 [V.p (some (id1, 0)),
 V.b false, V.i IntKind.i64 x10,
 V.ts cs26 n26 c26,
 V.i IntKind.i64 x27,
 V.i IntKind.i64 x28]
 h')
 (K Out.normal 60
 [V.p (some (id1, 0)),
 V.undef, V.i IntKind.i64 x10,
 V.ts cs26 n26 c26,
 V.i IntKind.i64 x27,
 V.i IntKind.i64
 (IntKind.i64.wrap
 (x28 + (1 : Int)))]
 h'))))))
  (K (Out.exit 0) 60
 [V.p (some (id1, 0)), V.undef, V.i IntKind.i64 x10, V.ts cs26 n26 c26, V.i IntKind.i64 x27,
 V.i IntKind.i64 x28]
 h)) := by kernel_rfl
theorem f57_2  (h : Heap) (K : Out → Nat → List V → Heap → Prop) : (codeP Tryz.Y (Tryz.Y.loc 57) 100 (((post (flat (bodyOf Tryz.f57))).drop 1)) ⟨mk 60 (([] : List Nat).zip []), [], h⟩ (VQ [2] K)) =
  (K Out.ret 60 [V.b true] h) := by kernel_rfl
theorem f80_0 (cs0 : List V) (n0 : Nat) (id1 : Nat) (h : Heap) (K : Out → Nat → List V → Heap → Prop) : (codeP Tryz.Y (Tryz.Y.loc 80) 100 ((flat (bodyOf Tryz.f80))) ⟨(V.ts cs0 n0 none :: V.fn (Fn.func 81) [] [V.p (some (id1, 0))] :: List.replicate 7 .undef), [], h⟩ (VQ [4] K)) =
  (Con Tryz.Y (101 : Nat) [V.ts cs0 n0 none, V.fn (Fn.func 81) [] [V.p (some (id1, 0))]] h
  fun (v : V) (h' : Heap) => ∃ (n : Int), v = V.i IntKind.i64 n ∧ K Out.ret 9 [V.b (leI (0 : Int) n)] h') := by kernel_rfl
theorem f101_0 (cs0 : List V) (n0 : Nat) (id1 : Nat) (h : Heap) (K : Out → Nat → List V → Heap → Prop) : (codeP Tryz.Y (Tryz.Y.loc 101) 100 (pre (flat (bodyOf Tryz.f101))) ⟨(V.ts cs0 n0 none :: V.fn (Fn.func 81) [] [V.p (some (id1, 0))] :: List.replicate 17 .undef), [], h⟩ (VQ [0, 1, 7, 8] K)) =
  (K Out.normal 19
  [V.ts cs0 n0 none, V.fn (Fn.func 81) [] [V.p (some (id1, 0))], V.i IntKind.i64 (↑n0 : Int),
 V.i IntKind.i64 (0 : Int)]
  h) := by kernel_rfl
theorem f101_1 (cs0 : List V) (n0 : Nat) (id1 : Nat) (x8 : Int) (h : Heap) (K : Out → Nat → List V → Heap → Prop) : (codeP Tryz.Y (Tryz.Y.loc 101) 100 ((flat (loopB (post (flat (bodyOf Tryz.f101)))))) ⟨mk 19 (([0, 1, 7, 8] : List Nat).zip [V.ts cs0 n0 none, V.fn (Fn.func 81) [] [V.p (some (id1, 0))], V.i IntKind.i64 (↑n0 : Int), V.i IntKind.i64 x8]), [], h⟩ (VQ [0, 1, 4, 7, 8] K)) =
  (If (ltI x8 (↑n0 : Int))
  (((0 : Int) ≤ x8 ∧ x8 < (↑n0 : Int)) ∧
 ∃ (s : List UInt8),
 ∃ (b : Bool),
 ∃ (cs : List V),
 ∃ (l : Nat),
 ∃ (c : Option Nat),
 takeX 3 (List.drop (x8.toNat * (3 : Nat)) cs0) = some [V.s s, V.b b, V.ts cs l c] ∧
 ∃ (b_1 : Bool),
 RCon Tryz.Y 81 [V.agg [V.s s, V.b b, V.ts cs l c], V.p (some (id1, 0))] h
 (V.b b_1) ∧
 If b_1
 (K Out.ret 19
 [V.ts cs0 n0 none, V.fn (Fn.func 81) [] [V.p (some (id1, 0))],
 V.i IntKind.i64 x8, V.i IntKind.i64 (↑n0 : Int), V.i IntKind.i64 x8]
 h)
 (K Out.normal 19
 [V.ts cs0 n0 none, V.fn (Fn.func 81) [] [V.p (some (id1, 0))], V.undef,
 V.i IntKind.i64 (↑n0 : Int), V.i IntKind.i64 (IntKind.i64.wrap (x8 + (1 : Int)))]
 h))
  (K (Out.exit 0) 19
 [V.ts cs0 n0 none, V.fn (Fn.func 81) [] [V.p (some (id1, 0))], V.undef,
 V.i IntKind.i64 (↑n0 : Int), V.i IntKind.i64 x8]
 h)) := by kernel_rfl
theorem f101_2  (h : Heap) (K : Out → Nat → List V → Heap → Prop) : (codeP Tryz.Y (Tryz.Y.loc 101) 100 (((post (flat (bodyOf Tryz.f101))).drop 1)) ⟨mk 19 (([] : List Nat).zip []), [], h⟩ (VQ [4] K)) =
  (K Out.ret 19 [V.i IntKind.i64 (-1 : Int)] h) := by kernel_rfl
theorem f82_0 (cs0 : List V) (n0 : Nat) (id1 : Nat) (h : Heap) (K : Out → Nat → List V → Heap → Prop) : (codeP Tryz.Y (Tryz.Y.loc 82) 100 ((flat (bodyOf Tryz.f82))) ⟨(V.ts cs0 n0 none :: V.fn (Fn.func 83) [] [V.p (some (id1, 0))] :: List.replicate 7 .undef), [], h⟩ (VQ [4] K)) =
  (Con Tryz.Y (102 : Nat) [V.ts cs0 n0 none, V.fn (Fn.func 83) [] [V.p (some (id1, 0))]] h
  fun (v : V) (h' : Heap) => ∃ (n : Int), v = V.i IntKind.i64 n ∧ K Out.ret 9 [V.b (leI (0 : Int) n)] h') := by kernel_rfl
theorem f102_0 (cs0 : List V) (n0 : Nat) (id1 : Nat) (h : Heap) (K : Out → Nat → List V → Heap → Prop) : (codeP Tryz.Y (Tryz.Y.loc 102) 100 (pre (flat (bodyOf Tryz.f102))) ⟨(V.ts cs0 n0 none :: V.fn (Fn.func 83) [] [V.p (some (id1, 0))] :: List.replicate 17 .undef), [], h⟩ (VQ [0, 1, 7, 8] K)) =
  (K Out.normal 19
  [V.ts cs0 n0 none, V.fn (Fn.func 83) [] [V.p (some (id1, 0))], V.i IntKind.i64 (↑n0 : Int),
 V.i IntKind.i64 (0 : Int)]
  h) := by kernel_rfl
theorem f102_1 (cs0 : List V) (n0 : Nat) (id1 : Nat) (x8 : Int) (h : Heap) (K : Out → Nat → List V → Heap → Prop) : (codeP Tryz.Y (Tryz.Y.loc 102) 100 ((flat (loopB (post (flat (bodyOf Tryz.f102)))))) ⟨mk 19 (([0, 1, 7, 8] : List Nat).zip [V.ts cs0 n0 none, V.fn (Fn.func 83) [] [V.p (some (id1, 0))], V.i IntKind.i64 (↑n0 : Int), V.i IntKind.i64 x8]), [], h⟩ (VQ [0, 1, 4, 7, 8] K)) =
  (If (ltI x8 (↑n0 : Int))
  (((0 : Int) ≤ x8 ∧ x8 < (↑n0 : Int)) ∧
 ∃ (n : Int),
 ∃ (s : List UInt8),
 ∃ (n_1 : Int),
 ∃ (n_2 : Int),
 ∃ (n_3 : Int),
 takeX 5 (List.drop (x8.toNat * (5 : Nat)) cs0) =
 some [V.i IntKind.i64 n, V.s s, V.i IntKind.i64 n_1, V.i IntKind.i64 n_2, V.i IntKind.i64 n_3] ∧
 Con Tryz.Y 83
 [V.agg [V.i IntKind.i64 n, V.s s, V.i IntKind.i64 n_1, V.i IntKind.i64 n_2, V.i IntKind.i64 n_3],
 V.p (some (id1, 0))]
 h fun (v : V) (h' : Heap) =>
 ∃ (b : Bool),
 v = V.b b ∧
 If b
 (K Out.ret 19
 [V.ts cs0 n0 none, V.fn (Fn.func 83) [] [V.p (some (id1, 0))],
 V.i IntKind.i64 x8, V.i IntKind.i64 (↑n0 : Int), V.i IntKind.i64 x8]
 h')
 (K Out.normal 19
 [V.ts cs0 n0 none, V.fn (Fn.func 83) [] [V.p (some (id1, 0))], V.undef,
 V.i IntKind.i64 (↑n0 : Int), V.i IntKind.i64 (IntKind.i64.wrap (x8 + (1 : Int)))]
 h'))
  (K (Out.exit 0) 19
 [V.ts cs0 n0 none, V.fn (Fn.func 83) [] [V.p (some (id1, 0))], V.undef,
 V.i IntKind.i64 (↑n0 : Int), V.i IntKind.i64 x8]
 h)) := by kernel_rfl
theorem f102_2  (h : Heap) (K : Out → Nat → List V → Heap → Prop) : (codeP Tryz.Y (Tryz.Y.loc 102) 100 (((post (flat (bodyOf Tryz.f102))).drop 1)) ⟨mk 19 (([] : List Nat).zip []), [], h⟩ (VQ [4] K)) =
  (K Out.ret 19 [V.i IntKind.i64 (-1 : Int)] h) := by kernel_rfl
theorem f81_0 (s0Name : List UInt8) (b0Echo : Bool) (cs0Edges : List V) (n0Edges : Nat) (id1 : Nat) (h : Heap) (K : Out → Nat → List V → Heap → Prop) : (codeP Tryz.Y (Tryz.Y.loc 81) 100 ((flat (bodyOf Tryz.f81))) ⟨(V.agg [V.s s0Name, V.b b0Echo, V.ts cs0Edges n0Edges none] :: V.p (some (id1, 0)) :: List.replicate 7 .undef), [], h⟩ (VQ [3] K)) =
  (∃ (s : List UInt8), hcells h id1 0 1 = some [V.s s] ∧ K Out.ret 9 [V.b (s0Name == s)] h) := by kernel_rfl
theorem f83_0 (x0Kind : Int) (s0Text : List UInt8) (x0Lo : Int) (x0Hi : Int) (x0To : Int) (id1 : Nat) (h : Heap) (K : Out → Nat → List V → Heap → Prop) : (codeP Tryz.Y (Tryz.Y.loc 83) 100 ((flat (bodyOf Tryz.f83))) ⟨(V.agg [V.i IntKind.i64 x0Kind, V.s s0Text, V.i IntKind.i64 x0Lo, V.i IntKind.i64 x0Hi, V.i IntKind.i64 x0To] :: V.p (some (id1, 0)) :: List.replicate 6 .undef), [], h⟩ (VQ [3] K)) =
  (∃ (n : Int),
  ∃ (cs : List V),
 ∃ (l : Nat),
 ∃ (c : Option Nat),
 hcells h id1 0 2 = some [V.i IntKind.i64 n, V.ts cs l c] ∧
 ∃ (b : Bool),
 (PCon Tryz.Y (84 : Nat)
 [V.agg
 [V.i IntKind.i64 x0Kind, V.s s0Text, V.i IntKind.i64 x0Lo, V.i IntKind.i64 x0Hi,
 V.i IntKind.i64 x0To],
 V.agg [V.i IntKind.i64 n, V.ts cs l c]]
 fun (v : V) => v = V.b b) ∧
 K Out.ret 8 [V.b !b] h) := by kernel_rfl
end Go.Y
