/- What the pieces of functions come to: printed by program. -/
import Derived.Test.YtdoanndgjipbmaaYTryP
import Derived.Test.YtdoanndgjipbmaaYFun
namespace Go.Y
open Go.Proofs
set_option maxRecDepth 100000
set_option maxHeartbeats 0
theorem f28_0 (id0 : Nat) (x1 : Int) (x2 : Int) (h : Heap) (K : Out → Nat → List V → Heap → Prop) : (codeP Try.Y (Try.Y.loc 28) 100 ((flat (bodyOf Try.f28))) ⟨(V.p (some (id0, 0)) :: V.i IntKind.i64 x1 :: V.i IntKind.i64 x2 :: List.replicate 33 .undef), [], h⟩ (VQ [] K)) =
  (∃ (a : Option (Nat × Nat)),
  ∃ (l : Nat),
 ∃ (c : Option Nat),
 ∃ (k : Nat),
 hcells h id0 1 1 = some [V.sl a l c k] ∧
 ∃ (a_1 : Option (Nat × Nat)),
 ∃ (l_1 : Nat),
 ∃ (c : Option Nat),
 ∃ (k_1 : Nat),
 hcells h id0 2 1 = some [V.sl a_1 l_1 c k_1] ∧
 SlO a False fun (id off : Nat) =>
 ((0 : Int) ≤ x1 ∧ x1 < (↑l : Int)) ∧
 k = 1 ∧
 ∃ (h_1 : Heap),
 hstore h id (off + x1.toNat * (1 : Nat)) [V.i IntKind.i64 x2] = some h_1 ∧
 SlO a_1 False fun (id off : Nat) =>
 ((0 : Int) ≤ x1 ∧ x1 < (↑l_1 : Int)) ∧
 k_1 = 1 ∧
 ∃ (h : Heap),
 hstore h_1 id (off + x1.toNat * (1 : Nat)) [V.i IntKind.i64 x2] = some h ∧
 ∃ (a : Option (Nat × Nat)),
 ∃ (l : Nat),
 ∃ (c : Option Nat),
 ∃ (k : Nat),
 hcells h id0 3 1 = some [V.sl a l c k] ∧
 ∃ (a_2 : Option (Nat × Nat)),
 ∃ (l_2 : Nat),
 ∃ (c_1 : Option Nat),
 ∃ (k_2 : Nat),
 ∃ (h_2 : Heap),
 appendH Try.Y h 26 26 (V.sl a l c k)
 (V.ts [V.i IntKind.i64 x1] 1
 (some 1)) =
 some (V.sl a_2 l_2 c_1 k_2, h_2) ∧
 ∃ (h : Heap),
 hstore h_2 id0 3 [V.sl a_2 l_2 c_1 k_2] =
 some h ∧
 ∃ (a : Option (Nat × Nat)),
 ∃ (l : Nat),
 ∃ (c : Option Nat),
 ∃ (k : Nat),
 hcells h id0 4 1 =
 some [V.sl a l c k] ∧
 SlO a False fun (id off : Nat) =>
 ((0 : Int) ≤ x1 ∧ x1 < (↑l : Int)) ∧
 k = 1 ∧
 ∃ (h_3 : Heap),
 hstore h id
 (off + x1.toNat * (1 : Nat))
 [V.b true] =
 some h_3 ∧
 K Out.normal 36 [] h_3) := by kernel_rfl
theorem f29_0 (id0 : Nat) (x1 : Int) (h : Heap) (K : Out → Nat → List V → Heap → Prop) : (codeP Try.Y (Try.Y.loc 29) 100 (pre (flat (bodyOf Try.f29))) ⟨(V.p (some (id0, 0)) :: V.i IntKind.i64 x1 :: List.replicate 55 .undef), [], h⟩ (VQ [0, 1] K)) =
  (K Out.normal 57 [V.p (some (id0, 0)), V.i IntKind.i64 x1] h) := by kernel_rfl
theorem f29_1 (id0 : Nat) (x1 : Int) (h : Heap) (K : Out → Nat → List V → Heap → Prop) : (codeP Try.Y (Try.Y.loc 29) 100 ((flat (loopB (post (flat (bodyOf Try.f29)))))) ⟨mk 57 (([0, 1] : List Nat).zip [V.p (some (id0, 0)), V.i IntKind.i64 x1]), [], h⟩ (VQ [0, 1] K)) =
  (∃ (a : Option (Nat × Nat)),
  ∃ (l : Nat),
 ∃ (c : Option Nat),
 ∃ (k : Nat),
 hcells h id0 3 1 = some [V.sl a l c k] ∧
 ∃ (a_1 : Option (Nat × Nat)),
 ∃ (l_1 : Nat),
 ∃ (c : Option Nat),
 ∃ (k_1 : Nat),
 hcells h id0 3 1 = some [V.sl a_1 l_1 c k_1] ∧
 SlO a False fun (id off : Nat) =>
 ((0 : Int) ≤ IntKind.i64.wrap ((↑l_1 : Int) - (1 : Int)) ∧
 IntKind.i64.wrap ((↑l_1 : Int) - (1 : Int)) < (↑l : Int)) ∧
 k = 1 ∧
 ∃ (n : Int),
 hcells h id (off + (IntKind.i64.wrap ((↑l_1 : Int) - (1 : Int))).toNat * (1 : Nat))
 1 =
 some [V.i IntKind.i64 n] ∧
 ∃ (a : Option (Nat × Nat)),
 ∃ (l : Nat),
 ∃ (c : Option Nat),
 ∃ (k : Nat),
 hcells h id0 3 1 = some [V.sl a l c k] ∧
 ∃ (a_2 : Option (Nat × Nat)),
 ∃ (l_2 : Nat),
 ∃ (c_1 : Option Nat),
 ∃ (k_2 : Nat),
 hcells h id0 3 1 = some [V.sl a_2 l_2 c_1 k_2] ∧
 SlO a
 (∃ (a' : Option (Nat × Nat)),
 ∃ (n' : Nat),
 ∃ (c' : Option Nat),
 ∃ (k' : Nat),
 sliceY Try.Y 26 (V.sl none l c k) none
 (some
 (V.i IntKind.i64
 (IntKind.i64.wrap ((↑l_2 : Int) - (1 : Int)))))
 none =
 some (V.sl a' n' c' k') ∧
 ∃ (h_1 : Heap),
 hstore h id0 3 [V.sl a' n' c' k'] = some h_1 ∧
 ∃ (a : Option (Nat × Nat)),
 ∃ (l : Nat),
 ∃ (c : Option Nat),
 ∃ (k : Nat),
 hcells h_1 id0 4 1 =
 some [V.sl a l c k] ∧
 SlO a False fun (id off : Nat) =>
 ((0 : Int) ≤ n ∧ n < (↑l : Int)) ∧
 k = 1 ∧
 ∃ (h : Heap),
 hstore h_1 id
 (off + n.toNat * (1 : Nat))
 [V.b false] =
 some h ∧
 ∃ (a : Option (Nat × Nat)),
 ∃ (l : Nat),
 ∃ (c : Option Nat),
 ∃ (k : Nat),
 hcells h id0 5
 1 =
 some [V.sl a l c k] ∧
 ∃ (n_1 : Int),
 hcells h id0
 6
 1 =
 some
 [V.i IntKind.i64
 n_1] ∧
 SlO a False
 fun
 (id off :
 Nat) =>
 ((0 : Int) ≤ n ∧
 n <
 (↑l :
 Int)) ∧
 k = 1 ∧
 ∃ (h_2 :
 Heap),
 hstore h id
 (off +
 n.toNat *
 (1 :
 Nat))
 [V.i
 IntKind.i64
 n_1] =
 some
 h_2 ∧
 If
 (n ==
 x1)
 (K
 (Out.exit
 0)
 57
 [V.p
 (some
 (id0,
 0)),
 V.i
 IntKind.i64
 x1]
 h_2)
 (K
 Out.normal
 57
 [V.p
 (some
 (id0,
 0)),
 V.i
 IntKind.i64
 x1]
 h_2))
 fun (id off : Nat) =>
 k = 1 ∧
 ((0 : Int) ≤ IntKind.i64.wrap ((↑l_2 : Int) - (1 : Int)) ∧
 IntKind.i64.wrap ((↑l_2 : Int) - (1 : Int)) ≤
 (↑(c.getD l) : Int)) ∧
 ∃ (h_1 : Heap),
 hstore h id0 3
 [V.sl (some (id, off + (0 : Nat) * k))
 ((IntKind.i64.wrap
 ((↑l_2 : Int) - (1 : Int))).toNat -
 (0 : Nat))
 (Option.map (fun (x : Nat) => x - (0 : Nat)) c) k] =
 some h_1 ∧
 ∃ (a : Option (Nat × Nat)),
 ∃ (l : Nat),
 ∃ (c : Option Nat),
 ∃ (k : Nat),
 hcells h_1 id0 4 1 =
 some [V.sl a l c k] ∧
 SlO a False fun (id off : Nat) =>
 ((0 : Int) ≤ n ∧ n < (↑l : Int)) ∧
 k = 1 ∧
 ∃ (h : Heap),
 hstore h_1 id (off + n.toNat * (1 : Nat))
 [V.b false] =
 some h ∧
 ∃ (a : Option (Nat × Nat)),
 ∃ (l : Nat),
 ∃ (c : Option Nat),
 ∃ (k : Nat),
 hcells h id0 5
 1 =
 some [V.sl a l c k] ∧
 ∃ (n_1 : Int),
 hcells h id0 6
 1 =
 some
 [V.i IntKind.i64
 n_1] ∧
 SlO a False
 fun (id off : Nat) =>
 ((0 : Int) ≤ n ∧
 n < (↑l : Int)) ∧
 k = 1 ∧
 ∃ (h_2 : Heap),
 hstore h id
 (off +
 n.toNat *
 (1 :
 Nat))
 [V.i
 IntKind.i64
 n_1] =
 some h_2 ∧
 If (n == x1)
 (K
 (Out.exit
 0)
 57
 [V.p
 (some
 (id0,
 0)),
 V.i
 IntKind.i64
 x1]
 h_2)
 (K Out.normal
 57
 [V.p
 (some
 (id0,
 0)),
 V.i
 IntKind.i64
 x1]
 h_2)) := by kernel_rfl
theorem f23_0 (id0 : Nat) (l0 : Nat) (c0 : Option Nat) (id1 : Nat) (h : Heap) (K : Out → Nat → List V → Heap → Prop) : (codeP Try.Y (Try.Y.loc 23) 100 (pre (flat (bodyOf Try.f23))) ⟨(V.sl (some (id0, 0)) l0 c0 1 :: V.fn (Fn.func 24) [] [V.p (some (id1, 0))] :: List.replicate 40 .undef), [], h⟩ (VQ [0, 1, 4, 5, 6] K)) =
  (Con Try.Y (27 : Nat)
  [V.sl (some (id0, 0)) l0 c0 1, V.fn (Fn.func 24) [] [V.p (some (id1, 0))]] h
  fun (v : V) (h' : Heap) =>
  ∃ (n : Int),
 v = V.i IntKind.i64 n ∧
 If (n == (-1 : Int))
 (K Out.ret 42
 [V.sl (some (id0, 0)) l0 c0 1,
 V.fn (Fn.func 24) [] [V.p (some (id1, 0))],
 V.sl (some (id0, 0)) l0 c0 1, V.i IntKind.i64 n, V.undef]
 h')
 (K Out.normal 42
 [V.sl (some (id0, 0)) l0 c0 1,
 V.fn (Fn.func 24) [] [V.p (some (id1, 0))],
 V.sl none 0 (some 0) 0, V.i IntKind.i64 n,
 V.i IntKind.i64 (IntKind.i64.wrap (n + (1 : Int)))]
 h')) := by kernel_rfl
theorem f23_1 (id0 : Nat) (l0 : Nat) (c0 : Option Nat) (id1 : Nat) (x5 : Int) (x6 : Int) (h : Heap) (K : Out → Nat → List V → Heap → Prop) : (codeP Try.Y (Try.Y.loc 23) 100 ((flat (loopB (post (flat (bodyOf Try.f23)))))) ⟨mk 42 (([0, 1, 5, 6] : List Nat).zip [V.sl (some (id0, 0)) l0 c0 1, V.fn (Fn.func 24) [] [V.p (some (id1, 0))], V.i IntKind.i64 x5, V.i IntKind.i64 x6]), [], h⟩ (VQ [0, 1, 5, 6] K)) =
  (If (ltI x6 (↑l0 : Int))
  (((0 : Int) ≤ x6 ∧ x6 < (↑l0 : Int)) ∧
 1 = 1 ∧
 ∃ (a : Option (Nat × Nat)),
 ∃ (l : Nat),
 ∃ (c : Option Nat),
 ∃ (k : Nat),
 hcells h id0 ((0 : Nat) + x6.toNat * (1 : Nat)) 1 = some [V.sl a l c k] ∧
 Con Try.Y 24 [V.sl a l c k, V.p (some (id1, 0))] h fun (v : V) (h' : Heap) =>
 ∃ (b : Bool),
 v = V.b b ∧
 If (!b)
 (((0 : Int) ≤ x5 ∧ x5 < (↑l0 : Int)) ∧
 1 = 1 ∧
 ∃ (h : Heap),
 hstore h' id0 ((0 : Nat) + x5.toNat * (1 : Nat)) [V.sl a l c k] = some h ∧
 K Out.normal 42
 [V.sl (some (id0, 0)) l0 c0 1,
 V.fn (Fn.func 24) [] [V.p (some (id1, 0))],
 V.i IntKind.i64 (IntKind.i64.wrap (x5 + (1 : Int))),
 V.i IntKind.i64 (IntKind.i64.wrap (x6 + (1 : Int)))]
 h)
 (K Out.normal 42
 [V.sl (some (id0, 0)) l0 c0 1,
 V.fn (Fn.func 24) [] [V.p (some (id1, 0))], V.i IntKind.i64 x5,
 V.i IntKind.i64 (IntKind.i64.wrap (x6 + (1 : Int)))]
 h'))
  (K (Out.exit 0) 42
 [V.sl (some (id0, 0)) l0 c0 1, V.fn (Fn.func 24) [] [V.p (some (id1, 0))],
 V.i IntKind.i64 x5, V.i IntKind.i64 x6]
 h)) := by kernel_rfl
theorem f23_2 (id0 : Nat) (l0 : Nat) (c0 : Option Nat) (x5 : Int) (h : Heap) (K : Out → Nat → List V → Heap → Prop) : (codeP Try.Y (Try.Y.loc 23) 100 (((post (flat (bodyOf Try.f23))).drop 1)) ⟨mk 42 (([0, 5] : List Nat).zip [V.sl (some (id0, 0)) l0 c0 1, V.i IntKind.i64 x5]), [], h⟩ (VQ [4] K)) =
  (1 = 1 ∧
  ((0 : Int) ≤ x5 ∧ x5 ≤ (↑l0 : Int)) ∧
 ∃ (h_1 : Heap),
 clearM Try.Y h 26
 (V.sl (some (id0, (0 : Nat) + x5.toNat * (1 : Nat))) (l0 - x5.toNat)
 (Option.map (fun (x : Nat) => x - x5.toNat) c0) 1) =
 some h_1 ∧
 1 = 1 ∧
 ((0 : Int) ≤ x5 ∧ x5 ≤ (↑(c0.getD l0) : Int)) ∧
 K Out.ret 42
 [V.sl (some (id0, 0)) (x5.toNat - (0 : Nat)) (Option.map (fun (x : Nat) => x - (0 : Nat)) c0)
 1]
 h_1) := by kernel_rfl
theorem f24_0 (id0 : Nat) (l0 : Nat) (c0 : Option Nat) (id1 : Nat) (h : Heap) (K : Out → Nat → List V → Heap → Prop) : (codeP Try.Y (Try.Y.loc 24) 100 ((flat (bodyOf Try.f24))) ⟨(V.sl (some (id0, 0)) l0 c0 1 :: V.p (some (id1, 0)) :: List.replicate 19 .undef), [], h⟩ (VQ [3] K)) =
  (If ((↑l0 : Int) == (1 : Int))
  (∃ (cs : List V),
 ∃ (l : Nat),
 ∃ (c : Option Nat),
 hcells h id1 0 1 = some [V.ts cs l c] ∧
 ((0 : Int) ≤ (0 : Int) ∧ (0 : Int) < (↑l0 : Int)) ∧
 1 = 1 ∧
 ∃ (n : Int),
 hcells h id0 0 1 = some [V.i IntKind.i64 n] ∧
 ((0 : Int) ≤ n ∧ n < (↑l : Int)) ∧
 ∃ (cs_1 : List V),
 ∃ (l : Nat),
 ∃ (c : Option Nat),
 takeX 1 (List.drop (n.toNat * (1 : Nat)) cs) = some [V.ts cs_1 l c] ∧
 ((0 : Int) ≤ (0 : Int) ∧ (0 : Int) < (↑l0 : Int)) ∧
 1 = 1 ∧
 ∃ (n : Int),
 hcells h id0 0 1 = some [V.i IntKind.i64 n] ∧
 ∃ (b : Bool),
 (PCon Try.Y (25 : Nat) [V.ts cs_1 l c, V.i IntKind.i64 n] fun (v : V) =>
 v = V.b b) ∧
 K Out.ret 21 [V.b !b] h)
  (K Out.ret 21 [V.b false] h)) := by kernel_rfl
theorem f27d_0 (id0 : Nat) (l0 : Nat) (c0 : Option Nat) (id1 : Nat) (h : Heap) (K : Out → Nat → List V → Heap → Prop) : (codeP Try.Y (Try.Y.loc 27) 100 (pre (flat (bodyOf Try.f27))) ⟨(V.sl (some (id0, 0)) l0 c0 1 :: V.fn (Fn.func 24) [] [V.p (some (id1, 0))] :: List.replicate 17 .undef), [], h⟩ (VQ [0, 1, 7, 8] K)) =
  (K Out.normal 19
  [V.sl (some (id0, 0)) l0 c0 1, V.fn (Fn.func 24) [] [V.p (some (id1, 0))],
 V.i IntKind.i64 (↑l0 : Int), V.i IntKind.i64 (0 : Int)]
  h) := by kernel_rfl
theorem f27d_1 (id0 : Nat) (l0 : Nat) (c0 : Option Nat) (id1 : Nat) (x8 : Int) (h : Heap) (K : Out → Nat → List V → Heap → Prop) : (codeP Try.Y (Try.Y.loc 27) 100 ((flat (loopB (post (flat (bodyOf Try.f27)))))) ⟨mk 19 (([0, 1, 7, 8] : List Nat).zip [V.sl (some (id0, 0)) l0 c0 1, V.fn (Fn.func 24) [] [V.p (some (id1, 0))], V.i IntKind.i64 (↑l0 : Int), V.i IntKind.i64 x8]), [], h⟩ (VQ [0, 1, 4, 7, 8] K)) =
  (If (ltI x8 (↑l0 : Int))
  (((0 : Int) ≤ x8 ∧ x8 < (↑l0 : Int)) ∧
 1 = 1 ∧
 ∃ (a : Option (Nat × Nat)),
 ∃ (l : Nat),
 ∃ (c : Option Nat),
 ∃ (k : Nat),
 hcells h id0 ((0 : Nat) + x8.toNat * (1 : Nat)) 1 = some [V.sl a l c k] ∧
 Con Try.Y 24 [V.sl a l c k, V.p (some (id1, 0))] h fun (v : V) (h' : Heap) =>
 ∃ (b : Bool),
 v = V.b b ∧
 If b
 (K Out.ret 19
 [V.sl (some (id0, 0)) l0 c0 1,
 V.fn (Fn.func 24) [] [V.p (some (id1, 0))], V.i IntKind.i64 x8,
 V.i IntKind.i64 (↑l0 : Int), V.i IntKind.i64 x8]
 h')
 (K Out.normal 19
 [V.sl (some (id0, 0)) l0 c0 1,
 V.fn (Fn.func 24) [] [V.p (some (id1, 0))], V.undef,
 V.i IntKind.i64 (↑l0 : Int), V.i IntKind.i64 (IntKind.i64.wrap (x8 + (1 : Int)))]
 h'))
  (K (Out.exit 0) 19
 [V.sl (some (id0, 0)) l0 c0 1, V.fn (Fn.func 24) [] [V.p (some (id1, 0))],
 V.undef, V.i IntKind.i64 (↑l0 : Int), V.i IntKind.i64 x8]
 h)) := by kernel_rfl
theorem f27d_2  (h : Heap) (K : Out → Nat → List V → Heap → Prop) : (codeP Try.Y (Try.Y.loc 27) 100 (((post (flat (bodyOf Try.f27))).drop 1)) ⟨mk 19 (([] : List Nat).zip []), [], h⟩ (VQ [4] K)) =
  (K Out.ret 19 [V.i IntKind.i64 (-1 : Int)] h) := by kernel_rfl
theorem f29_2 (id0 : Nat) (h : Heap) (K : Out → Nat → List V → Heap → Prop) : (codeP Try.Y (Try.Y.loc 29) 100 (((post (flat (bodyOf Try.f29))).drop 1)) ⟨mk 57 (([0] : List Nat).zip [V.p (some (id0, 0))]), [], h⟩ (VQ [] K)) =
  (∃ (n : Int),
  hcells h id0 6 1 = some [V.i IntKind.i64 n] ∧
 ∃ (h_1 : Heap),
 hstore h id0 6 [V.i IntKind.i64 (IntKind.i64.wrap (n + (1 : Int)))] = some h_1 ∧
 K Out.normal 57 [] h_1) := by kernel_rfl
end Go.Y
