/- What the pieces of functions come to: printed by program. -/
import Derived.Test.YtdoanndgjipbmaaYTryP
import Derived.Test.YtdoanndgjipbmaaYFun
namespace Go.Y
open Go.Proofs
set_option maxRecDepth 100000
set_option maxHeartbeats 0
theorem f10_0 (cs0Next : List V) (n0Next : Nat) (h : Heap) (K : Out → Nat → List V → Heap → Prop) : (codeP Try.Y (Try.Y.loc 10) 100 (pre (flat (bodyOf Try.f10))) ⟨(V.agg [V.ts cs0Next n0Next none] :: List.replicate 82 .undef), [], h⟩ (VQ [2, 4, 5, 29, 30] K)) =
  (∃ (b : Bool),
  (PCon Try.Y (7 : Nat) [V.agg [V.ts cs0Next n0Next none]] fun (v : V) => v = V.b b) ∧
 If (!b)
 (K Out.ret 83 [V.sl none 0 (some 0) 0, V.undef, V.undef, V.undef, V.undef]
 h)
 (((0 : Int) ≤ (↑n0Next : Int) ∧
 (↑n0Next : Int) ≤ (↑n0Next : Int) ∧
 (↑n0Next : Int) ≤ (↑most : Int) ∧ (↑n0Next : Int) * (↑(8 : Nat) : Int) ≤ (↑most : Int)) ∧
 ((0 : Int) ≤ (↑n0Next : Int) ∧
 (↑n0Next : Int) ≤ (↑n0Next : Int) ∧
 (↑n0Next : Int) ≤ (↑most : Int) ∧ (↑n0Next : Int) * (↑(8 : Nat) : Int) ≤ (↑most : Int)) ∧
 ((0 : Int) ≤ (↑n0Next : Int) ∧
 (↑n0Next : Int) ≤ (↑n0Next : Int) ∧
 (↑n0Next : Int) ≤ (↑most : Int) ∧ (↑n0Next : Int) * (↑(1 : Nat) : Int) ≤ (↑most : Int)) ∧
 ((0 : Int) ≤ (↑n0Next : Int) ∧
 (↑n0Next : Int) ≤ (↑n0Next : Int) ∧
 (↑n0Next : Int) ≤ (↑most : Int) ∧ (↑n0Next : Int) * (↑(8 : Nat) : Int) ≤ (↑most : Int)) ∧
 K Out.normal 83
 [V.sl none 0 (some 0) 0,
 V.p (some (h.nx + (1 : Nat) + (1 : Nat) + (1 : Nat) + (1 : Nat), 0)),
 V.i IntKind.i64 (1 : Int), V.i IntKind.i64 (↑n0Next : Int), V.i IntKind.i64 (0 : Int)]
 (((((h.push
 (YObj.arr (List.replicate (↑n0Next : Int).toNat [V.i IntKind.i64 (0 : Int)]).flatten
 true)).push
 (YObj.arr (List.replicate (↑n0Next : Int).toNat [V.i IntKind.i64 (0 : Int)]).flatten
 true)).push
 (YObj.arr (List.replicate (↑n0Next : Int).toNat [V.b false]).flatten true)).push
 (YObj.arr (List.replicate (↑n0Next : Int).toNat [V.i IntKind.i64 (0 : Int)]).flatten true)).push
 (YObj.arr
 [V.ts cs0Next n0Next none,
 V.sl (some (h.nx, 0)) (↑n0Next : Int).toNat (some (↑n0Next : Int).toNat) 1,
 V.sl (some (h.nx + (1 : Nat), 0)) (↑n0Next : Int).toNat (some (↑n0Next : Int).toNat)
 1,
 V.sl none 0 (some 0) 0,
 V.sl (some (h.nx + (1 : Nat) + (1 : Nat), 0)) (↑n0Next : Int).toNat
 (some (↑n0Next : Int).toNat) 1,
 V.sl (some (h.nx + (1 : Nat) + (1 : Nat) + (1 : Nat), 0)) (↑n0Next : Int).toNat
 (some (↑n0Next : Int).toNat) 1,
 V.i IntKind.i64 (0 : Int)]
 true)))) := by kernel_rfl
theorem f10_1 (n0Next : Nat) (id4 : Nat) (x5 : Int) (x30 : Int) (h : Heap) (K : Out → Nat → List V → Heap → Prop) : (codeP Try.Y (Try.Y.loc 10) 100 ((flat (loopB (post (flat (bodyOf Try.f10)))))) ⟨mk 83 (([4, 5, 29, 30] : List Nat).zip [V.p (some (id4, 0)), V.i IntKind.i64 x5, V.i IntKind.i64 (↑n0Next : Int), V.i IntKind.i64 x30]), [], h⟩ (VQ [4, 5, 29, 30] K)) =
  (If (ltI x30 (↑n0Next : Int))
  (∃ (a : Option (Nat × Nat)),
 ∃ (l : Nat),
 ∃ (c : Option Nat),
 ∃ (k : Nat),
 hcells h id4 1 1 = some [V.sl a l c k] ∧
 SlO a False fun (id off : Nat) =>
 ((0 : Int) ≤ x30 ∧ x30 < (↑l : Int)) ∧
 k = 1 ∧
 ∃ (n : Int),
 hcells h id (off + x30.toNat * (1 : Nat)) 1 = some [V.i IntKind.i64 n] ∧
 If (n == (0 : Int))
 (Con Try.Y (21 : Nat) [V.p (some (id4, 0)), V.i IntKind.i64 x30, V.i IntKind.i64 x5] h
 fun (v : V) (h' : Heap) =>
 ∃ (n : Int),
 v = V.i IntKind.i64 n ∧
 K Out.normal 83
 [V.p (some (id4, 0)), V.i IntKind.i64 n, V.i IntKind.i64 (↑n0Next : Int),
 V.i IntKind.i64 (IntKind.i64.wrap (x30 + (1 : Int)))]
 h')
 (K Out.normal 83
 [V.p (some (id4, 0)), V.i IntKind.i64 x5, V.i IntKind.i64 (↑n0Next : Int),
 V.i IntKind.i64 (IntKind.i64.wrap (x30 + (1 : Int)))]
 h))
  (K (Out.exit 0) 83
 [V.p (some (id4, 0)), V.i IntKind.i64 x5, V.i IntKind.i64 (↑n0Next : Int), V.i IntKind.i64 x30] h)) := by kernel_rfl
theorem f10_2 (id4 : Nat) (h : Heap) (K : Out → Nat → List V → Heap → Prop) : (codeP Try.Y (Try.Y.loc 10) 100 (pre ((post (flat (bodyOf Try.f10))).drop 1)) ⟨mk 83 (([4] : List Nat).zip [V.p (some (id4, 0))]), [], h⟩ (VQ [4, 7, 50, 51, 52] K)) =
  (∃ (a : Option (Nat × Nat)),
  ∃ (l : Nat),
 ∃ (c : Option Nat),
 ∃ (k : Nat),
 hcells (h.push (YObj.map [])) id4 5 1 = some [V.sl a l c k] ∧
 K Out.normal 83
 [V.p (some (id4, 0)), V.mp (some h.nx), V.sl a l c k, V.i IntKind.i64 (↑l : Int),
 V.i IntKind.i64 (0 : Int)]
 (h.push (YObj.map []))) := by kernel_rfl
theorem f10_3 (id4 : Nat) (l50 : Nat) (c50 : Option Nat) (x51 : Int) (r7 : Nat) (id50 : Nat) (x52 : Int) (h : Heap) (K : Out → Nat → List V → Heap → Prop) : (codeP Try.Y (Try.Y.loc 10) 100 ((flat (loopB (post ((post (flat (bodyOf Try.f10))).drop 1))))) ⟨mk 83 (([4, 7, 50, 51, 52] : List Nat).zip [V.p (some (id4, 0)), V.mp (some r7), V.sl (some (id50, 0)) l50 c50 1, V.i IntKind.i64 x51, V.i IntKind.i64 x52]), [], h⟩ (VQ [4, 7, 50, 51, 52] K)) =
  (If (ltI x52 x51)
  (((0 : Int) ≤ x52 ∧ x52 < (↑l50 : Int)) ∧
 1 = 1 ∧
 ∃ (n : Int),
 hcells h id50 ((0 : Nat) + x52.toNat * (1 : Nat)) 1 = some [V.i IntKind.i64 n] ∧
 ∃ (n_1 : Int),
 ∃ (b : Bool),
 lookM Try.Y h 3 3 (some r7) (V.i IntKind.i64 n) = some (V.i IntKind.i64 n_1, b) ∧
 If (!b)
 (∃ (n_2 : Nat),
 lenM h (some r7) = some n_2 ∧
 ∃ (h_1 : Heap),
 updM Try.Y h 3 (some r7) (V.i IntKind.i64 n) (V.i IntKind.i64 (↑n_2 : Int)) =
 some h_1 ∧
 ∃ (a : Option (Nat × Nat)),
 ∃ (l : Nat),
 ∃ (c : Option Nat),
 ∃ (k : Nat),
 hcells h_1 id4 5 1 = some [V.sl a l c k] ∧
 ∃ (n_3 : Int),
 ∃ (b : Bool),
 lookM Try.Y h_1 3 3 (some r7) (V.i IntKind.i64 n) =
 some (V.i IntKind.i64 n_3, b) ∧
 SlO a False fun (id off : Nat) =>
 ((0 : Int) ≤ x52 ∧ x52 < (↑l : Int)) ∧
 k = 1 ∧
 ∃ (h : Heap),
 hstore h_1 id (off + x52.toNat * (1 : Nat)) [V.i IntKind.i64 n_3] =
 some h ∧
 K Out.normal 83
 [V.p (some (id4, 0)), V.mp (some r7),
 V.sl (some (id50, 0)) l50 c50 1,
 V.i IntKind.i64 x51,
 V.i IntKind.i64 (IntKind.i64.wrap (x52 + (1 : Int)))]
 h)
 (∃ (a : Option (Nat × Nat)),
 ∃ (l : Nat),
 ∃ (c : Option Nat),
 ∃ (k : Nat),
 hcells h id4 5 1 = some [V.sl a l c k] ∧
 ∃ (n_2 : Int),
 ∃ (b : Bool),
 lookM Try.Y h 3 3 (some r7) (V.i IntKind.i64 n) =
 some (V.i IntKind.i64 n_2, b) ∧
 SlO a False fun (id off : Nat) =>
 ((0 : Int) ≤ x52 ∧ x52 < (↑l : Int)) ∧
 k = 1 ∧
 ∃ (h_1 : Heap),
 hstore h id (off + x52.toNat * (1 : Nat)) [V.i IntKind.i64 n_2] = some h_1 ∧
 K Out.normal 83
 [V.p (some (id4, 0)), V.mp (some r7),
 V.sl (some (id50, 0)) l50 c50 1, V.i IntKind.i64 x51,
 V.i IntKind.i64 (IntKind.i64.wrap (x52 + (1 : Int)))]
 h_1))
  (K (Out.exit 2) 83
 [V.p (some (id4, 0)), V.mp (some r7), V.sl (some (id50, 0)) l50 c50 1,
 V.i IntKind.i64 x51, V.i IntKind.i64 x52]
 h)) := by kernel_rfl
theorem f10_4 (id4 : Nat) (h : Heap) (K : Out → Nat → List V → Heap → Prop) : (codeP Try.Y (Try.Y.loc 10) 100 (((post ((post (flat (bodyOf Try.f10))).drop 1)).drop 1)) ⟨mk 83 (([4] : List Nat).zip [V.p (some (id4, 0))]), [], h⟩ (VQ [2] K)) =
  (∃ (a : Option (Nat × Nat)),
  ∃ (l : Nat),
 ∃ (c : Option Nat),
 ∃ (k : Nat), hcells h id4 5 1 = some [V.sl a l c k] ∧ K Out.ret 83 [V.sl a l c k] h) := by kernel_rfl
theorem f21_0 (id0 : Nat) (x1 : Int) (x2 : Int) (h : Heap) (K : Out → Nat → List V → Heap → Prop) : (codeP Try.Y (Try.Y.loc 21) 100 (pre (flat (bodyOf Try.f21))) ⟨(V.p (some (id0, 0)) :: V.i IntKind.i64 x1 :: V.i IntKind.i64 x2 :: List.replicate 181 .undef), [], h⟩ (VQ [0, 2, 7] K)) =
  (Con Try.Y (28 : Nat) [V.p (some (id0, 0)), V.i IntKind.i64 x1, V.i IntKind.i64 x2] h fun (v : V) (h' : Heap) =>
  v = V.tup [] ∧
 K Out.normal 184
 [V.p (some (id0, 0)), V.i IntKind.i64 (IntKind.i64.wrap (x2 + (1 : Int))),
 V.sl (some (h'.nx, 0)) 1 (some 1) 2]
 (h'.push (YObj.arr [V.i IntKind.i64 x1, V.i IntKind.i64 (0 : Int)] true))) := by kernel_rfl
theorem f21_1 (id0 : Nat) (x2 : Int) (id7 : Nat) (l7 : Nat) (c7 : Option Nat) (h : Heap) (K : Out → Nat → List V → Heap → Prop) : (codeP Try.Y (Try.Y.loc 21) 100 (pre (flat (loopB (post (flat (bodyOf Try.f21)))))) ⟨mk 184 (([0, 2, 7] : List Nat).zip [V.p (some (id0, 0)), V.i IntKind.i64 x2, V.sl (some (id7, 0)) l7 c7 2]), [], h⟩ (VQ [0, 2, 7] K)) =
  (If (ltI (0 : Int) (↑l7 : Int))
  (K Out.normal 184
 [V.p (some (id0, 0)), V.i IntKind.i64 x2, V.sl (some (id7, 0)) l7 c7 2] h)
  (K (Out.exit 0) 184
 [V.p (some (id0, 0)), V.i IntKind.i64 x2, V.sl (some (id7, 0)) l7 c7 2] h)) := by kernel_rfl
theorem f21_2 (id0 : Nat) (x2 : Int) (id7 : Nat) (l7 : Nat) (c7 : Option Nat) (h : Heap) (K : Out → Nat → List V → Heap → Prop) : (codeP Try.Y (Try.Y.loc 21) 100 (pre (flat (blockB (post (flat (loopB (post (flat (bodyOf Try.f21))))))))) ⟨mk 184 (([0, 2, 7] : List Nat).zip [V.p (some (id0, 0)), V.i IntKind.i64 x2, V.sl (some (id7, 0)) l7 c7 2]), [], h⟩ (VQ [0, 2, 7, 8] K)) =
  (((0 : Int) ≤ IntKind.i64.wrap ((↑l7 : Int) - (1 : Int)) ∧ IntKind.i64.wrap ((↑l7 : Int) - (1 : Int)) < (↑l7 : Int)) ∧
  2 = 2 ∧
 K Out.normal 184
 [V.p (some (id0, 0)), V.i IntKind.i64 x2, V.sl (some (id7, 0)) l7 c7 2,
 V.p (some (id7, (0 : Nat) + (IntKind.i64.wrap ((↑l7 : Int) - (1 : Int))).toNat * (2 : Nat)))]
 h) := by kernel_rfl
theorem f21_3 (id0 : Nat) (x2 : Int) (id7 : Nat) (l7 : Nat) (c7 : Option Nat) (id8 : Nat) (o8 : Nat) (h : Heap) (K : Out → Nat → List V → Heap → Prop) : (codeP Try.Y (Try.Y.loc 21) 100 ((flat (loopB (post (flat (blockB (post (flat (loopB (post (flat (bodyOf Try.f21)))))))))))) ⟨mk 184 (([0, 2, 7, 8] : List Nat).zip [V.p (some (id0, 0)), V.i IntKind.i64 x2, V.sl (some (id7, 0)) l7 c7 2, V.p (some (id8, o8))]), [], h⟩ (VQ [0, 2, 7, 8] K)) =
  (∃ (n : Int),
  hcells h id8 (o8 + (1 : Nat)) 1 = some [V.i IntKind.i64 n] ∧
 ∃ (cs : List V),
 ∃ (l : Nat),
 ∃ (c : Option Nat),
 hcells h id0 0 1 = some [V.ts cs l c] ∧
 ∃ (n_1 : Int),
 hcells h id8 (o8 + (0 : Nat)) 1 = some [V.i IntKind.i64 n_1] ∧
 ((0 : Int) ≤ n_1 ∧ n_1 < (↑l : Int)) ∧
 ∃ (cs_1 : List V),
 ∃ (l : Nat),
 ∃ (c : Option Nat),
 takeX 1 (List.drop (n_1.toNat * (1 : Nat)) cs) = some [V.ts cs_1 l c] ∧
 If (ltI n (↑l : Int))
 (∃ (cs : List V),
 ∃ (l : Nat),
 ∃ (c : Option Nat),
 hcells h id0 0 1 = some [V.ts cs l c] ∧
 ∃ (n : Int),
 hcells h id8 (o8 + (0 : Nat)) 1 = some [V.i IntKind.i64 n] ∧
 ((0 : Int) ≤ n ∧ n < (↑l : Int)) ∧
 ∃ (cs_2 : List V),
 ∃ (l : Nat),
 ∃ (c : Option Nat),
 takeX 1 (List.drop (n.toNat * (1 : Nat)) cs) =
 some [V.ts cs_2 l c] ∧
 ∃ (n : Int),
 hcells h id8 (o8 + (1 : Nat)) 1 =
 some [V.i IntKind.i64 n] ∧
 ((0 : Int) ≤ n ∧ n < (↑l : Int)) ∧
 ∃ (n_2 : Int),
 takeX 1 (List.drop (n.toNat * (1 : Nat)) cs_2) =
 some [V.i IntKind.i64 n_2] ∧
 ∃ (n : Int),
 hcells h id8 (o8 + (1 : Nat)) 1 =
 some [V.i IntKind.i64 n] ∧
 ∃ (h_1 : Heap),
 hstore h id8 (o8 + (1 : Nat))
 [V.i IntKind.i64
 (IntKind.i64.wrap (n + (1 : Int)))] =
 some h_1 ∧
 ∃ (a : Option (Nat × Nat)),
 ∃ (l : Nat),
 ∃ (c : Option Nat),
 ∃ (k : Nat),
 hcells h_1 id0 1 1 =
 some [V.sl a l c k] ∧
 SlO a False fun (id off : Nat) =>
 ((0 : Int) ≤ n_2 ∧ n_2 < (↑l : Int)) ∧
 k = 1 ∧
 ∃ (n : Int),
 hcells h_1 id
 (off +
 n_2.toNat * (1 : Nat))
 1 =
 some [V.i IntKind.i64 n] ∧
 If (n == (0 : Int))
 (Con Try.Y (28 : Nat)
 [V.p
 (some (id0, 0)),
 V.i IntKind.i64 n_2,
 V.i IntKind.i64 x2]
 h_1
 fun (v : V) (h' : Heap) =>
 v = V.tup [] ∧
 ∃ (a :
 Option (Nat × Nat)),
 ∃ (l : Nat),
 ∃ (c : Option Nat),
 ∃ (k : Nat),
 ∃ (h : Heap),
 appendH Try.Y h'
 51
 51
 (V.sl
 (some
 (id7,
 0))
 l7 c7
 2)
 (V.ts
 [V.i
 IntKind.i64
 n_2,
 V.i
 IntKind.i64
 (0 :
 Int)]
 1
 (some
 1)) =
 some
 (V.sl a l
 c k,
 h) ∧
 K
 (Out.exit
 1)
 184
 [V.p
 (some
 (id0,
 0)),
 V.i
 IntKind.i64
 (IntKind.i64.wrap
 (x2 +
 (1 :
 Int))),
 V.sl a l c
 k,
 V.p
 (some
 (id8,
 o8))]
 h)
 (∃ (a : Option (Nat × Nat)),
 ∃ (l : Nat),
 ∃ (c : Option Nat),
 ∃ (k : Nat),
 hcells h_1 id0
 4
 1 =
 some
 [V.sl a l c k] ∧
 SlO a False
 fun
 (id off :
 Nat) =>
 ((0 : Int) ≤ n_2 ∧
 n_2 <
 (↑l :
 Int)) ∧
 k = 1 ∧
 ∃ (b : Bool),
 hcells h_1
 id
 (off +
 n_2.toNat *
 (1 :
 Nat))
 1 =
 some
 [V.b
 b] ∧
 If b
 (∃ (a :
 Option
 (Nat ×
 Nat)),
 ∃ (l :
 Nat),
 ∃ (c
 :
 Option
 Nat),
 ∃
 (k
 :
 Nat),
 hcells
 h_1
 id0
 2
 1 =
 some
 [V.sl
 a
 l
 c
 k] ∧
 ∃
 (n
 :
 Int),
 hcells
 h_1
 id8
 (o8 +
 (0 :
 Nat))
 1 =
 some
 [V.i
 IntKind.i64
 n] ∧
 ∃
 (a_1
 :
 Option
 (Nat ×
 Nat)),
 ∃
 (l_1
 :
 Nat),
 ∃
 (c
 :
 Option
 Nat),
 ∃
 (k_1
 :
 Nat),
 hcells
 h_1
 id0
 2
 1 =
 some
 [V.sl
 a_1
 l_1
 c
 k_1] ∧
 ∃
 (n_3
 :
 Int),
 hcells
 h_1
 id8
 (o8 +
 (0 :
 Nat))
 1 =
 some
 [V.i
 IntKind.i64
 n_3] ∧
 SlO
 a_1
 False
 fun
 (id
 off :
 Nat) =>
 ((0 :
 Int) ≤
 n_3 ∧
 n_3 <
 (↑l_1 :
 Int)) ∧
 k_1 =
 1 ∧
 ∃
 (n_4
 :
 Int),
 hcells
 h_1
 id
 (off +
 n_3.toNat *
 (1 :
 Nat))
 1 =
 some
 [V.i
 IntKind.i64
 n_4] ∧
 ∃
 (a_2
 :
 Option
 (Nat ×
 Nat)),
 ∃
 (l_2
 :
 Nat),
 ∃
 (c
 :
 Option
 Nat),
 ∃
 (k_2
 :
 Nat),
 hcells
 h_1
 id0
 1
 1 =
 some
 [V.sl
 a_2
 l_2
 c
 k_2] ∧
 SlO
 a_2
 False
 fun
 (id
 off :
 Nat) =>
 ((0 :
 Int) ≤
 n_2 ∧
 n_2 <
 (↑l_2 :
 Int)) ∧
 k_2 =
 1 ∧
 ∃
 (n_5
 :
 Int),
 hcells
 h_1
 id
 (off +
 n_2.toNat *
 (1 :
 Nat))
 1 =
 some
 [V.i
 IntKind.i64
 n_5] ∧
 SlO
 a
 False
 fun
 (id
 off :
 Nat) =>
 ((0 :
 Int) ≤
 n ∧
 n <
 (↑l :
 Int)) ∧
 k =
 1 ∧
 ∃
 (h
 :
 Heap),
 hstore
 h_1
 id
 (off +
 n.toNat *
 (1 :
 Nat))
 [V.i
 IntKind.i64
 ((fun
 (x
 y :
 Int) =>
 if
 y <
 x then
 y
 else
 x)
 n_4
 n_5)] =
 some
 h ∧
 K
 Out.normal
 184
 [V.p
 (some
 (id0,
 0)),
 V.i
 IntKind.i64
 x2,
 V.sl
 (some
 (id7,
 0))
 l7
 c7
 2,
 V.p
 (some
 (id8,
 o8))]
 h)
 (K
 Out.normal
 184
 [V.p
 (some
 (id0,
 0)),
 V.i
 IntKind.i64
 x2,
 V.sl
 (some
 (id7,
 0))
 l7
 c7
 2,
 V.p
 (some
 (id8,
 o8))]
 h_1)))
 (K (Out.exit 2) 184
 [V.p (some (id0, 0)), V.i IntKind.i64 x2,
 V.sl (some (id7, 0)) l7 c7 2, V.p (some (id8, o8))]
 h)) := by kernel_rfl
theorem f21_4 (id0 : Nat) (x2 : Int) (id7 : Nat) (l7 : Nat) (c7 : Option Nat) (id8 : Nat) (o8 : Nat) (h : Heap) (K : Out → Nat → List V → Heap → Prop) : (codeP Try.Y (Try.Y.loc 21) 100 (((post (flat (blockB (post (flat (loopB (post (flat (bodyOf Try.f21))))))))).drop 1)) ⟨mk 184 (([0, 2, 7, 8] : List Nat).zip [V.p (some (id0, 0)), V.i IntKind.i64 x2, V.sl (some (id7, 0)) l7 c7 2, V.p (some (id8, o8))]), [], h⟩ (VQ [0, 2, 7] K)) =
  (∃ (n : Int),
  hcells h id8 (o8 + (0 : Nat)) 1 = some [V.i IntKind.i64 n] ∧
 2 = 2 ∧
 ((0 : Int) ≤ IntKind.i64.wrap ((↑l7 : Int) - (1 : Int)) ∧
 IntKind.i64.wrap ((↑l7 : Int) - (1 : Int)) ≤ (↑(c7.getD l7) : Int)) ∧
 If (ltI (0 : Int) (↑((IntKind.i64.wrap ((↑l7 : Int) - (1 : Int))).toNat - (0 : Nat)) : Int))
 (((0 : Int) ≤
 IntKind.i64.wrap
 ((↑((IntKind.i64.wrap ((↑l7 : Int) - (1 : Int))).toNat - (0 : Nat)) : Int) - (1 : Int)) ∧
 IntKind.i64.wrap ((↑((IntKind.i64.wrap ((↑l7 : Int) - (1 : Int))).toNat - (0 : Nat)) : Int) - (1 : Int)) <
 (↑((IntKind.i64.wrap ((↑l7 : Int) - (1 : Int))).toNat - (0 : Nat)) : Int)) ∧
 2 = 2 ∧
 ∃ (n_1 : Int),
 hcells h id7
 ((0 : Nat) + (0 : Nat) * (2 : Nat) +
 (IntKind.i64.wrap
 ((↑((IntKind.i64.wrap ((↑l7 : Int) - (1 : Int))).toNat - (0 : Nat)) : Int) -
 (1 : Int))).toNat *
 (2 : Nat) +
 (0 : Nat))
 1 =
 some [V.i IntKind.i64 n_1] ∧
 ∃ (a : Option (Nat × Nat)),
 ∃ (l : Nat),
 ∃ (c : Option Nat),
 ∃ (k : Nat),
 hcells h id0 2 1 = some [V.sl a l c k] ∧
 ∃ (a_1 : Option (Nat × Nat)),
 ∃ (l_1 : Nat),
 ∃ (c : Option Nat),
 ∃ (k_1 : Nat),
 hcells h id0 2 1 = some [V.sl a_1 l_1 c k_1] ∧
 SlO a_1 False fun (id off : Nat) =>
 ((0 : Int) ≤ n_1 ∧ n_1 < (↑l_1 : Int)) ∧
 k_1 = 1 ∧
 ∃ (n_2 : Int),
 hcells h id (off + n_1.toNat * (1 : Nat)) 1 =
 some [V.i IntKind.i64 n_2] ∧
 ∃ (a_2 : Option (Nat × Nat)),
 ∃ (l_2 : Nat),
 ∃ (c : Option Nat),
 ∃ (k_2 : Nat),
 hcells h id0 2 1 =
 some [V.sl a_2 l_2 c k_2] ∧
 SlO a_2 False fun (id off : Nat) =>
 ((0 : Int) ≤ n ∧ n < (↑l_2 : Int)) ∧
 k_2 = 1 ∧
 ∃ (n_3 : Int),
 hcells h id (off + n.toNat * (1 : Nat)) 1 =
 some [V.i IntKind.i64 n_3] ∧
 SlO a False fun (id off : Nat) =>
 ((0 : Int) ≤ n_1 ∧ n_1 < (↑l : Int)) ∧
 k = 1 ∧
 ∃ (h_1 : Heap),
 hstore h id (off + n_1.toNat * (1 : Nat))
 [V.i IntKind.i64
 ((fun (x y : Int) =>
 if y < x then y else x)
 n_2 n_3)] =
 some h_1 ∧
 ∃ (a : Option (Nat × Nat)),
 ∃ (l : Nat),
 ∃ (c : Option Nat),
 ∃ (k : Nat),
 hcells h_1 id0 2
 1 =
 some [V.sl a l c k] ∧
 SlO a False
 fun (id off : Nat) =>
 ((0 : Int) ≤ n ∧
 n < (↑l : Int)) ∧
 k = 1 ∧
 ∃ (n_4 : Int),
 hcells h_1 id
 (off +
 n.toNat *
 (1 : Nat))
 1 =
 some
 [V.i IntKind.i64
 n_4] ∧
 ∃ (a :
 Option (Nat × Nat)),
 ∃ (l : Nat),
 ∃ (c :
 Option Nat),
 ∃ (k : Nat),
 hcells h_1 id0
 1
 1 =
 some
 [V.sl a
 l c
 k] ∧
 SlO a False
 fun
 (id
 off :
 Nat) =>
 ((0 :
 Int) ≤
 n ∧
 n <
 (↑l :
 Int)) ∧
 k =
 1 ∧
 ∃ (n_5
 :
 Int),
 hcells
 h_1
 id
 (off +
 n.toNat *
 (1 :
 Nat))
 1 =
 some
 [V.i
 IntKind.i64
 n_5] ∧
 If
 (n_4 ==
 n_5)
 (Con
 Try.Y
 (29 :
 Nat)
 [V.p
 (some
 (id0,
 0)),
 V.i
 IntKind.i64
 n]
 h_1
 fun
 (v :
 V)
 (h' :
 Heap) =>
 v =
 V.tup
 [] ∧
 K
 Out.normal
 184
 [V.p
 (some
 (id0,
 0)),
 V.i
 IntKind.i64
 x2,
 V.sl
 (some
 (id7,
 0))
 ((IntKind.i64.wrap
 ((↑l7 :
 Int) -
 (1 :
 Int))).toNat -
 (0 :
 Nat))
 (Option.map
 (fun
 (x :
 Nat) =>
 x -
 (0 :
 Nat))
 c7)
 2]
 h')
 (K
 Out.normal
 184
 [V.p
 (some
 (id0,
 0)),
 V.i
 IntKind.i64
 x2,
 V.sl
 (some
 (id7,
 0))
 ((IntKind.i64.wrap
 ((↑l7 :
 Int) -
 (1 :
 Int))).toNat -
 (0 :
 Nat))
 (Option.map
 (fun
 (x :
 Nat) =>
 x -
 (0 :
 Nat))
 c7)
 2]
 h_1))
 (∃ (a : Option (Nat × Nat)),
 ∃ (l : Nat),
 ∃ (c : Option Nat),
 ∃ (k : Nat),
 hcells h id0 2 1 = some [V.sl a l c k] ∧
 SlO a False fun (id off : Nat) =>
 ((0 : Int) ≤ n ∧ n < (↑l : Int)) ∧
 k = 1 ∧
 ∃ (n_1 : Int),
 hcells h id (off + n.toNat * (1 : Nat)) 1 = some [V.i IntKind.i64 n_1] ∧
 ∃ (a : Option (Nat × Nat)),
 ∃ (l : Nat),
 ∃ (c : Option Nat),
 ∃ (k : Nat),
 hcells h id0 1 1 = some [V.sl a l c k] ∧
 SlO a False fun (id off : Nat) =>
 ((0 : Int) ≤ n ∧ n < (↑l : Int)) ∧
 k = 1 ∧
 ∃ (n_2 : Int),
 hcells h id (off + n.toNat * (1 : Nat)) 1 =
 some [V.i IntKind.i64 n_2] ∧
 If (n_1 == n_2)
 (Con Try.Y (29 : Nat)
 [V.p (some (id0, 0)), V.i IntKind.i64 n] h
 fun (v : V) (h' : Heap) =>
 v = V.tup [] ∧
 K Out.normal 184
 [V.p (some (id0, 0)), V.i IntKind.i64 x2,
 V.sl (some (id7, 0))
 ((IntKind.i64.wrap ((↑l7 : Int) - (1 : Int))).toNat -
 (0 : Nat))
 (Option.map (fun (x : Nat) => x - (0 : Nat)) c7)
 2]
 h')
 (K Out.normal 184
 [V.p (some (id0, 0)), V.i IntKind.i64 x2,
 V.sl (some (id7, 0))
 ((IntKind.i64.wrap ((↑l7 : Int) - (1 : Int))).toNat -
 (0 : Nat))
 (Option.map (fun (x : Nat) => x - (0 : Nat)) c7) 2]
 h))) := by kernel_rfl
theorem f21_5 (x2 : Int) (h : Heap) (K : Out → Nat → List V → Heap → Prop) : (codeP Try.Y (Try.Y.loc 21) 100 (((post (flat (bodyOf Try.f21))).drop 1)) ⟨mk 184 (([2] : List Nat).zip [V.i IntKind.i64 x2]), [], h⟩ (VQ [6] K)) =
  (K Out.ret 184 [V.i IntKind.i64 x2] h) := by kernel_rfl
end Go.Y
