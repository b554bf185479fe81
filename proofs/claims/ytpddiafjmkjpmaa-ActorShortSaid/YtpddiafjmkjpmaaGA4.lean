/- What the pieces of functions come to: printed by program. -/
import Derived.Test.YtpddiafjmkjpmaaYTryP
import Derived.Test.YtpddiafjmkjpmaaYLoop
namespace Go.Y
open Go.Proofs
set_option maxRecDepth 100000
set_option maxHeartbeats 0
theorem f18_0 (cs0 : List V) (n0 : Nat) (s1 : List UInt8) (h : Heap) (K : Out → Nat → List V → Heap → Prop) : (codeP Try.Y (Try.Y.loc 18) 100 (pre (flat (bodyOf Try.f18))) ⟨(V.ts cs0 n0 none :: V.s s1 :: List.replicate 76 .undef), [], h⟩ (VQ [0, 1, 4, 5, 6, 7, 8] K)) =
  (∃ (b : Bool),
  (PCon Try.Y (26 : Nat) [V.ts cs0 n0 none] fun (v : V) => v = V.b b) ∧
 If (!b) (K Out.ret 78 [V.ts cs0 n0 none, V.s s1, V.b false, V.undef, V.undef, V.undef, V.undef] h)
 (K Out.normal 78
 [V.ts cs0 n0 none, V.s s1, V.b false, V.i IntKind.i64 (0 : Int), V.i IntKind.i64 (0 : Int),
 V.i IntKind.i64 (-1 : Int), V.i IntKind.i64 (0 : Int)]
 h)) := by kernel_rfl
theorem f18_1 (cs0 : List V) (n0 : Nat) (s1 : List UInt8) (b4 : Bool) (x5z3 : Int) (x6z2 : Int) (x7z3 : Int) (x8z7 : Int) (h : Heap) (K : Out → Nat → List V → Heap → Prop) : (codeP Try.Y (Try.Y.loc 18) 100 ((flat (loopB (post (flat (bodyOf Try.f18)))))) ⟨mk 78 (([0, 1, 4, 5, 6, 7, 8] : List Nat).zip [V.ts cs0 n0 none, V.s s1, V.b b4, V.i IntKind.i64 x5z3, V.i IntKind.i64 x6z2, V.i IntKind.i64 x7z3, V.i IntKind.i64 x8z7]), [], h⟩ (VQ [0, 1, 4, 5, 6, 7, 8] K)) =
  (If (ltI x6z2 (↑s1.length : Int))
  (If (ltI x5z3 (↑n0 : Int))
 (((0 : Int) ≤ x5z3 ∧ x5z3 < (↑n0 : Int)) ∧
 ∃ (n : Int),
 takeX 1 (List.drop (0 : Nat) (List.drop (x5z3.toNat * (3 : Nat)) cs0)) = some [V.i IntKind.i64 n] ∧
 If (n == (2 : Int))
 (K Out.normal 78
 [V.ts cs0 n0 none, V.s s1, V.b b4, V.i IntKind.i64 (IntKind.i64.wrap (x5z3 + (1 : Int))),
 V.i IntKind.i64 x6z2, V.i IntKind.i64 x5z3, V.i IntKind.i64 x6z2]
 h)
 (If (ltI x5z3 (↑n0 : Int))
 (((0 : Int) ≤ x5z3 ∧ x5z3 < (↑n0 : Int)) ∧
 ∃ (n : Int),
 ∃ (n_1 : Int),
 ∃ (cs : List V),
 ∃ (l : Nat),
 ∃ (c : Option Nat),
 takeX 3 (List.drop (x5z3.toNat * (3 : Nat)) cs0) =
 some [V.i IntKind.i64 n, V.i IntKind.u8 n_1, V.ts cs l c] ∧
 ∃ (c_1 : UInt8),
 ((0 : Int) ≤ x6z2 ∧ s1[x6z2.toNat]? = some c_1) ∧
 ∃ (b : Bool),
 (PCon Try.Y (51 : Nat)
 [V.agg [V.i IntKind.i64 n, V.i IntKind.u8 n_1, V.ts cs l c],
 V.i IntKind.u8 (↑c_1.toNat : Int)]
 fun (v : V) => v = V.b b) ∧
 If b
 (K Out.normal 78
 [V.ts cs0 n0 none, V.s s1, V.b b4,
 V.i IntKind.i64 (IntKind.i64.wrap (x5z3 + (1 : Int))),
 V.i IntKind.i64 (IntKind.i64.wrap (x6z2 + (1 : Int))), V.i IntKind.i64 x7z3,
 V.i IntKind.i64 x8z7]
 h)
 (If (leI (0 : Int) x7z3)
 (K Out.normal 78
 [V.ts cs0 n0 none, V.s s1, V.b b4,
 V.i IntKind.i64 (IntKind.i64.wrap (x7z3 + (1 : Int))),
 V.i IntKind.i64 (IntKind.i64.wrap (x8z7 + (1 : Int))), V.i IntKind.i64 x7z3,
 V.i IntKind.i64 (IntKind.i64.wrap (x8z7 + (1 : Int)))]
 h)
 (K Out.ret 78
 [V.ts cs0 n0 none, V.s s1, V.b false, V.i IntKind.i64 x5z3,
 V.i IntKind.i64 x6z2, V.i IntKind.i64 x7z3, V.i IntKind.i64 x8z7]
 h)))
 (If (leI (0 : Int) x7z3)
 (K Out.normal 78
 [V.ts cs0 n0 none, V.s s1, V.b b4, V.i IntKind.i64 (IntKind.i64.wrap (x7z3 + (1 : Int))),
 V.i IntKind.i64 (IntKind.i64.wrap (x8z7 + (1 : Int))), V.i IntKind.i64 x7z3,
 V.i IntKind.i64 (IntKind.i64.wrap (x8z7 + (1 : Int)))]
 h)
 (K Out.ret 78
 [V.ts cs0 n0 none, V.s s1, V.b false, V.i IntKind.i64 x5z3, V.i IntKind.i64 x6z2,
 V.i IntKind.i64 x7z3, V.i IntKind.i64 x8z7]
 h))))
 (If (ltI x5z3 (↑n0 : Int))
 (((0 : Int) ≤ x5z3 ∧ x5z3 < (↑n0 : Int)) ∧
 ∃ (n : Int),
 ∃ (n_1 : Int),
 ∃ (cs : List V),
 ∃ (l : Nat),
 ∃ (c : Option Nat),
 takeX 3 (List.drop (x5z3.toNat * (3 : Nat)) cs0) =
 some [V.i IntKind.i64 n, V.i IntKind.u8 n_1, V.ts cs l c] ∧
 ∃ (c_1 : UInt8),
 ((0 : Int) ≤ x6z2 ∧ s1[x6z2.toNat]? = some c_1) ∧
 ∃ (b : Bool),
 (PCon Try.Y (51 : Nat)
 [V.agg [V.i IntKind.i64 n, V.i IntKind.u8 n_1, V.ts cs l c],
 V.i IntKind.u8 (↑c_1.toNat : Int)]
 fun (v : V) => v = V.b b) ∧
 If b
 (K Out.normal 78
 [V.ts cs0 n0 none, V.s s1, V.b b4,
 V.i IntKind.i64 (IntKind.i64.wrap (x5z3 + (1 : Int))),
 V.i IntKind.i64 (IntKind.i64.wrap (x6z2 + (1 : Int))), V.i IntKind.i64 x7z3,
 V.i IntKind.i64 x8z7]
 h)
 (If (leI (0 : Int) x7z3)
 (K Out.normal 78
 [V.ts cs0 n0 none, V.s s1, V.b b4,
 V.i IntKind.i64 (IntKind.i64.wrap (x7z3 + (1 : Int))),
 V.i IntKind.i64 (IntKind.i64.wrap (x8z7 + (1 : Int))), V.i IntKind.i64 x7z3,
 V.i IntKind.i64 (IntKind.i64.wrap (x8z7 + (1 : Int)))]
 h)
 (K Out.ret 78
 [V.ts cs0 n0 none, V.s s1, V.b false, V.i IntKind.i64 x5z3, V.i IntKind.i64 x6z2,
 V.i IntKind.i64 x7z3, V.i IntKind.i64 x8z7]
 h)))
 (If (leI (0 : Int) x7z3)
 (K Out.normal 78
 [V.ts cs0 n0 none, V.s s1, V.b b4, V.i IntKind.i64 (IntKind.i64.wrap (x7z3 + (1 : Int))),
 V.i IntKind.i64 (IntKind.i64.wrap (x8z7 + (1 : Int))), V.i IntKind.i64 x7z3,
 V.i IntKind.i64 (IntKind.i64.wrap (x8z7 + (1 : Int)))]
 h)
 (K Out.ret 78
 [V.ts cs0 n0 none, V.s s1, V.b false, V.i IntKind.i64 x5z3, V.i IntKind.i64 x6z2, V.i IntKind.i64 x7z3,
 V.i IntKind.i64 x8z7]
 h))))
  (K (Out.exit 0) 78
 [V.ts cs0 n0 none, V.s s1, V.b b4, V.i IntKind.i64 x5z3, V.i IntKind.i64 x6z2, V.i IntKind.i64 x7z3,
 V.i IntKind.i64 x8z7]
 h)) := by kernel_rfl
theorem f18_2 (cs0 : List V) (n0 : Nat) (x5z3 : Int) (b4z2 : Bool) (h : Heap) (K : Out → Nat → List V → Heap → Prop) : (codeP Try.Y (Try.Y.loc 18) 100 (pre ((post (flat (bodyOf Try.f18))).drop 1)) ⟨mk 78 (([0, 4, 5] : List Nat).zip [V.ts cs0 n0 none, V.b b4z2, V.i IntKind.i64 x5z3]), [], h⟩ (VQ [0, 4, 5] K)) =
  (K Out.normal 78 [V.ts cs0 n0 none, V.b b4z2, V.i IntKind.i64 x5z3] h) := by kernel_rfl
theorem f18_3 (cs0 : List V) (n0 : Nat) (x5z3 : Int) (b4z3 : Bool) (h : Heap) (K : Out → Nat → List V → Heap → Prop) : (codeP Try.Y (Try.Y.loc 18) 100 ((flat (loopB (post ((post (flat (bodyOf Try.f18))).drop 1))))) ⟨mk 78 (([0, 4, 5] : List Nat).zip [V.ts cs0 n0 none, V.b b4z3, V.i IntKind.i64 x5z3]), [], h⟩ (VQ [0, 4, 5] K)) =
  (If (ltI x5z3 (↑n0 : Int))
  (((0 : Int) ≤ x5z3 ∧ x5z3 < (↑n0 : Int)) ∧
 ∃ (n : Int),
 takeX 1 (List.drop (0 : Nat) (List.drop (x5z3.toNat * (3 : Nat)) cs0)) = some [V.i IntKind.i64 n] ∧
 If (n == (2 : Int))
 (K Out.normal 78 [V.ts cs0 n0 none, V.b b4z3, V.i IntKind.i64 (IntKind.i64.wrap (x5z3 + (1 : Int)))]
 h)
 (K (Out.exit 3) 78 [V.ts cs0 n0 none, V.b b4z3, V.i IntKind.i64 x5z3] h))
  (K (Out.exit 3) 78 [V.ts cs0 n0 none, V.b b4z3, V.i IntKind.i64 x5z3] h)) := by kernel_rfl
theorem f18_4 (cs0 : List V) (n0 : Nat) (x5z3 : Int) (h : Heap) (K : Out → Nat → List V → Heap → Prop) : (codeP Try.Y (Try.Y.loc 18) 100 (((post ((post (flat (bodyOf Try.f18))).drop 1)).drop 1)) ⟨mk 78 (([0, 5] : List Nat).zip [V.ts cs0 n0 none, V.i IntKind.i64 x5z3]), [], h⟩ (VQ [4] K)) =
  (K Out.ret 78 [V.b (x5z3 == (↑n0 : Int))] h) := by kernel_rfl
theorem f51_0 (x0Kind : Int) (x0Byte : Int) (cs0Spans : List V) (n0Spans : Nat) (x1 : Int) (h : Heap) (K : Out → Nat → List V → Heap → Prop) : (codeP Try.Y (Try.Y.loc 51) 100 ((flat (bodyOf Try.f51))) ⟨(V.agg [V.i IntKind.i64 x0Kind, V.i IntKind.u8 x0Byte, V.ts cs0Spans n0Spans none] :: V.i IntKind.u8 x1 :: List.replicate 17 .undef), [], h⟩ (VQ [4] K)) =
  (If (x0Kind == (0 : Int))
  (∃ (n : Int),
 hcells (h.push (YObj.arr [V.i IntKind.u8 x1] true)) h.nx 0 1 = some [V.i IntKind.u8 n] ∧
 K Out.ret 19 [V.b (x0Byte == n)] (h.push (YObj.arr [V.i IntKind.u8 x1] true)))
  (If (x0Kind == (1 : Int)) (K Out.ret 19 [V.b true] (h.push (YObj.arr [V.i IntKind.u8 x1] true)))
 (Con Try.Y (93 : Nat) [V.ts cs0Spans n0Spans none, V.fn (Fn.func (94 : Nat)) [] [V.p (some (h.nx, 0))]]
 (h.push (YObj.arr [V.i IntKind.u8 x1] true)) fun (v : V) (h' : Heap) =>
 ∃ (b : Bool), v = V.b b ∧ K Out.ret 19 [V.b b] h'))) := by kernel_rfl
theorem f26_0 (cs0 : List V) (n0 : Nat) (h : Heap) (K : Out → Nat → List V → Heap → Prop) : (codeP Try.Y (Try.Y.loc 26) 100 ((flat (bodyOf Try.f26))) ⟨(V.ts cs0 n0 none :: List.replicate 5 .undef), [], h⟩ (VQ [2] K)) =
  (Con Try.Y (69 : Nat) [V.ts cs0 n0 none, V.fn (Fn.func (70 : Nat)) [] []] h fun (v : V) (h' : Heap) =>
  ∃ (b : Bool), v = V.b b ∧ K Out.ret 6 [V.b !b] h') := by kernel_rfl
theorem f69_0 (cs0 : List V) (n0 : Nat) (h : Heap) (K : Out → Nat → List V → Heap → Prop) : (codeP Try.Y (Try.Y.loc 69) 100 ((flat (bodyOf Try.f69))) ⟨(V.ts cs0 n0 none :: V.fn (.func 70) [] [] :: List.replicate 7 .undef), [], h⟩ (VQ [4] K)) =
  (Con Try.Y (105 : Nat) [V.ts cs0 n0 none, V.fn (Fn.func 70) [] []] h fun (v : V) (h' : Heap) =>
  ∃ (n : Int), v = V.i IntKind.i64 n ∧ K Out.ret 9 [V.b (leI (0 : Int) n)] h') := by kernel_rfl
theorem f105_0 (cs0 : List V) (n0 : Nat) (h : Heap) (K : Out → Nat → List V → Heap → Prop) : (codeP Try.Y (Try.Y.loc 105) 100 (pre (flat (bodyOf Try.f105))) ⟨(V.ts cs0 n0 none :: V.fn (.func 70) [] [] :: List.replicate 17 .undef), [], h⟩ (VQ [0, 1, 7, 8] K)) =
  (K Out.normal 19
  [V.ts cs0 n0 none, V.fn (Fn.func 70) [] [], V.i IntKind.i64 (↑n0 : Int), V.i IntKind.i64 (0 : Int)] h) := by kernel_rfl
theorem f105_1 (cs0 : List V) (n0 : Nat) (x8 : Int) (h : Heap) (K : Out → Nat → List V → Heap → Prop) : (codeP Try.Y (Try.Y.loc 105) 100 ((flat (loopB (post (flat (bodyOf Try.f105)))))) ⟨mk 19 (([0, 1, 7, 8] : List Nat).zip [V.ts cs0 n0 none, V.fn (Fn.func 70) [] [], V.i IntKind.i64 (↑n0 : Int), V.i IntKind.i64 x8]), [], h⟩ (VQ [0, 1, 4, 7, 8] K)) =
  (If (ltI x8 (↑n0 : Int))
  (((0 : Int) ≤ x8 ∧ x8 < (↑n0 : Int)) ∧
 ∃ (n : Int),
 ∃ (n_1 : Int),
 ∃ (cs : List V),
 ∃ (l : Nat),
 ∃ (c : Option Nat),
 takeX 3 (List.drop (x8.toNat * (3 : Nat)) cs0) =
 some [V.i IntKind.i64 n, V.i IntKind.u8 n_1, V.ts cs l c] ∧
 ∃ (b : Bool),
 (PCon Try.Y 70 [V.agg [V.i IntKind.i64 n, V.i IntKind.u8 n_1, V.ts cs l c]] fun (v : V) =>
 v = V.b b) ∧
 If b
 (K Out.ret 19
 [V.ts cs0 n0 none, V.fn (Fn.func 70) [] [], V.i IntKind.i64 x8,
 V.i IntKind.i64 (↑n0 : Int), V.i IntKind.i64 x8]
 h)
 (K Out.normal 19
 [V.ts cs0 n0 none, V.fn (Fn.func 70) [] [], V.undef, V.i IntKind.i64 (↑n0 : Int),
 V.i IntKind.i64 (IntKind.i64.wrap (x8 + (1 : Int)))]
 h))
  (K (Out.exit 0) 19
 [V.ts cs0 n0 none, V.fn (Fn.func 70) [] [], V.undef, V.i IntKind.i64 (↑n0 : Int), V.i IntKind.i64 x8] h)) := by kernel_rfl
theorem f105_2  (h : Heap) (K : Out → Nat → List V → Heap → Prop) : (codeP Try.Y (Try.Y.loc 105) 100 (((post (flat (bodyOf Try.f105))).drop 1)) ⟨mk 19 (([] : List Nat).zip []), [], h⟩ (VQ [4] K)) =
  (K Out.ret 19 [V.i IntKind.i64 (-1 : Int)] h) := by kernel_rfl
theorem f70_0 (x0Kind : Int) (x0Byte : Int) (cs0Spans : List V) (n0Spans : Nat) (h : Heap) (K : Out → Nat → List V → Heap → Prop) : (codeP Try.Y (Try.Y.loc 70) 100 ((flat (bodyOf Try.f70))) ⟨(V.agg [V.i IntKind.i64 x0Kind, V.i IntKind.u8 x0Byte, V.ts cs0Spans n0Spans none] :: List.replicate 5 .undef), [], h⟩ (VQ [2] K)) =
  (∃ (b : Bool),
  (PCon Try.Y (71 : Nat) [V.agg [V.i IntKind.i64 x0Kind, V.i IntKind.u8 x0Byte, V.ts cs0Spans n0Spans none]]
 fun (v : V) => v = V.b b) ∧
 K Out.ret 6 [V.b !b] h) := by kernel_rfl
theorem f71_0 (x0Kind : Int) (x0Byte : Int) (cs0Spans : List V) (n0Spans : Nat) (h : Heap) (K : Out → Nat → List V → Heap → Prop) : (codeP Try.Y (Try.Y.loc 71) 100 ((flat (bodyOf Try.f71))) ⟨(V.agg [V.i IntKind.i64 x0Kind, V.i IntKind.u8 x0Byte, V.ts cs0Spans n0Spans none] :: List.replicate 39 .undef), [], h⟩ (VQ [2] K)) =
  (If (x0Kind == (0 : Int)) (K Out.ret 40 [V.b ((↑n0Spans : Int) == (0 : Int))] h)
  (If (x0Kind == (1 : Int))
 (If (x0Byte == (0 : Int)) (K Out.ret 40 [V.b ((↑n0Spans : Int) == (0 : Int))] h)
 (K Out.ret 40 [V.b false] h))
 (If (x0Kind == (2 : Int))
 (If (x0Byte == (0 : Int)) (K Out.ret 40 [V.b ((↑n0Spans : Int) == (0 : Int))] h)
 (K Out.ret 40 [V.b false] h))
 (If (x0Kind == (3 : Int))
 (If (x0Byte == (0 : Int))
 (If (ltI (0 : Int) (↑n0Spans : Int))
 (Con Try.Y (93 : Nat) [V.ts cs0Spans n0Spans none, V.fn (Fn.func (106 : Nat)) [] []] h
 fun (v : V) (h' : Heap) => ∃ (b : Bool), v = V.b b ∧ K Out.ret 40 [V.b !b] h')
 (K Out.ret 40 [V.b false] h))
 (K Out.ret 40 [V.b false] h))
 (K Out.ret 40 [V.b false] h))))) := by kernel_rfl
theorem f4_0 (cs0 : List V) (n0 : Nat) (s1 : List UInt8) (x2 : Int) (h : Heap) (K : Out → Nat → List V → Heap → Prop) : (codeP Try.Y (Try.Y.loc 4) 100 (pre (flat (bodyOf Try.f4))) ⟨(V.ts cs0 n0 none :: V.s s1 :: V.i IntKind.u8 x2 :: List.replicate 64 .undef), [], h⟩ (VQ [0, 1, 6, 7, 8, 38, 39] K)) =
  (∃ (b : Bool),
  (PCon Try.Y (12 : Nat) [] fun (v : V) => v = V.b b) ∧
 If (!b) (K Out.ret 67 [V.ts cs0 n0 none, V.s s1, V.b false, V.undef, V.undef, V.undef, V.undef] h)
 (∃ (b : Bool),
 (PCon Try.Y (16 : Nat) [V.ts cs0 n0 none] fun (v : V) => v = V.b b) ∧
 If (!b) (K Out.ret 67 [V.ts cs0 n0 none, V.s s1, V.b true, V.undef, V.undef, V.undef, V.undef] h)
 (If (ltI (40 : Int) (↑n0 : Int))
 (K Out.ret 67 [V.ts cs0 n0 none, V.s s1, V.b true, V.undef, V.undef, V.undef, V.undef] h)
 (If (ltI (30 : Int) (↑s1.length : Int))
 (K Out.ret 67 [V.ts cs0 n0 none, V.s s1, V.b true, V.undef, V.undef, V.undef, V.undef] h)
 (∃ (b : Bool),
 (PCon Try.Y (17 : Nat) [V.ts cs0 n0 none] fun (v : V) => v = V.b b) ∧
 If (!b)
 (K Out.ret 67 [V.ts cs0 n0 none, V.s s1, V.b true, V.undef, V.undef, V.undef, V.undef]
 h)
 ((IntKind.i64.wrap ((↑n0 : Int) + (1 : Int)) = (0 : Int) → False) ∧
 K Out.normal 67
 [V.ts cs0 n0 none, V.s s1, V.b false,
 V.i IntKind.i64 ((IntKind.i64.wrap x2).tmod (IntKind.i64.wrap ((↑n0 : Int) + (1 : Int)))),
 V.b false, V.i IntKind.i64 (IntKind.i64.wrap ((↑s1.length : Int) + (1 : Int))),
 V.i IntKind.i64 (0 : Int)]
 h)))))) := by kernel_rfl
theorem f4_1 (cs0 : List V) (n0 : Nat) (s1 : List UInt8) (x2 : Int) (b8 : Bool) (x39z3 : Int) (h : Heap) (K : Out → Nat → List V → Heap → Prop) : (codeP Try.Y (Try.Y.loc 4) 100 ((flat (loopB (post (flat (bodyOf Try.f4)))))) ⟨mk 67 (([0, 1, 7, 8, 38, 39] : List Nat).zip [V.ts cs0 n0 none, V.s s1, V.i IntKind.i64 ((IntKind.i64.wrap x2).tmod (IntKind.i64.wrap ((↑n0 : Int) + 1))), V.b b8, V.i IntKind.i64 (IntKind.i64.wrap ((↑s1.length : Int) + 1)), V.i IntKind.i64 x39z3]), [], h⟩ (VQ [0, 1, 7, 8, 38, 39] K)) =
  (If (ltI x39z3 (IntKind.i64.wrap ((↑s1.length : Int) + (1 : Int))))
  (If b8
 (K Out.normal 67
 [V.ts cs0 n0 none, V.s s1,
 V.i IntKind.i64 ((IntKind.i64.wrap x2).tmod (IntKind.i64.wrap ((↑n0 : Int) + (1 : Int)))), V.b true,
 V.i IntKind.i64 (IntKind.i64.wrap ((↑s1.length : Int) + (1 : Int))),
 V.i IntKind.i64 (IntKind.i64.wrap (x39z3 + (1 : Int)))]
 h)
 (((0 : Int) ≤ (IntKind.i64.wrap x2).tmod (IntKind.i64.wrap ((↑n0 : Int) + (1 : Int))) ∧
 (IntKind.i64.wrap x2).tmod (IntKind.i64.wrap ((↑n0 : Int) + (1 : Int))) ≤ (↑n0 : Int)) ∧
 ((0 : Int) ≤ x39z3 ∧ x39z3 ≤ (↑s1.length : Int)) ∧
 ∃ (b : Bool),
 (PCon Try.Y (18 : Nat)
 [V.ts
 (List.take
 ((((IntKind.i64.wrap x2).tmod (IntKind.i64.wrap ((↑n0 : Int) + (1 : Int)))).toNat - (0 : Nat)) *
 (3 : Nat))
 (List.drop ((0 : Nat) * (3 : Nat)) cs0))
 (((IntKind.i64.wrap x2).tmod (IntKind.i64.wrap ((↑n0 : Int) + (1 : Int)))).toNat - (0 : Nat)) none,
 V.s (List.take (x39z3.toNat - (0 : Nat)) (List.drop (0 : Nat) s1))]
 fun (v : V) => v = V.b b) ∧
 If b
 (((0 : Int) ≤ (IntKind.i64.wrap x2).tmod (IntKind.i64.wrap ((↑n0 : Int) + (1 : Int))) ∧
 (IntKind.i64.wrap x2).tmod (IntKind.i64.wrap ((↑n0 : Int) + (1 : Int))) ≤ (↑n0 : Int)) ∧
 ((0 : Int) ≤ x39z3 ∧ x39z3 ≤ (↑s1.length : Int)) ∧
 ∃ (b : Bool),
 (PCon Try.Y (18 : Nat)
 [V.ts
 (List.take
 ((n0 - ((IntKind.i64.wrap x2).tmod (IntKind.i64.wrap ((↑n0 : Int) + (1 : Int)))).toNat) *
 (3 : Nat))
 (List.drop
 (((IntKind.i64.wrap x2).tmod (IntKind.i64.wrap ((↑n0 : Int) + (1 : Int)))).toNat *
 (3 : Nat))
 cs0))
 (n0 - ((IntKind.i64.wrap x2).tmod (IntKind.i64.wrap ((↑n0 : Int) + (1 : Int)))).toNat) none,
 V.s (List.take (s1.length - x39z3.toNat) (List.drop x39z3.toNat s1))]
 fun (v : V) => v = V.b b) ∧
 K Out.normal 67
 [V.ts cs0 n0 none, V.s s1,
 V.i IntKind.i64 ((IntKind.i64.wrap x2).tmod (IntKind.i64.wrap ((↑n0 : Int) + (1 : Int)))),
 V.b b, V.i IntKind.i64 (IntKind.i64.wrap ((↑s1.length : Int) + (1 : Int))),
 V.i IntKind.i64 (IntKind.i64.wrap (x39z3 + (1 : Int)))]
 h)
 (K Out.normal 67
 [V.ts cs0 n0 none, V.s s1,
 V.i IntKind.i64 ((IntKind.i64.wrap x2).tmod (IntKind.i64.wrap ((↑n0 : Int) + (1 : Int)))), V.b false,
 V.i IntKind.i64 (IntKind.i64.wrap ((↑s1.length : Int) + (1 : Int))),
 V.i IntKind.i64 (IntKind.i64.wrap (x39z3 + (1 : Int)))]
 h)))
  (K (Out.exit 0) 67
 [V.ts cs0 n0 none, V.s s1,
 V.i IntKind.i64 ((IntKind.i64.wrap x2).tmod (IntKind.i64.wrap ((↑n0 : Int) + (1 : Int)))), V.b b8,
 V.i IntKind.i64 (IntKind.i64.wrap ((↑s1.length : Int) + (1 : Int))), V.i IntKind.i64 x39z3]
 h)) := by kernel_rfl
theorem f4_2 (cs0 : List V) (n0 : Nat) (s1 : List UInt8) (b8z2 : Bool) (h : Heap) (K : Out → Nat → List V → Heap → Prop) : (codeP Try.Y (Try.Y.loc 4) 100 (((post (flat (bodyOf Try.f4))).drop 1)) ⟨mk 67 (([0, 1, 8] : List Nat).zip [V.ts cs0 n0 none, V.s s1, V.b b8z2]), [], h⟩ (VQ [6] K)) =
  (∃ (b : Bool),
  (PCon Try.Y (18 : Nat) [V.ts cs0 n0 none, V.s s1] fun (v : V) => v = V.b b) ∧
 K Out.ret 67 [V.b (b8z2 == b)] h) := by kernel_rfl
theorem f106_0 (x0Lo : Int) (x0Hi : Int) (h : Heap) (K : Out → Nat → List V → Heap → Prop) : (codeP Try.Y (Try.Y.loc 106) 100 ((flat (bodyOf Try.f106))) ⟨(V.agg [V.i IntKind.u8 x0Lo, V.i IntKind.u8 x0Hi] :: List.replicate 7 .undef), [], h⟩ (VQ [2] K)) =
  (K Out.ret 8 [V.b (ltI x0Hi x0Lo)] h) := by kernel_rfl
theorem f76_0 (x0Kind : Int) (x0Byte : Int) (cs0Spans : List V) (n0Spans : Nat) (x1 : Int) (h : Heap) (K : Out → Nat → List V → Heap → Prop) : (codeP Try.Y (Try.Y.loc 76) 100 (pre (flat (bodyOf Try.f76))) ⟨(V.agg [V.i IntKind.i64 x0Kind, V.i IntKind.u8 x0Byte, V.ts cs0Spans n0Spans none] :: V.i IntKind.u8 x1 :: List.replicate 44 .undef), [], h⟩ (VQ [1, 2, 4, 5, 6, 10] K)) =
  (If (x0Kind == (0 : Int))
  (K Out.ret 46
 [V.i IntKind.u8 x1, V.lb [V.i IntKind.i64 x0Kind, V.i IntKind.u8 x0Byte, V.ts cs0Spans n0Spans none],
 V.b (x0Byte == x1), V.undef, V.undef, V.rf]
 h)
  (K Out.normal 46
 [V.i IntKind.u8 x1, V.lb [V.i IntKind.i64 x0Kind, V.i IntKind.u8 x0Byte, V.ts cs0Spans n0Spans none], V.b false,
 V.b (x0Kind == (1 : Int)), V.i IntKind.i64 (0 : Int), V.undef]
 h)) := by kernel_rfl
theorem f76_1 (x0Kind : Int) (x0Byte : Int) (cs0Spans : List V) (n0Spans : Nat) (x1 : Int) (b5z3 : Bool) (x6z3 : Int) (h : Heap) (K : Out → Nat → List V → Heap → Prop) : (codeP Try.Y (Try.Y.loc 76) 100 ((flat (loopB (post (flat (bodyOf Try.f76)))))) ⟨mk 46 (([1, 2, 5, 6, 10] : List Nat).zip [V.i IntKind.u8 x1, V.lb [V.i IntKind.i64 x0Kind, V.i IntKind.u8 x0Byte, V.ts cs0Spans n0Spans none], V.b b5z3, V.i IntKind.i64 x6z3, V.undef]), [], h⟩ (VQ [1, 2, 5, 6, 10] K)) =
  (If (ltI x6z3 (↑n0Spans : Int))
  (If b5z3
 (K Out.normal 46
 [V.i IntKind.u8 x1, V.lb [V.i IntKind.i64 x0Kind, V.i IntKind.u8 x0Byte, V.ts cs0Spans n0Spans none], V.b true,
 V.i IntKind.i64 (IntKind.i64.wrap (x6z3 + (1 : Int))), V.undef]
 h)
 (((0 : Int) ≤ x6z3 ∧ x6z3 < (↑n0Spans : Int)) ∧
 ∃ (n : Int),
 takeX 1 (List.drop (0 : Nat) (List.drop (x6z3.toNat * (2 : Nat)) cs0Spans)) =
 some [V.i IntKind.u8 n] ∧
 If (leI n x1)
 (((0 : Int) ≤ x6z3 ∧ x6z3 < (↑n0Spans : Int)) ∧
 ∃ (n : Int),
 takeX 1 (List.drop (1 : Nat) (List.drop (x6z3.toNat * (2 : Nat)) cs0Spans)) =
 some [V.i IntKind.u8 n] ∧
 K Out.normal 46
 [V.i IntKind.u8 x1,
 V.lb [V.i IntKind.i64 x0Kind, V.i IntKind.u8 x0Byte, V.ts cs0Spans n0Spans none], V.b (leI x1 n),
 V.i IntKind.i64 (IntKind.i64.wrap (x6z3 + (1 : Int))), V.undef]
 h)
 (K Out.normal 46
 [V.i IntKind.u8 x1, V.lb [V.i IntKind.i64 x0Kind, V.i IntKind.u8 x0Byte, V.ts cs0Spans n0Spans none],
 V.b false, V.i IntKind.i64 (IntKind.i64.wrap (x6z3 + (1 : Int))), V.undef]
 h)))
  (K (Out.exit 0) 46
 [V.i IntKind.u8 x1, V.lb [V.i IntKind.i64 x0Kind, V.i IntKind.u8 x0Byte, V.ts cs0Spans n0Spans none], V.b b5z3,
 V.i IntKind.i64 x6z3, V.undef]
 h)) := by kernel_rfl
theorem f76_2 (b5z3 : Bool) (h : Heap) (K : Out → Nat → List V → Heap → Prop) : (codeP Try.Y (Try.Y.loc 76) 100 (((post (flat (bodyOf Try.f76))).drop 1)) ⟨mk 46 (([5] : List Nat).zip [V.b b5z3]), [], h⟩ (VQ [4] K)) =
  (K Out.ret 46 [V.b b5z3] h) := by kernel_rfl
end Go.Y
