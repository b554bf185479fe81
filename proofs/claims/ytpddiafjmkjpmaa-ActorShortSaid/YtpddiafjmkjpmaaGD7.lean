/- What the pieces of functions come to: printed by program. -/
import Derived.Test.YtpddiafjmkjpmaaYTryP
import Derived.Test.YtpddiafjmkjpmaaYLoop
namespace Go.Y
open Go.Proofs
set_option maxRecDepth 100000
set_option maxHeartbeats 0
theorem f34_1 (x0Place : Int) (x0Clock : Int) (s0Typed : List UInt8) (cs0Lines : List V) (n0Lines : Nat) (s0Fly : List UInt8) (cs0Ages : List V) (n0Ages : Nat) (s0Ready : List UInt8) (s0Buffer : List UInt8) (x1Cap : Int) (cs1Places : List V) (n1Places : Nat) (s2 : List UInt8) (b3_0 : Bool) (b3_1 : Bool) (b3_2 : Bool) (b6_0 : Bool) (b6_1 : Bool) (b6_2 : Bool) (x8z5 : Int) (h : Heap) (K : Out → Nat → List V → Heap → Prop) : (codeP Try.Y (Try.Y.loc 34) 100 ((flat (loopB (post (flat (bodyOf Try.f34)))))) ⟨mk 71 (([2, 3, 4, 6, 8] : List Nat).zip [V.s s2, V.lb [V.b b3_0, V.b b3_1, V.b b3_2, V.i IntKind.i64 x0Place, V.i IntKind.i64 x0Clock, V.s s0Typed, V.ts cs0Lines n0Lines none, V.s s0Fly, V.ts cs0Ages n0Ages none, V.s s0Ready, V.s s0Buffer], V.lb [V.i IntKind.i64 x1Cap, V.ts cs1Places n1Places none], V.lb [V.b b6_0, V.b b6_1, V.b b6_2, V.i IntKind.i64 0, V.i IntKind.i64 0, V.s [], V.sl none 0 (some 0) 0, V.s [], V.sl none 0 (some 0) 0, V.s [], V.s []], V.i IntKind.i64 x8z5]), [], h⟩ (VQ [2, 3, 4, 6, 7, 8] K)) =
  (If (ltI x8z5 (↑s2.length : Int))
  (∃ (c : UInt8),
 ((0 : Int) ≤ x8z5 ∧ s2[x8z5.toNat]? = some c) ∧
 If ((↑c.toNat : Int) == (10 : Int))
 (If (leI (2 : Int) (↑n0Lines : Int))
 (K Out.ret 71
 [V.s s2,
 V.lb
 [V.b b3_0, V.b b3_1, V.b b3_2, V.i IntKind.i64 x0Place, V.i IntKind.i64 x0Clock, V.s s0Typed,
 V.ts cs0Lines n0Lines none, V.s s0Fly, V.ts cs0Ages n0Ages none, V.s s0Ready, V.s s0Buffer],
 V.lb [V.i IntKind.i64 x1Cap, V.ts cs1Places n1Places none],
 V.lb
 [V.b false, V.b false, V.b false, V.i IntKind.i64 (0 : Int), V.i IntKind.i64 (0 : Int), V.s [],
 V.sl none 0 (some 0) 0, V.s [],
 V.sl none 0 (some 0) 0, V.s [], V.s []],
 V.i IntKind.i64 (9 : Int), V.i IntKind.i64 x8z5]
 h)
 ((∃ (a : Option (Nat × Nat)),
 ∃ (l : Nat),
 ∃ (c : Option Nat),
 ∃ (k : Nat),
 ∃ (h_1 : Heap),
 appendH Try.Y h 34 34 (V.ts [] 0 (some 0))
 (V.ts cs0Lines n0Lines none) =
 some (V.sl a l c k, h_1) ∧
 ∃ (a_1 : Option (Nat × Nat)),
 ∃ (l_1 : Nat),
 ∃ (c_1 : Option Nat),
 ∃ (k_1 : Nat),
 ∃ (h : Heap),
 appendH Try.Y h_1 34 34 (V.sl a l c k)
 (V.ts [V.s s0Typed] 1 (some 1)) =
 some (V.sl a_1 l_1 c_1 k_1, h) ∧
 Con Try.Y (78 : Nat)
 [V.agg
 [V.b b3_0, V.b b3_1, V.b b3_2, V.i IntKind.i64 x0Place,
 V.i IntKind.i64 x0Clock, V.s #[].toList, V.sl a_1 l_1 c_1 k_1, V.s s0Fly,
 V.ts cs0Ages n0Ages none, V.s s0Ready, V.s s0Buffer],
 V.agg [V.i IntKind.i64 x1Cap, V.ts cs1Places n1Places none],
 V.s #[(13 : UInt8), (10 : UInt8)].toList]
 h fun (v : V) (h' : Heap) =>
 ∃ (b : Bool),
 ∃ (b_1 : Bool),
 ∃ (b_2 : Bool),
 ∃ (n : Int),
 ∃ (n_1 : Int),
 ∃ (s : List UInt8),
 ∃ (cs : List V),
 ∃ (l : Nat),
 ∃ (c : Option Nat),
 ∃ (s_1 : List UInt8),
 ∃ (cs_1 : List V),
 ∃ (l_2 : Nat),
 ∃ (c_2 : Option Nat),
 ∃ (s_2 : List UInt8),
 ∃ (s_3 : List UInt8),
 v =
 V.agg
 [V.b b, V.b b_1, V.b b_2, V.i IntKind.i64 n,
 V.i IntKind.i64 n_1, V.s s, V.ts cs l c,
 V.s s_1, V.ts cs_1 l_2 c_2, V.s s_2,
 V.s s_3] ∧
 K Out.normal 71
 [V.s s2,
 V.lb
 [V.b b, V.b b_1, V.b b_2, V.i IntKind.i64 n,
 V.i IntKind.i64 n_1, V.s s, V.ts cs l c,
 V.s s_1, V.ts cs_1 l_2 c_2, V.s s_2,
 V.s s_3],
 V.lb
 [V.i IntKind.i64 x1Cap,
 V.ts cs1Places n1Places none],
 V.lb
 [V.b b6_0, V.b b6_1, V.b b6_2,
 V.i IntKind.i64 (0 : Int),
 V.i IntKind.i64 (0 : Int), V.s [],
 V.sl none 0 (some 0)
 0,
 V.s [],
 V.sl none 0 (some 0)
 0,
 V.s [], V.s []],
 V.undef,
 V.i IntKind.i64
 (IntKind.i64.wrap (x8z5 + (1 : Int)))]
 h') ∨
 appendH Try.Y h 34 34 (V.ts [] 0 (some 0))
 (V.ts cs0Lines n0Lines none) =
 some (V.ts [] 0 (some 0), h) ∧
 ((∃ (a : Option (Nat × Nat)),
 ∃ (l : Nat),
 ∃ (c : Option Nat),
 ∃ (k : Nat),
 ∃ (h_1 : Heap),
 appendH Try.Y h 34 34 (V.ts [] 0 (some 0))
 (V.ts [V.s s0Typed] 1 (some 1)) =
 some (V.sl a l c k, h_1) ∧
 Con Try.Y (78 : Nat)
 [V.agg
 [V.b b3_0, V.b b3_1, V.b b3_2, V.i IntKind.i64 x0Place, V.i IntKind.i64 x0Clock,
 V.s #[].toList, V.sl a l c k, V.s s0Fly, V.ts cs0Ages n0Ages none, V.s s0Ready,
 V.s s0Buffer],
 V.agg [V.i IntKind.i64 x1Cap, V.ts cs1Places n1Places none],
 V.s #[(13 : UInt8), (10 : UInt8)].toList]
 h_1 fun (v : V) (h' : Heap) =>
 ∃ (b : Bool),
 ∃ (b_1 : Bool),
 ∃ (b_2 : Bool),
 ∃ (n : Int),
 ∃ (n_1 : Int),
 ∃ (s : List UInt8),
 ∃ (cs : List V),
 ∃ (l : Nat),
 ∃ (c : Option Nat),
 ∃ (s_1 : List UInt8),
 ∃ (cs_1 : List V),
 ∃ (l_1 : Nat),
 ∃ (c_1 : Option Nat),
 ∃ (s_2 : List UInt8),
 ∃ (s_3 : List UInt8),
 v =
 V.agg
 [V.b b, V.b b_1, V.b b_2, V.i IntKind.i64 n,
 V.i IntKind.i64 n_1, V.s s, V.ts cs l c, V.s s_1,
 V.ts cs_1 l_1 c_1, V.s s_2, V.s s_3] ∧
 K Out.normal 71
 [V.s s2,
 V.lb
 [V.b b, V.b b_1, V.b b_2, V.i IntKind.i64 n,
 V.i IntKind.i64 n_1, V.s s, V.ts cs l c, V.s s_1,
 V.ts cs_1 l_1 c_1, V.s s_2, V.s s_3],
 V.lb
 [V.i IntKind.i64 x1Cap,
 V.ts cs1Places n1Places none],
 V.lb
 [V.b b6_0, V.b b6_1, V.b b6_2,
 V.i IntKind.i64 (0 : Int),
 V.i IntKind.i64 (0 : Int), V.s [],
 V.sl none 0 (some 0)
 0,
 V.s [],
 V.sl none 0 (some 0)
 0,
 V.s [], V.s []],
 V.undef,
 V.i IntKind.i64 (IntKind.i64.wrap (x8z5 + (1 : Int)))]
 h') ∨
 appendH Try.Y h 34 34 (V.ts [] 0 (some 0))
 (V.ts [V.s s0Typed] 1 (some 1)) =
 some (V.ts [] 0 (some 0), h) ∧
 Con Try.Y (78 : Nat)
 [V.agg
 [V.b b3_0, V.b b3_1, V.b b3_2, V.i IntKind.i64 x0Place, V.i IntKind.i64 x0Clock, V.s #[].toList,
 V.ts [] 0 (some 0), V.s s0Fly, V.ts cs0Ages n0Ages none, V.s s0Ready,
 V.s s0Buffer],
 V.agg [V.i IntKind.i64 x1Cap, V.ts cs1Places n1Places none],
 V.s #[(13 : UInt8), (10 : UInt8)].toList]
 h fun (v : V) (h' : Heap) =>
 ∃ (b : Bool),
 ∃ (b_1 : Bool),
 ∃ (b_2 : Bool),
 ∃ (n : Int),
 ∃ (n_1 : Int),
 ∃ (s : List UInt8),
 ∃ (cs : List V),
 ∃ (l : Nat),
 ∃ (c : Option Nat),
 ∃ (s_1 : List UInt8),
 ∃ (cs_1 : List V),
 ∃ (l_1 : Nat),
 ∃ (c_1 : Option Nat),
 ∃ (s_2 : List UInt8),
 ∃ (s_3 : List UInt8),
 v =
 V.agg
 [V.b b, V.b b_1, V.b b_2, V.i IntKind.i64 n,
 V.i IntKind.i64 n_1, V.s s, V.ts cs l c, V.s s_1,
 V.ts cs_1 l_1 c_1, V.s s_2, V.s s_3] ∧
 K Out.normal 71
 [V.s s2,
 V.lb
 [V.b b, V.b b_1, V.b b_2, V.i IntKind.i64 n,
 V.i IntKind.i64 n_1, V.s s, V.ts cs l c, V.s s_1,
 V.ts cs_1 l_1 c_1, V.s s_2, V.s s_3],
 V.lb [V.i IntKind.i64 x1Cap, V.ts cs1Places n1Places none],
 V.lb
 [V.b b6_0, V.b b6_1, V.b b6_2, V.i IntKind.i64 (0 : Int),
 V.i IntKind.i64 (0 : Int), V.s [],
 V.sl none 0 (some 0) 0,
 V.s [],
 V.sl none 0 (some 0) 0,
 V.s [], V.s []],
 V.undef, V.i IntKind.i64 (IntKind.i64.wrap (x8z5 + (1 : Int)))]
 h')))
 (If (ltI (↑s0Typed.length : Int) (16 : Int))
 (((0 : Int) ≤ IntKind.i64.wrap (x8z5 + (1 : Int)) ∧
 IntKind.i64.wrap (x8z5 + (1 : Int)) ≤ (↑s2.length : Int)) ∧
 ((0 : Int) ≤ x8z5 ∧ x8z5 ≤ (↑(IntKind.i64.wrap (x8z5 + (1 : Int))).toNat : Int)) ∧
 s0Typed.length +
 (List.take ((IntKind.i64.wrap (x8z5 + (1 : Int))).toNat - x8z5.toNat)
 (List.drop x8z5.toNat s2)).length ≤
 1152921504606846976 ∧
 ((0 : Int) ≤ IntKind.i64.wrap (x8z5 + (1 : Int)) ∧
 IntKind.i64.wrap (x8z5 + (1 : Int)) ≤ (↑s2.length : Int)) ∧
 ((0 : Int) ≤ x8z5 ∧ x8z5 ≤ (↑(IntKind.i64.wrap (x8z5 + (1 : Int))).toNat : Int)) ∧
 ∃ (b : Bool),
 ∃ (b_1 : Bool),
 ∃ (b_2 : Bool),
 ∃ (n : Int),
 ∃ (n_1 : Int),
 ∃ (s : List UInt8),
 ∃ (cs : List V),
 ∃ (l : Nat),
 ∃ (c : Option Nat),
 ∃ (s_1 : List UInt8),
 ∃ (cs_1 : List V),
 ∃ (l_1 : Nat),
 ∃ (c_1 : Option Nat),
 ∃ (s_2 : List UInt8),
 ∃ (s_3 : List UInt8),
 ∃ (h_1 : Heap),
 (Con Try.Y (78 : Nat)
 [V.agg
 [V.b b3_0, V.b b3_1, V.b b3_2, V.i IntKind.i64 x0Place,
 V.i IntKind.i64 x0Clock,
 V.s
 (s0Typed ++
 List.take
 ((IntKind.i64.wrap (x8z5 + (1 : Int))).toNat -
 x8z5.toNat)
 (List.drop x8z5.toNat s2)),
 V.ts cs0Lines n0Lines none, V.s s0Fly,
 V.ts cs0Ages n0Ages none, V.s s0Ready, V.s s0Buffer],
 V.agg [V.i IntKind.i64 x1Cap, V.ts cs1Places n1Places none],
 V.s
 (List.take
 ((IntKind.i64.wrap (x8z5 + (1 : Int))).toNat - x8z5.toNat)
 (List.drop x8z5.toNat s2))]
 h fun (v : V) (h' : Heap) =>
 v =
 V.agg
 [V.b b, V.b b_1, V.b b_2, V.i IntKind.i64 n,
 V.i IntKind.i64 n_1, V.s s, V.ts cs l c, V.s s_1,
 V.ts cs_1 l_1 c_1, V.s s_2, V.s s_3] ∧
 h' = h_1) ∧
 K Out.normal 71
 [V.s s2,
 V.lb
 [V.b b, V.b b_1, V.b b_2, V.i IntKind.i64 n,
 V.i IntKind.i64 n_1, V.s s, V.ts cs l c, V.s s_1,
 V.ts cs_1 l_1 c_1, V.s s_2, V.s s_3],
 V.lb [V.i IntKind.i64 x1Cap, V.ts cs1Places n1Places none],
 V.lb
 [V.b b6_0, V.b b6_1, V.b b6_2, V.i IntKind.i64 (0 : Int),
 V.i IntKind.i64 (0 : Int), V.s [],
 V.sl none 0 (some 0) 0,
 V.s [],
 V.sl none 0 (some 0) 0,
 V.s [], V.s []],
 V.undef,
 V.i IntKind.i64 (IntKind.i64.wrap (x8z5 + (1 : Int)))]
 h_1)
 (K Out.normal 71
 [V.s s2,
 V.lb
 [V.b b3_0, V.b b3_1, V.b b3_2, V.i IntKind.i64 x0Place, V.i IntKind.i64 x0Clock, V.s s0Typed,
 V.ts cs0Lines n0Lines none, V.s s0Fly, V.ts cs0Ages n0Ages none, V.s s0Ready, V.s s0Buffer],
 V.lb [V.i IntKind.i64 x1Cap, V.ts cs1Places n1Places none],
 V.lb
 [V.b b6_0, V.b b6_1, V.b b6_2, V.i IntKind.i64 (0 : Int), V.i IntKind.i64 (0 : Int), V.s [],
 V.sl none 0 (some 0) 0, V.s [],
 V.sl none 0 (some 0) 0, V.s [], V.s []],
 V.undef, V.i IntKind.i64 (IntKind.i64.wrap (x8z5 + (1 : Int)))]
 h)))
  (K (Out.exit 0) 71
 [V.s s2,
 V.lb
 [V.b b3_0, V.b b3_1, V.b b3_2, V.i IntKind.i64 x0Place, V.i IntKind.i64 x0Clock, V.s s0Typed,
 V.ts cs0Lines n0Lines none, V.s s0Fly, V.ts cs0Ages n0Ages none, V.s s0Ready, V.s s0Buffer],
 V.lb [V.i IntKind.i64 x1Cap, V.ts cs1Places n1Places none],
 V.lb
 [V.b b6_0, V.b b6_1, V.b b6_2, V.i IntKind.i64 (0 : Int), V.i IntKind.i64 (0 : Int), V.s [],
 V.sl none 0 (some 0) 0, V.s [],
 V.sl none 0 (some 0) 0, V.s [], V.s []],
 V.undef, V.i IntKind.i64 x8z5]
 h)) := by kernel_rfl
theorem f34_2 (x0Place : Int) (x0Clock : Int) (cs0Lines : List V) (n0Lines : Nat) (cs0Ages : List V) (n0Ages : Nat) (b3_0z2 : Bool) (b3_1z2 : Bool) (b3_2z2 : Bool) (s3_5 : List UInt8) (s3_7 : List UInt8) (s3_9 : List UInt8) (s3_10 : List UInt8) (b6_0z2 : Bool) (b6_1z2 : Bool) (b6_2z2 : Bool) (s6_5 : List UInt8) (s6_7 : List UInt8) (s6_9 : List UInt8) (s6_10 : List UInt8) (h : Heap) (K : Out → Nat → List V → Heap → Prop) : (codeP Try.Y (Try.Y.loc 34) 100 (((post (flat (bodyOf Try.f34))).drop 1)) ⟨mk 71 (([3, 6] : List Nat).zip [V.lb [V.b b3_0z2, V.b b3_1z2, V.b b3_2z2, V.i IntKind.i64 x0Place, V.i IntKind.i64 x0Clock, V.s s3_5, V.ts cs0Lines n0Lines none, V.s s3_7, V.ts cs0Ages n0Ages none, V.s s3_9, V.s s3_10], V.lb [V.b b6_0z2, V.b b6_1z2, V.b b6_2z2, V.i IntKind.i64 0, V.i IntKind.i64 0, V.s s6_5, V.sl none 0 (some 0) 0, V.s s6_7, V.sl none 0 (some 0) 0, V.s s6_9, V.s s6_10]]), [], h⟩ (VQ [6, 7] K)) =
  (K Out.ret 71
  [V.lb
 [V.b b3_0z2, V.b b3_1z2, V.b b3_2z2, V.i IntKind.i64 x0Place, V.i IntKind.i64 x0Clock, V.s s3_5,
 V.ts cs0Lines n0Lines none, V.s s3_7, V.ts cs0Ages n0Ages none, V.s s3_9, V.s s3_10],
 V.i IntKind.i64 (0 : Int)]
  h) := by kernel_rfl
theorem f109_1 (b0On : Bool) (b0Shut : Bool) (b0Eof : Bool) (x0Place : Int) (x0Clock : Int) (s0Typed : List UInt8) (cs0Lines : List V) (n0Lines : Nat) (s0Fly : List UInt8) (cs0Ages : List V) (n0Ages : Nat) (s0Ready : List UInt8) (s0Buffer : List UInt8) (s2 : List UInt8) (a8 : Option (Nat × Nat)) (l8 : Nat) (c8 : Option Nat) (k8 : Nat) (x9 : Int) (h : Heap) (K : Out → Nat → List V → Heap → Prop) : (codeP Try.Y (Try.Y.loc 109) 100 ((flat (loopB (post (flat (bodyOf Try.f109)))))) ⟨mk 38 (([2, 3, 6, 8, 9] : List Nat).zip [V.s s2, V.lb [V.b b0On, V.b b0Shut, V.b b0Eof, V.i IntKind.i64 x0Place, V.i IntKind.i64 x0Clock, V.s s0Typed, V.ts cs0Lines n0Lines none, V.s s0Fly, V.ts cs0Ages n0Ages none, V.s s0Ready, V.s s0Buffer], V.lb [V.b false, V.b false, V.b false, V.i IntKind.i64 0, V.i IntKind.i64 0, V.s [], V.sl none 0 (some 0) 0, V.s [], V.sl none 0 (some 0) 0, V.s [], V.s []], V.sl a8 l8 c8 k8, V.i IntKind.i64 x9]), [], h⟩ (VQ [2, 3, 6, 8, 9] K)) =
  (If (ltI x9 (↑s2.length : Int))
  (∃ (a : Option (Nat × Nat)),
 ∃ (l : Nat),
 ∃ (c : Option Nat),
 ∃ (k : Nat),
 ∃ (h_1 : Heap),
 appendH Try.Y h 41 41 (V.sl a8 l8 c8 k8)
 (V.ts [V.i IntKind.i64 (0 : Int)] 1 (some 1)) =
 some (V.sl a l c k, h_1) ∧
 K Out.normal 38
 [V.s s2,
 V.lb
 [V.b b0On, V.b b0Shut, V.b b0Eof, V.i IntKind.i64 x0Place, V.i IntKind.i64 x0Clock, V.s s0Typed,
 V.ts cs0Lines n0Lines none, V.s s0Fly, V.ts cs0Ages n0Ages none, V.s s0Ready, V.s s0Buffer],
 V.lb
 [V.b false, V.b false, V.b false, V.i IntKind.i64 (0 : Int), V.i IntKind.i64 (0 : Int), V.s [],
 V.sl none 0 (some 0) 0, V.s [],
 V.sl none 0 (some 0) 0, V.s [], V.s []],
 V.sl a l c k, V.i IntKind.i64 (IntKind.i64.wrap (x9 + (1 : Int)))]
 h_1)
  (K (Out.exit 0) 38
 [V.s s2,
 V.lb
 [V.b b0On, V.b b0Shut, V.b b0Eof, V.i IntKind.i64 x0Place, V.i IntKind.i64 x0Clock, V.s s0Typed,
 V.ts cs0Lines n0Lines none, V.s s0Fly, V.ts cs0Ages n0Ages none, V.s s0Ready, V.s s0Buffer],
 V.lb
 [V.b false, V.b false, V.b false, V.i IntKind.i64 (0 : Int), V.i IntKind.i64 (0 : Int), V.s [],
 V.sl none 0 (some 0) 0, V.s [],
 V.sl none 0 (some 0) 0, V.s [], V.s []],
 V.sl a8 l8 c8 k8, V.i IntKind.i64 x9]
 h)) := by kernel_rfl
theorem f109_2 (b0On : Bool) (b0Shut : Bool) (b0Eof : Bool) (x0Place : Int) (x0Clock : Int) (s0Typed : List UInt8) (cs0Lines : List V) (n0Lines : Nat) (s0Fly : List UInt8) (cs0Ages : List V) (n0Ages : Nat) (s0Ready : List UInt8) (s0Buffer : List UInt8) (s2 : List UInt8) (a8 : Option (Nat × Nat)) (l8 : Nat) (c8 : Option Nat) (k8 : Nat) (h : Heap) (K : Out → Nat → List V → Heap → Prop) : (codeP Try.Y (Try.Y.loc 109) 100 (((post (flat (bodyOf Try.f109))).drop 1)) ⟨mk 38 (([2, 3, 6, 8] : List Nat).zip [V.s s2, V.lb [V.b b0On, V.b b0Shut, V.b b0Eof, V.i IntKind.i64 x0Place, V.i IntKind.i64 x0Clock, V.s s0Typed, V.ts cs0Lines n0Lines none, V.s s0Fly, V.ts cs0Ages n0Ages none, V.s s0Ready, V.s s0Buffer], V.lb [V.b false, V.b false, V.b false, V.i IntKind.i64 0, V.i IntKind.i64 0, V.s [], V.sl none 0 (some 0) 0, V.s [], V.sl none 0 (some 0) 0, V.s [], V.s []], V.sl a8 l8 c8 k8]), [], h⟩ (VQ [6, 7] K)) =
  (s0Fly.length + s2.length ≤ 1152921504606846976 ∧
  K Out.ret 38
 [V.lb
 [V.b b0On, V.b b0Shut, V.b b0Eof, V.i IntKind.i64 x0Place, V.i IntKind.i64 x0Clock, V.s s0Typed,
 V.ts cs0Lines n0Lines none, V.s (s0Fly ++ s2), V.sl a8 l8 c8 k8, V.s s0Ready, V.s s0Buffer],
 V.b true]
 h) := by kernel_rfl
theorem f109e_1 (b0On : Bool) (b0Shut : Bool) (b0Eof : Bool) (x0Place : Int) (x0Clock : Int) (s0Typed : List UInt8) (cs0Lines : List V) (n0Lines : Nat) (s0Fly : List UInt8) (cs0Ages : List V) (n0Ages : Nat) (s0Ready : List UInt8) (s0Buffer : List UInt8) (s2 : List UInt8) (h : Heap) (K : Out → Nat → List V → Heap → Prop) : (codeP Try.Y (Try.Y.loc 109) 100 ((flat (loopB (post (flat (bodyOf Try.f109)))))) ⟨mk 38 (([2, 3, 6, 8, 9] : List Nat).zip [V.s s2, V.lb [V.b b0On, V.b b0Shut, V.b b0Eof, V.i IntKind.i64 x0Place, V.i IntKind.i64 x0Clock, V.s s0Typed, V.ts cs0Lines n0Lines none, V.s s0Fly, V.ts cs0Ages n0Ages none, V.s s0Ready, V.s s0Buffer], V.lb [V.b false, V.b false, V.b false, V.i IntKind.i64 0, V.i IntKind.i64 0, V.s [], V.sl none 0 (some 0) 0, V.s [], V.sl none 0 (some 0) 0, V.s [], V.s []], V.ts [] 0 (some 0), V.i IntKind.i64 0]), [], h⟩ (VQ [2, 3, 6, 8, 9] K)) =
  (If (ltI (0 : Int) (↑s2.length : Int))
  ((∃ (a : Option (Nat × Nat)),
 ∃ (l : Nat),
 ∃ (c : Option Nat),
 ∃ (k : Nat),
 ∃ (h_1 : Heap),
 appendH Try.Y h 41 41 (V.ts [] 0 (some 0))
 (V.ts [V.i IntKind.i64 (0 : Int)] 1 (some 1)) =
 some (V.sl a l c k, h_1) ∧
 K Out.normal 38
 [V.s s2,
 V.lb
 [V.b b0On, V.b b0Shut, V.b b0Eof, V.i IntKind.i64 x0Place, V.i IntKind.i64 x0Clock, V.s s0Typed,
 V.ts cs0Lines n0Lines none, V.s s0Fly, V.ts cs0Ages n0Ages none, V.s s0Ready, V.s s0Buffer],
 V.lb
 [V.b false, V.b false, V.b false, V.i IntKind.i64 (0 : Int), V.i IntKind.i64 (0 : Int), V.s [],
 V.sl none 0 (some 0) 0, V.s [],
 V.sl none 0 (some 0) 0, V.s [], V.s []],
 V.sl a l c k, V.i IntKind.i64 (IntKind.i64.wrap ((0 : Int) + (1 : Int)))]
 h_1) ∨
 appendH Try.Y h 41 41 (V.ts [] 0 (some 0))
 (V.ts [V.i IntKind.i64 (0 : Int)] 1 (some 1)) =
 some (V.ts [] 0 (some 0), h) ∧
 K Out.normal 38
 [V.s s2,
 V.lb
 [V.b b0On, V.b b0Shut, V.b b0Eof, V.i IntKind.i64 x0Place, V.i IntKind.i64 x0Clock, V.s s0Typed,
 V.ts cs0Lines n0Lines none, V.s s0Fly, V.ts cs0Ages n0Ages none, V.s s0Ready, V.s s0Buffer],
 V.lb
 [V.b false, V.b false, V.b false, V.i IntKind.i64 (0 : Int), V.i IntKind.i64 (0 : Int), V.s [],
 V.sl none 0 (some 0) 0, V.s [],
 V.sl none 0 (some 0) 0, V.s [], V.s []],
 V.ts [] 0 (some 0), V.i IntKind.i64 (IntKind.i64.wrap ((0 : Int) + (1 : Int)))]
 h)
  (K (Out.exit 0) 38
 [V.s s2,
 V.lb
 [V.b b0On, V.b b0Shut, V.b b0Eof, V.i IntKind.i64 x0Place, V.i IntKind.i64 x0Clock, V.s s0Typed,
 V.ts cs0Lines n0Lines none, V.s s0Fly, V.ts cs0Ages n0Ages none, V.s s0Ready, V.s s0Buffer],
 V.lb
 [V.b false, V.b false, V.b false, V.i IntKind.i64 (0 : Int), V.i IntKind.i64 (0 : Int), V.s [],
 V.sl none 0 (some 0) 0, V.s [],
 V.sl none 0 (some 0) 0, V.s [], V.s []],
 V.ts [] 0 (some 0), V.i IntKind.i64 (0 : Int)]
 h)) := by kernel_rfl
theorem f109e_2 (b0On : Bool) (b0Shut : Bool) (b0Eof : Bool) (x0Place : Int) (x0Clock : Int) (s0Typed : List UInt8) (cs0Lines : List V) (n0Lines : Nat) (s0Fly : List UInt8) (cs0Ages : List V) (n0Ages : Nat) (s0Ready : List UInt8) (s0Buffer : List UInt8) (s2 : List UInt8) (h : Heap) (K : Out → Nat → List V → Heap → Prop) : (codeP Try.Y (Try.Y.loc 109) 100 (((post (flat (bodyOf Try.f109))).drop 1)) ⟨mk 38 (([2, 3, 6, 8] : List Nat).zip [V.s s2, V.lb [V.b b0On, V.b b0Shut, V.b b0Eof, V.i IntKind.i64 x0Place, V.i IntKind.i64 x0Clock, V.s s0Typed, V.ts cs0Lines n0Lines none, V.s s0Fly, V.ts cs0Ages n0Ages none, V.s s0Ready, V.s s0Buffer], V.lb [V.b false, V.b false, V.b false, V.i IntKind.i64 0, V.i IntKind.i64 0, V.s [], V.sl none 0 (some 0) 0, V.s [], V.sl none 0 (some 0) 0, V.s [], V.s []], V.ts [] 0 (some 0)]), [], h⟩ (VQ [6, 7] K)) =
  (s0Fly.length + s2.length ≤ 1152921504606846976 ∧
  K Out.ret 38
 [V.lb
 [V.b b0On, V.b b0Shut, V.b b0Eof, V.i IntKind.i64 x0Place, V.i IntKind.i64 x0Clock, V.s s0Typed,
 V.ts cs0Lines n0Lines none, V.s (s0Fly ++ s2), V.ts [] 0 (some 0), V.s s0Ready,
 V.s s0Buffer],
 V.b true]
 h) := by kernel_rfl
end Go.Y
