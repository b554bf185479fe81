/- What the pieces of functions come to: printed by program. -/
import Derived.Test.YtpddiafjmkjpmaaYTryP
import Derived.Test.YtpddiafjmkjpmaaYLoop
namespace Go.Y
open Go.Proofs
set_option maxRecDepth 100000
set_option maxHeartbeats 0
theorem f11_0 (b0On : Bool) (b0Shut : Bool) (b0Eof : Bool) (x0Place : Int) (x0Clock : Int) (s0Typed : List UInt8) (cs0Lines : List V) (n0Lines : Nat) (s0Fly : List UInt8) (cs0Ages : List V) (n0Ages : Nat) (s0Ready : List UInt8) (s0Buffer : List UInt8) (x1Cap : Int) (cs1Places : List V) (n1Places : Nat) (h : Heap) (K : Out → Nat → List V → Heap → Prop) : (codeP Try.Y (Try.Y.loc 11) 100 (pre (flat (bodyOf Try.f11))) ⟨(V.agg [V.b b0On, V.b b0Shut, V.b b0Eof, V.i IntKind.i64 x0Place, V.i IntKind.i64 x0Clock, V.s s0Typed, V.ts cs0Lines n0Lines none, V.s s0Fly, V.ts cs0Ages n0Ages none, V.s s0Ready, V.s s0Buffer] :: V.agg [V.i IntKind.i64 x1Cap, V.ts cs1Places n1Places none] :: List.replicate 59 .undef), [], h⟩ (VQ [2, 3, 4, 5, 6, 8, 36] K)) =
  (∃ (b : Bool),
  (PCon Try.Y (39 : Nat) [] fun (v : V) => v = V.b b) ∧
 If (!b)
 (K Out.ret 61
 [V.lb
 [V.b b0On, V.b b0Shut, V.b b0Eof, V.i IntKind.i64 x0Place, V.i IntKind.i64 x0Clock, V.s s0Typed,
 V.ts cs0Lines n0Lines none, V.s s0Fly, V.ts cs0Ages n0Ages none, V.s s0Ready, V.s s0Buffer],
 V.lb [V.i IntKind.i64 x1Cap, V.ts cs1Places n1Places none], V.b false, V.undef, V.undef, V.b true, V.undef]
 h)
 (∃ (b : Bool),
 (PCon Try.Y (40 : Nat)
 [V.agg
 [V.b b0On, V.b b0Shut, V.b b0Eof, V.i IntKind.i64 x0Place, V.i IntKind.i64 x0Clock, V.s s0Typed,
 V.ts cs0Lines n0Lines none, V.s s0Fly, V.ts cs0Ages n0Ages none, V.s s0Ready, V.s s0Buffer],
 V.agg [V.i IntKind.i64 x1Cap, V.ts cs1Places n1Places none]]
 fun (v : V) => v = V.b b) ∧
 If (!b)
 (K Out.ret 61
 [V.lb
 [V.b b0On, V.b b0Shut, V.b b0Eof, V.i IntKind.i64 x0Place, V.i IntKind.i64 x0Clock, V.s s0Typed,
 V.ts cs0Lines n0Lines none, V.s s0Fly, V.ts cs0Ages n0Ages none, V.s s0Ready, V.s s0Buffer],
 V.lb [V.i IntKind.i64 x1Cap, V.ts cs1Places n1Places none], V.b true, V.undef, V.undef, V.b false,
 V.undef]
 h)
 (∃ (b : Bool),
 (PCon Try.Y (24 : Nat)
 [V.agg
 [V.b b0On, V.b b0Shut, V.b b0Eof, V.i IntKind.i64 x0Place, V.i IntKind.i64 x0Clock, V.s s0Typed,
 V.ts cs0Lines n0Lines none, V.s s0Fly, V.ts cs0Ages n0Ages none, V.s s0Ready, V.s s0Buffer],
 V.agg [V.i IntKind.i64 x1Cap, V.ts cs1Places n1Places none]]
 fun (v : V) => v = V.b b) ∧
 If (!b)
 (K Out.ret 61
 [V.lb
 [V.b b0On, V.b b0Shut, V.b b0Eof, V.i IntKind.i64 x0Place, V.i IntKind.i64 x0Clock, V.s s0Typed,
 V.ts cs0Lines n0Lines none, V.s s0Fly, V.ts cs0Ages n0Ages none, V.s s0Ready, V.s s0Buffer],
 V.lb [V.i IntKind.i64 x1Cap, V.ts cs1Places n1Places none], V.b true, V.undef, V.undef, V.b false,
 V.undef]
 h)
 (If (ltI (1125899906842624 : Int) x0Clock)
 (K Out.ret 61
 [V.lb
 [V.b b0On, V.b b0Shut, V.b b0Eof, V.i IntKind.i64 x0Place, V.i IntKind.i64 x0Clock,
 V.s s0Typed, V.ts cs0Lines n0Lines none, V.s s0Fly, V.ts cs0Ages n0Ages none, V.s s0Ready,
 V.s s0Buffer],
 V.lb [V.i IntKind.i64 x1Cap, V.ts cs1Places n1Places none], V.b true, V.undef, V.undef,
 V.b false, V.undef]
 h)
 (∃ (b : Bool),
 (PCon Try.Y (47 : Nat) [V.agg [V.i IntKind.i64 x1Cap, V.ts cs1Places n1Places none]]
 fun (v : V) => v = V.b b) ∧
 If (!b)
 (K Out.ret 61
 [V.lb
 [V.b b0On, V.b b0Shut, V.b b0Eof, V.i IntKind.i64 x0Place, V.i IntKind.i64 x0Clock,
 V.s s0Typed, V.ts cs0Lines n0Lines none, V.s s0Fly, V.ts cs0Ages n0Ages none,
 V.s s0Ready, V.s s0Buffer],
 V.lb [V.i IntKind.i64 x1Cap, V.ts cs1Places n1Places none], V.b true, V.undef, V.undef,
 V.b false, V.undef]
 h)
 (∃ (cs : List V),
 ∃ (l : Nat),
 ∃ (c : Option Nat),
 (PCon Try.Y (42 : Nat)
 [V.agg
 [V.b b0On, V.b b0Shut, V.b b0Eof, V.i IntKind.i64 x0Place,
 V.i IntKind.i64 x0Clock, V.s s0Typed, V.ts cs0Lines n0Lines none, V.s s0Fly,
 V.ts cs0Ages n0Ages none, V.s s0Ready, V.s s0Buffer],
 V.agg [V.i IntKind.i64 x1Cap, V.ts cs1Places n1Places none]]
 fun (v : V) => v = V.ts cs l c) ∧
 ∃ (b : Bool),
 (PCon Try.Y (44 : Nat)
 [V.agg
 [V.b b0On, V.b b0Shut, V.b b0Eof, V.i IntKind.i64 x0Place,
 V.i IntKind.i64 x0Clock, V.s s0Typed, V.ts cs0Lines n0Lines none,
 V.s s0Fly, V.ts cs0Ages n0Ages none, V.s s0Ready, V.s s0Buffer],
 V.agg [V.i IntKind.i64 x1Cap, V.ts cs1Places n1Places none]]
 fun (v : V) => v = V.b b) ∧
 K Out.normal 61
 [V.lb
 [V.b b0On, V.b b0Shut, V.b b0Eof, V.i IntKind.i64 x0Place,
 V.i IntKind.i64 x0Clock, V.s s0Typed, V.ts cs0Lines n0Lines none,
 V.s s0Fly, V.ts cs0Ages n0Ages none, V.s s0Ready, V.s s0Buffer],
 V.lb [V.i IntKind.i64 x1Cap, V.ts cs1Places n1Places none], V.b false,
 V.i IntKind.i64 (↑l : Int), V.b b, V.b false, V.i IntKind.i64 (0 : Int)]
 h)))))) := by kernel_rfl
theorem f11_1 (x0Place : Int) (x0Clock : Int) (s0Typed : List UInt8) (cs0Lines : List V) (n0Lines : Nat) (s0Fly : List UInt8) (cs0Ages : List V) (n0Ages : Nat) (s0Ready : List UInt8) (s0Buffer : List UInt8) (x1Cap : Int) (cs1Places : List V) (n1Places : Nat) (b2_0 : Bool) (b2_1 : Bool) (b2_2 : Bool) (x5 : Int) (b6 : Bool) (b8 : Bool) (x36 : Int) (h : Heap) (K : Out → Nat → List V → Heap → Prop) : (codeP Try.Y (Try.Y.loc 11) 100 ((flat (loopB (post (flat (bodyOf Try.f11)))))) ⟨mk 61 (([2, 3, 5, 6, 8, 36] : List Nat).zip [V.lb [V.b b2_0, V.b b2_1, V.b b2_2, V.i IntKind.i64 x0Place, V.i IntKind.i64 x0Clock, V.s s0Typed, V.ts cs0Lines n0Lines none, V.s s0Fly, V.ts cs0Ages n0Ages none, V.s s0Ready, V.s s0Buffer], V.lb [V.i IntKind.i64 x1Cap, V.ts cs1Places n1Places none], V.i IntKind.i64 x5, V.b b6, V.b b8, V.i IntKind.i64 x36]), [], h⟩ (VQ [2, 3, 4, 5, 6, 8, 36] K)) =
  (If (ltI x36 (10 : Int))
  (∃ (b : Bool),
 ∃ (b_1 : Bool),
 ∃ (b_2 : Bool),
 ∃ (n : Int),
 ∃ (n_1 : Int),
 ∃ (s : List UInt8),
 ∃ (cs : List V),
 ∃ (l : Nat),
 ∃ (c : Option Nat),
 ∃ (s_1 : List UInt8),
 ∃ (cs_1 : List V),
 ∃ (l_1 : Nat),
 ∃ (c_1 : Option Nat),
 ∃ (s_2 : List UInt8),
 ∃ (s_3 : List UInt8),
 (PCon Try.Y (46 : Nat)
 [V.agg
 [V.b b2_0, V.b b2_1, V.b b2_2, V.i IntKind.i64 x0Place, V.i IntKind.i64 x0Clock,
 V.s s0Typed, V.ts cs0Lines n0Lines none, V.s s0Fly, V.ts cs0Ages n0Ages none,
 V.s s0Ready, V.s s0Buffer]]
 fun (v : V) =>
 v =
 V.agg
 [V.b b, V.b b_1, V.b b_2, V.i IntKind.i64 n, V.i IntKind.i64 n_1, V.s s,
 V.ts cs l c, V.s s_1, V.ts cs_1 l_1 c_1, V.s s_2, V.s s_3]) ∧
 ∃ (cs_2 : List V),
 ∃ (l_2 : Nat),
 ∃ (c_2 : Option Nat),
 (PCon Try.Y (42 : Nat)
 [V.agg
 [V.b b, V.b b_1, V.b b_2, V.i IntKind.i64 n, V.i IntKind.i64 n_1, V.s s,
 V.ts cs l c, V.s s_1, V.ts cs_1 l_1 c_1, V.s s_2, V.s s_3],
 V.agg [V.i IntKind.i64 x1Cap, V.ts cs1Places n1Places none]]
 fun (v : V) => v = V.ts cs_2 l_2 c_2) ∧
 If (ltI (↑l_2 : Int) x5)
 (K Out.ret 61
 [V.lb
 [V.b b, V.b b_1, V.b b_2, V.i IntKind.i64 n, V.i IntKind.i64 n_1,
 V.s s, V.ts cs l c, V.s s_1, V.ts cs_1 l_1 c_1, V.s s_2, V.s s_3],
 V.lb [V.i IntKind.i64 x1Cap, V.ts cs1Places n1Places none], V.b false,
 V.i IntKind.i64 x5, V.b b6, V.b b8, V.i IntKind.i64 x36]
 h)
 (K Out.normal 61
 [V.lb
 [V.b b, V.b b_1, V.b b_2, V.i IntKind.i64 n, V.i IntKind.i64 n_1,
 V.s s, V.ts cs l c, V.s s_1, V.ts cs_1 l_1 c_1, V.s s_2, V.s s_3],
 V.lb [V.i IntKind.i64 x1Cap, V.ts cs1Places n1Places none], V.undef,
 V.i IntKind.i64 x5, V.b b6, V.b b8,
 V.i IntKind.i64 (IntKind.i64.wrap (x36 + (1 : Int)))]
 h))
  (K (Out.exit 0) 61
 [V.lb
 [V.b b2_0, V.b b2_1, V.b b2_2, V.i IntKind.i64 x0Place, V.i IntKind.i64 x0Clock, V.s s0Typed,
 V.ts cs0Lines n0Lines none, V.s s0Fly, V.ts cs0Ages n0Ages none, V.s s0Ready, V.s s0Buffer],
 V.lb [V.i IntKind.i64 x1Cap, V.ts cs1Places n1Places none], V.undef, V.i IntKind.i64 x5, V.b b6, V.b b8,
 V.i IntKind.i64 x36]
 h)) := by kernel_rfl
theorem f11_2 (x0Place : Int) (x0Clock : Int) (cs0Lines : List V) (n0Lines : Nat) (cs0Ages : List V) (n0Ages : Nat) (x1Cap : Int) (cs1Places : List V) (n1Places : Nat) (x5 : Int) (b2_0z2 : Bool) (b2_1z2 : Bool) (b2_2z2 : Bool) (s2_5 : List UInt8) (s2_7 : List UInt8) (s2_9 : List UInt8) (s2_10 : List UInt8) (b6z2 : Bool) (b8z2 : Bool) (h : Heap) (K : Out → Nat → List V → Heap → Prop) : (codeP Try.Y (Try.Y.loc 11) 100 (((post (flat (bodyOf Try.f11))).drop 1)) ⟨mk 61 (([2, 3, 5, 6, 8] : List Nat).zip [V.lb [V.b b2_0z2, V.b b2_1z2, V.b b2_2z2, V.i IntKind.i64 x0Place, V.i IntKind.i64 x0Clock, V.s s2_5, V.ts cs0Lines n0Lines none, V.s s2_7, V.ts cs0Ages n0Ages none, V.s s2_9, V.s s2_10], V.lb [V.i IntKind.i64 x1Cap, V.ts cs1Places n1Places none], V.i IntKind.i64 x5, V.b b6z2, V.b b8z2]), [], h⟩ (VQ [4] K)) =
  (∃ (cs : List V),
  ∃ (l : Nat),
 ∃ (c : Option Nat),
 (PCon Try.Y (42 : Nat)
 [V.agg
 [V.b b2_0z2, V.b b2_1z2, V.b b2_2z2, V.i IntKind.i64 x0Place, V.i IntKind.i64 x0Clock, V.s s2_5,
 V.ts cs0Lines n0Lines none, V.s s2_7, V.ts cs0Ages n0Ages none, V.s s2_9, V.s s2_10],
 V.agg [V.i IntKind.i64 x1Cap, V.ts cs1Places n1Places none]]
 fun (v : V) => v = V.ts cs l c) ∧
 If (b6z2 == ltI x5 (↑l : Int))
 (∃ (b : Bool),
 (PCon Try.Y (44 : Nat)
 [V.agg
 [V.b b2_0z2, V.b b2_1z2, V.b b2_2z2, V.i IntKind.i64 x0Place, V.i IntKind.i64 x0Clock, V.s s2_5,
 V.ts cs0Lines n0Lines none, V.s s2_7, V.ts cs0Ages n0Ages none, V.s s2_9, V.s s2_10],
 V.agg [V.i IntKind.i64 x1Cap, V.ts cs1Places n1Places none]]
 fun (v : V) => v = V.b b) ∧
 K Out.ret 61 [V.b !b] h)
 (K Out.ret 61 [V.b false] h)) := by kernel_rfl
theorem f10_0 (b0On : Bool) (b0Shut : Bool) (b0Eof : Bool) (x0Place : Int) (x0Clock : Int) (s0Typed : List UInt8) (cs0Lines : List V) (n0Lines : Nat) (s0Fly : List UInt8) (cs0Ages : List V) (n0Ages : Nat) (s0Ready : List UInt8) (s0Buffer : List UInt8) (x1Cap : Int) (cs1Places : List V) (n1Places : Nat) (x2_0 : Int) (x2_1 : Int) (h : Heap) (K : Out → Nat → List V → Heap → Prop) : (codeP Try.Y (Try.Y.loc 10) 100 (pre (flat (bodyOf Try.f10))) ⟨(V.agg [V.b b0On, V.b b0Shut, V.b b0Eof, V.i IntKind.i64 x0Place, V.i IntKind.i64 x0Clock, V.s s0Typed, V.ts cs0Lines n0Lines none, V.s s0Fly, V.ts cs0Ages n0Ages none, V.s s0Ready, V.s s0Buffer] :: V.agg [V.i IntKind.i64 x1Cap, V.ts cs1Places n1Places none] :: V.agg [V.i IntKind.u8 x2_0, V.i IntKind.u8 x2_1] :: List.replicate 130 .undef), [], h⟩ (VQ [3, 4, 5, 6, 7, 14, 44, 45] K)) =
  (∃ (b : Bool),
  (PCon Try.Y (39 : Nat) [] fun (v : V) => v = V.b b) ∧
 If (!b)
 (K Out.ret 133
 [V.lb
 [V.b b0On, V.b b0Shut, V.b b0Eof, V.i IntKind.i64 x0Place, V.i IntKind.i64 x0Clock, V.s s0Typed,
 V.ts cs0Lines n0Lines none, V.s s0Fly, V.ts cs0Ages n0Ages none, V.s s0Ready, V.s s0Buffer],
 V.lb [V.i IntKind.i64 x1Cap, V.ts cs1Places n1Places none], V.lb [V.i IntKind.u8 x2_0, V.i IntKind.u8 x2_1],
 V.b false, V.undef, V.undef, V.undef, V.undef]
 h)
 (∃ (b : Bool),
 (PCon Try.Y (40 : Nat)
 [V.agg
 [V.b b0On, V.b b0Shut, V.b b0Eof, V.i IntKind.i64 x0Place, V.i IntKind.i64 x0Clock, V.s s0Typed,
 V.ts cs0Lines n0Lines none, V.s s0Fly, V.ts cs0Ages n0Ages none, V.s s0Ready, V.s s0Buffer],
 V.agg [V.i IntKind.i64 x1Cap, V.ts cs1Places n1Places none]]
 fun (v : V) => v = V.b b) ∧
 If (!b)
 (K Out.ret 133
 [V.lb
 [V.b b0On, V.b b0Shut, V.b b0Eof, V.i IntKind.i64 x0Place, V.i IntKind.i64 x0Clock, V.s s0Typed,
 V.ts cs0Lines n0Lines none, V.s s0Fly, V.ts cs0Ages n0Ages none, V.s s0Ready, V.s s0Buffer],
 V.lb [V.i IntKind.i64 x1Cap, V.ts cs1Places n1Places none],
 V.lb [V.i IntKind.u8 x2_0, V.i IntKind.u8 x2_1], V.b true, V.undef, V.undef, V.undef, V.undef]
 h)
 (∃ (b : Bool),
 (PCon Try.Y (24 : Nat)
 [V.agg
 [V.b b0On, V.b b0Shut, V.b b0Eof, V.i IntKind.i64 x0Place, V.i IntKind.i64 x0Clock, V.s s0Typed,
 V.ts cs0Lines n0Lines none, V.s s0Fly, V.ts cs0Ages n0Ages none, V.s s0Ready, V.s s0Buffer],
 V.agg [V.i IntKind.i64 x1Cap, V.ts cs1Places n1Places none]]
 fun (v : V) => v = V.b b) ∧
 If (!b)
 (K Out.ret 133
 [V.lb
 [V.b b0On, V.b b0Shut, V.b b0Eof, V.i IntKind.i64 x0Place, V.i IntKind.i64 x0Clock, V.s s0Typed,
 V.ts cs0Lines n0Lines none, V.s s0Fly, V.ts cs0Ages n0Ages none, V.s s0Ready, V.s s0Buffer],
 V.lb [V.i IntKind.i64 x1Cap, V.ts cs1Places n1Places none],
 V.lb [V.i IntKind.u8 x2_0, V.i IntKind.u8 x2_1], V.b true, V.undef, V.undef, V.undef, V.undef]
 h)
 (If (ltI (1125899906842624 : Int) x0Clock)
 (K Out.ret 133
 [V.lb
 [V.b b0On, V.b b0Shut, V.b b0Eof, V.i IntKind.i64 x0Place, V.i IntKind.i64 x0Clock,
 V.s s0Typed, V.ts cs0Lines n0Lines none, V.s s0Fly, V.ts cs0Ages n0Ages none, V.s s0Ready,
 V.s s0Buffer],
 V.lb [V.i IntKind.i64 x1Cap, V.ts cs1Places n1Places none],
 V.lb [V.i IntKind.u8 x2_0, V.i IntKind.u8 x2_1], V.b true, V.undef, V.undef, V.undef, V.undef]
 h)
 (∃ (b : Bool),
 ∃ (b_1 : Bool),
 ∃ (b_2 : Bool),
 ∃ (n : Int),
 ∃ (n_1 : Int),
 ∃ (s : List UInt8),
 ∃ (cs : List V),
 ∃ (l : Nat),
 ∃ (c : Option Nat),
 ∃ (s_1 : List UInt8),
 ∃ (cs_1 : List V),
 ∃ (l_1 : Nat),
 ∃ (c_1 : Option Nat),
 ∃ (s_2 : List UInt8),
 ∃ (s_3 : List UInt8),
 (PCon Try.Y (41 : Nat)
 [V.agg
 [V.b b0On, V.b b0Shut, V.b b0Eof, V.i IntKind.i64 x0Place,
 V.i IntKind.i64 x0Clock, V.s s0Typed,
 V.ts cs0Lines n0Lines none, V.s s0Fly,
 V.ts cs0Ages n0Ages none, V.s s0Ready, V.s s0Buffer],
 V.agg [V.i IntKind.i64 x1Cap, V.ts cs1Places n1Places none]]
 fun (v : V) =>
 v =
 V.agg
 [V.b b, V.b b_1, V.b b_2, V.i IntKind.i64 n,
 V.i IntKind.i64 n_1, V.s s, V.ts cs l c, V.s s_1,
 V.ts cs_1 l_1 c_1, V.s s_2, V.s s_3]) ∧
 ∃ (b_3 : Bool),
 ∃ (b_4 : Bool),
 ∃ (b_5 : Bool),
 ∃ (n_2 : Int),
 ∃ (n_3 : Int),
 ∃ (s_4 : List UInt8),
 ∃ (cs_2 : List V),
 ∃ (l_2 : Nat),
 ∃ (c_2 : Option Nat),
 ∃ (s_5 : List UInt8),
 ∃ (cs_3 : List V),
 ∃ (l_3 : Nat),
 ∃ (c_3 : Option Nat),
 ∃ (s_6 : List UInt8),
 ∃ (s_7 : List UInt8),
 (PCon Try.Y (41 : Nat)
 [V.agg
 [V.b b, V.b b_1, V.b b_2,
 V.i IntKind.i64 n,
 V.i IntKind.i64 n_1, V.s s,
 V.ts cs l c, V.s s_1,
 V.ts cs_1 l_1 c_1, V.s s_2,
 V.s s_3],
 V.agg
 [V.i IntKind.i64 x1Cap,
 V.ts cs1Places n1Places
 none]]
 fun (v : V) =>
 v =
 V.agg
 [V.b b_3, V.b b_4, V.b b_5,
 V.i IntKind.i64 n_2,
 V.i IntKind.i64 n_3,
 V.s s_4, V.ts cs_2 l_2 c_2,
 V.s s_5, V.ts cs_3 l_3 c_3,
 V.s s_6, V.s s_7]) ∧
 ∃ (b_6 : Bool),
 (PCon Try.Y (38 : Nat)
 [V.agg
 [V.b b_3, V.b b_4,
 V.b b_5,
 V.i IntKind.i64 n_2,
 V.i IntKind.i64 n_3,
 V.s s_4,
 V.ts cs_2 l_2 c_2,
 V.s s_5,
 V.ts cs_3 l_3 c_3,
 V.s s_6, V.s s_7],
 V.agg
 [V.b b, V.b b_1, V.b b_2,
 V.i IntKind.i64 n,
 V.i IntKind.i64 n_1,
 V.s s, V.ts cs l c,
 V.s s_1,
 V.ts cs_1 l_1 c_1,
 V.s s_2, V.s s_3]]
 fun (v : V) => v = V.b b_6) ∧
 If (!b_6)
 (K Out.ret 133
 [V.lb
 [V.b b0On, V.b b0Shut,
 V.b b0Eof,
 V.i IntKind.i64
 x0Place,
 V.i IntKind.i64
 x0Clock,
 V.s s0Typed,
 V.ts cs0Lines n0Lines
 none,
 V.s s0Fly,
 V.ts cs0Ages n0Ages
 none,
 V.s s0Ready,
 V.s s0Buffer],
 V.lb
 [V.i IntKind.i64 x1Cap,
 V.ts cs1Places
 n1Places none],
 V.lb
 [V.i IntKind.u8 x2_0,
 V.i IntKind.u8 x2_1],
 V.b false,
 V.lb
 [V.b b, V.b b_1,
 V.b b_2,
 V.i IntKind.i64 n,
 V.i IntKind.i64 n_1,
 V.s s, V.ts cs l c,
 V.s s_1,
 V.ts cs_1 l_1 c_1,
 V.s s_2, V.s s_3],
 V.undef, V.undef, V.undef]
 h)
 (((0 : Int) ≤ (0 : Int) ∧
 (0 : Int) <
 (↑(2 : Nat) : Int)) ∧
 ((21 : Int) = (0 : Int) →
 False) ∧
 K Out.normal 133
 [V.lb
 [V.b b0On,
 V.b b0Shut,
 V.b b0Eof,
 V.i IntKind.i64
 x0Place,
 V.i IntKind.i64
 x0Clock,
 V.s s0Typed,
 V.ts cs0Lines
 n0Lines none,
 V.s s0Fly,
 V.ts cs0Ages
 n0Ages none,
 V.s s0Ready,
 V.s s0Buffer],
 V.lb
 [V.i IntKind.i64
 x1Cap,
 V.ts cs1Places
 n1Places none],
 V.lb
 [V.i IntKind.u8
 x2_0,
 V.i IntKind.u8
 x2_1],
 V.b false,
 V.lb
 [V.b b, V.b b_1,
 V.b b_2,
 V.i IntKind.i64 n,
 V.i IntKind.i64
 n_1,
 V.s s,
 V.ts cs l c,
 V.s s_1,
 V.ts cs_1 l_1 c_1,
 V.s s_2, V.s s_3],
 V.undef,
 V.i IntKind.i64
 (IntKind.i64.wrap
 (x2_0.tmod
 (21 : Int))),
 V.i IntKind.i64
 (0 : Int)]
 h)))))) := by kernel_rfl
theorem f10_1 (x0Place : Int) (x0Clock : Int) (cs0Lines : List V) (n0Lines : Nat) (cs0Ages : List V) (n0Ages : Nat) (x1Cap : Int) (cs1Places : List V) (n1Places : Nat) (x2_0 : Int) (x2_1 : Int) (b3_0 : Bool) (b3_1 : Bool) (b3_2 : Bool) (s3_5 : List UInt8) (s3_7 : List UInt8) (s3_9 : List UInt8) (s3_10 : List UInt8) (b7_0 : Bool) (b7_1 : Bool) (b7_2 : Bool) (x7_3 : Int) (x7_4 : Int) (s7_5 : List UInt8) (c7_6 : Option Nat) (cs7_6 : List V) (n7_6 : Nat) (s7_7 : List UInt8) (c7_8 : Option Nat) (cs7_8 : List V) (n7_8 : Nat) (s7_9 : List UInt8) (s7_10 : List UInt8) (v14 : V) (x45 : Int) (h : Heap) (K : Out → Nat → List V → Heap → Prop) : (codeP Try.Y (Try.Y.loc 10) 100 (pre (flat (loopB (post (flat (bodyOf Try.f10)))))) ⟨mk 133 (([3, 4, 5, 7, 14, 44, 45] : List Nat).zip [V.lb [V.b b3_0, V.b b3_1, V.b b3_2, V.i IntKind.i64 x0Place, V.i IntKind.i64 x0Clock, V.s s3_5, V.ts cs0Lines n0Lines none, V.s s3_7, V.ts cs0Ages n0Ages none, V.s s3_9, V.s s3_10], V.lb [V.i IntKind.i64 x1Cap, V.ts cs1Places n1Places none], V.lb [V.i IntKind.u8 x2_0, V.i IntKind.u8 x2_1], V.lb [V.b b7_0, V.b b7_1, V.b b7_2, V.i IntKind.i64 x7_3, V.i IntKind.i64 x7_4, V.s s7_5, V.ts cs7_6 n7_6 c7_6, V.s s7_7, V.ts cs7_8 n7_8 c7_8, V.s s7_9, V.s s7_10], v14, V.i IntKind.i64 (IntKind.i64.wrap (x2_0.tmod 21)), V.i IntKind.i64 x45]), [], h⟩ (VQ [3, 4, 5, 7, 14, 44, 45] K)) =
  (If (ltI x45 (IntKind.i64.wrap (x2_0.tmod (21 : Int))))
  (K Out.normal 133
 [V.lb
 [V.b b3_0, V.b b3_1, V.b b3_2, V.i IntKind.i64 x0Place, V.i IntKind.i64 x0Clock, V.s s3_5,
 V.ts cs0Lines n0Lines none, V.s s3_7, V.ts cs0Ages n0Ages none, V.s s3_9, V.s s3_10],
 V.lb [V.i IntKind.i64 x1Cap, V.ts cs1Places n1Places none], V.lb [V.i IntKind.u8 x2_0, V.i IntKind.u8 x2_1],
 V.lb
 [V.b b7_0, V.b b7_1, V.b b7_2, V.i IntKind.i64 x7_3, V.i IntKind.i64 x7_4, V.s s7_5, V.ts cs7_6 n7_6 c7_6,
 V.s s7_7, V.ts cs7_8 n7_8 c7_8, V.s s7_9, V.s s7_10],
 v14, V.i IntKind.i64 (IntKind.i64.wrap (x2_0.tmod (21 : Int))), V.i IntKind.i64 x45]
 h)
  (K (Out.exit 0) 133
 [V.lb
 [V.b b3_0, V.b b3_1, V.b b3_2, V.i IntKind.i64 x0Place, V.i IntKind.i64 x0Clock, V.s s3_5,
 V.ts cs0Lines n0Lines none, V.s s3_7, V.ts cs0Ages n0Ages none, V.s s3_9, V.s s3_10],
 V.lb [V.i IntKind.i64 x1Cap, V.ts cs1Places n1Places none], V.lb [V.i IntKind.u8 x2_0, V.i IntKind.u8 x2_1],
 V.lb
 [V.b b7_0, V.b b7_1, V.b b7_2, V.i IntKind.i64 x7_3, V.i IntKind.i64 x7_4, V.s s7_5, V.ts cs7_6 n7_6 c7_6,
 V.s s7_7, V.ts cs7_8 n7_8 c7_8, V.s s7_9, V.s s7_10],
 v14, V.i IntKind.i64 (IntKind.i64.wrap (x2_0.tmod (21 : Int))), V.i IntKind.i64 x45]
 h)) := by kernel_rfl
theorem f10_2 (x0Place : Int) (x0Clock : Int) (cs0Lines : List V) (n0Lines : Nat) (cs0Ages : List V) (n0Ages : Nat) (x1Cap : Int) (cs1Places : List V) (n1Places : Nat) (x2_0 : Int) (x2_1 : Int) (b3_0 : Bool) (b3_1 : Bool) (b3_2 : Bool) (s3_5 : List UInt8) (s3_7 : List UInt8) (s3_9 : List UInt8) (s3_10 : List UInt8) (b7_0 : Bool) (b7_1 : Bool) (b7_2 : Bool) (x7_3 : Int) (x7_4 : Int) (s7_5 : List UInt8) (c7_6 : Option Nat) (cs7_6 : List V) (n7_6 : Nat) (s7_7 : List UInt8) (c7_8 : Option Nat) (cs7_8 : List V) (n7_8 : Nat) (s7_9 : List UInt8) (s7_10 : List UInt8) (v14 : V) (x45 : Int) (h : Heap) (K : Out → Nat → List V → Heap → Prop) : (codeP Try.Y (Try.Y.loc 10) 100 (pre (flat (blockB (post (flat (loopB (post (flat (bodyOf Try.f10))))))))) ⟨mk 133 (([3, 4, 5, 7, 14, 44, 45] : List Nat).zip [V.lb [V.b b3_0, V.b b3_1, V.b b3_2, V.i IntKind.i64 x0Place, V.i IntKind.i64 x0Clock, V.s s3_5, V.ts cs0Lines n0Lines none, V.s s3_7, V.ts cs0Ages n0Ages none, V.s s3_9, V.s s3_10], V.lb [V.i IntKind.i64 x1Cap, V.ts cs1Places n1Places none], V.lb [V.i IntKind.u8 x2_0, V.i IntKind.u8 x2_1], V.lb [V.b b7_0, V.b b7_1, V.b b7_2, V.i IntKind.i64 x7_3, V.i IntKind.i64 x7_4, V.s s7_5, V.ts cs7_6 n7_6 c7_6, V.s s7_7, V.ts cs7_8 n7_8 c7_8, V.s s7_9, V.s s7_10], v14, V.i IntKind.i64 (IntKind.i64.wrap (x2_0.tmod 21)), V.i IntKind.i64 x45]), [], h⟩ (VQ [3, 4, 5, 6, 7, 8, 9, 44, 45, 77, 78] K)) =
  (∃ (cs : List V),
  ∃ (l : Nat),
 ∃ (c : Option Nat),
 (PCon Try.Y (42 : Nat)
 [V.agg
 [V.b b3_0, V.b b3_1, V.b b3_2, V.i IntKind.i64 x0Place, V.i IntKind.i64 x0Clock, V.s s3_5,
 V.ts cs0Lines n0Lines none, V.s s3_7, V.ts cs0Ages n0Ages none, V.s s3_9, V.s s3_10],
 V.agg [V.i IntKind.i64 x1Cap, V.ts cs1Places n1Places none]]
 fun (v : V) => v = V.ts cs l c) ∧
 ∃ (cs_1 : List V),
 ∃ (l_1 : Nat),
 ∃ (c_1 : Option Nat),
 (PCon Try.Y (42 : Nat)
 [V.agg
 [V.b b7_0, V.b b7_1, V.b b7_2, V.i IntKind.i64 x7_3, V.i IntKind.i64 x7_4, V.s s7_5,
 V.ts cs7_6 n7_6 c7_6, V.s s7_7, V.ts cs7_8 n7_8 c7_8, V.s s7_9, V.s s7_10],
 V.agg [V.i IntKind.i64 x1Cap, V.ts cs1Places n1Places none]]
 fun (v : V) => v = V.ts cs_1 l_1 c_1) ∧
 If ((↑l : Int) != (↑l_1 : Int))
 (K Out.ret 133
 [V.lb
 [V.b b3_0, V.b b3_1, V.b b3_2, V.i IntKind.i64 x0Place, V.i IntKind.i64 x0Clock, V.s s3_5,
 V.ts cs0Lines n0Lines none, V.s s3_7, V.ts cs0Ages n0Ages none, V.s s3_9, V.s s3_10],
 V.lb [V.i IntKind.i64 x1Cap, V.ts cs1Places n1Places none],
 V.lb [V.i IntKind.u8 x2_0, V.i IntKind.u8 x2_1], V.b false,
 V.lb
 [V.b b7_0, V.b b7_1, V.b b7_2, V.i IntKind.i64 x7_3, V.i IntKind.i64 x7_4, V.s s7_5,
 V.ts cs7_6 n7_6 c7_6, V.s s7_7, V.ts cs7_8 n7_8 c7_8, V.s s7_9, V.s s7_10],
 V.ts cs l c, V.ts cs_1 l_1 c_1, V.i IntKind.i64 (IntKind.i64.wrap (x2_0.tmod (21 : Int))),
 V.i IntKind.i64 x45, V.undef, V.undef]
 h)
 (∃ (b : Bool),
 (PCon Try.Y (43 : Nat)
 [V.agg
 [V.b b3_0, V.b b3_1, V.b b3_2, V.i IntKind.i64 x0Place, V.i IntKind.i64 x0Clock, V.s s3_5,
 V.ts cs0Lines n0Lines none, V.s s3_7, V.ts cs0Ages n0Ages none, V.s s3_9, V.s s3_10],
 V.agg [V.i IntKind.i64 x1Cap, V.ts cs1Places n1Places none]]
 fun (v : V) => v = V.b b) ∧
 ∃ (b_1 : Bool),
 (PCon Try.Y (43 : Nat)
 [V.agg
 [V.b b7_0, V.b b7_1, V.b b7_2, V.i IntKind.i64 x7_3, V.i IntKind.i64 x7_4, V.s s7_5,
 V.ts cs7_6 n7_6 c7_6, V.s s7_7, V.ts cs7_8 n7_8 c7_8, V.s s7_9, V.s s7_10],
 V.agg [V.i IntKind.i64 x1Cap, V.ts cs1Places n1Places none]]
 fun (v : V) => v = V.b b_1) ∧
 If (!b == b_1)
 (K Out.ret 133
 [V.lb
 [V.b b3_0, V.b b3_1, V.b b3_2, V.i IntKind.i64 x0Place, V.i IntKind.i64 x0Clock,
 V.s s3_5, V.ts cs0Lines n0Lines none, V.s s3_7, V.ts cs0Ages n0Ages none, V.s s3_9,
 V.s s3_10],
 V.lb [V.i IntKind.i64 x1Cap, V.ts cs1Places n1Places none],
 V.lb [V.i IntKind.u8 x2_0, V.i IntKind.u8 x2_1], V.b false,
 V.lb
 [V.b b7_0, V.b b7_1, V.b b7_2, V.i IntKind.i64 x7_3, V.i IntKind.i64 x7_4, V.s s7_5,
 V.ts cs7_6 n7_6 c7_6, V.s s7_7, V.ts cs7_8 n7_8 c7_8, V.s s7_9, V.s s7_10],
 V.ts cs l c, V.ts cs_1 l_1 c_1,
 V.i IntKind.i64 (IntKind.i64.wrap (x2_0.tmod (21 : Int))), V.i IntKind.i64 x45, V.undef,
 V.undef]
 h)
 (∃ (b : Bool),
 (PCon Try.Y (44 : Nat)
 [V.agg
 [V.b b3_0, V.b b3_1, V.b b3_2, V.i IntKind.i64 x0Place, V.i IntKind.i64 x0Clock,
 V.s s3_5, V.ts cs0Lines n0Lines none, V.s s3_7, V.ts cs0Ages n0Ages none,
 V.s s3_9, V.s s3_10],
 V.agg [V.i IntKind.i64 x1Cap, V.ts cs1Places n1Places none]]
 fun (v : V) => v = V.b b) ∧
 ∃ (b_2 : Bool),
 (PCon Try.Y (44 : Nat)
 [V.agg
 [V.b b7_0, V.b b7_1, V.b b7_2, V.i IntKind.i64 x7_3, V.i IntKind.i64 x7_4,
 V.s s7_5, V.ts cs7_6 n7_6 c7_6, V.s s7_7, V.ts cs7_8 n7_8 c7_8, V.s s7_9,
 V.s s7_10],
 V.agg [V.i IntKind.i64 x1Cap, V.ts cs1Places n1Places none]]
 fun (v : V) => v = V.b b_2) ∧
 If (!b == b_2)
 (K Out.ret 133
 [V.lb
 [V.b b3_0, V.b b3_1, V.b b3_2, V.i IntKind.i64 x0Place,
 V.i IntKind.i64 x0Clock, V.s s3_5, V.ts cs0Lines n0Lines none, V.s s3_7,
 V.ts cs0Ages n0Ages none, V.s s3_9, V.s s3_10],
 V.lb [V.i IntKind.i64 x1Cap, V.ts cs1Places n1Places none],
 V.lb [V.i IntKind.u8 x2_0, V.i IntKind.u8 x2_1], V.b false,
 V.lb
 [V.b b7_0, V.b b7_1, V.b b7_2, V.i IntKind.i64 x7_3, V.i IntKind.i64 x7_4,
 V.s s7_5, V.ts cs7_6 n7_6 c7_6, V.s s7_7, V.ts cs7_8 n7_8 c7_8, V.s s7_9,
 V.s s7_10],
 V.ts cs l c, V.ts cs_1 l_1 c_1,
 V.i IntKind.i64 (IntKind.i64.wrap (x2_0.tmod (21 : Int))),
 V.i IntKind.i64 x45, V.undef, V.undef]
 h)
 (K Out.normal 133
 [V.lb
 [V.b b3_0, V.b b3_1, V.b b3_2, V.i IntKind.i64 x0Place,
 V.i IntKind.i64 x0Clock, V.s s3_5, V.ts cs0Lines n0Lines none, V.s s3_7,
 V.ts cs0Ages n0Ages none, V.s s3_9, V.s s3_10],
 V.lb [V.i IntKind.i64 x1Cap, V.ts cs1Places n1Places none],
 V.lb [V.i IntKind.u8 x2_0, V.i IntKind.u8 x2_1], V.undef,
 V.lb
 [V.b b7_0, V.b b7_1, V.b b7_2, V.i IntKind.i64 x7_3, V.i IntKind.i64 x7_4,
 V.s s7_5, V.ts cs7_6 n7_6 c7_6, V.s s7_7, V.ts cs7_8 n7_8 c7_8, V.s s7_9,
 V.s s7_10],
 V.ts cs l c, V.ts cs_1 l_1 c_1,
 V.i IntKind.i64 (IntKind.i64.wrap (x2_0.tmod (21 : Int))),
 V.i IntKind.i64 x45, V.i IntKind.i64 (↑l : Int), V.i IntKind.i64 (0 : Int)]
 h)))) := by kernel_rfl
theorem f10_3 (x0Place : Int) (x0Clock : Int) (cs0Lines : List V) (n0Lines : Nat) (cs0Ages : List V) (n0Ages : Nat) (x1Cap : Int) (cs1Places : List V) (n1Places : Nat) (x2_0 : Int) (x2_1 : Int) (s3_5 : List UInt8) (s3_7 : List UInt8) (s3_9 : List UInt8) (s3_10 : List UInt8) (x7_3 : Int) (x7_4 : Int) (s7_5 : List UInt8) (c7_6 : Option Nat) (cs7_6 : List V) (n7_6 : Nat) (s7_7 : List UInt8) (c7_8 : Option Nat) (cs7_8 : List V) (n7_8 : Nat) (s7_9 : List UInt8) (s7_10 : List UInt8) (x45 : Int) (b3_0z5 : Bool) (b3_1z5 : Bool) (b3_2z5 : Bool) (b7_0z5 : Bool) (b7_1z5 : Bool) (b7_2z5 : Bool) (c8z2 : Option Nat) (cs8z2 : List V) (n8z2 : Nat) (c9z2 : Option Nat) (cs9z2 : List V) (n9z2 : Nat) (x77z2 : Int) (x78z2 : Int) (h : Heap) (K : Out → Nat → List V → Heap → Prop) : (codeP Try.Y (Try.Y.loc 10) 100 ((flat (loopB (post (flat (blockB (post (flat (loopB (post (flat (bodyOf Try.f10)))))))))))) ⟨mk 133 (([3, 4, 5, 7, 8, 9, 44, 45, 77, 78] : List Nat).zip [V.lb [V.b b3_0z5, V.b b3_1z5, V.b b3_2z5, V.i IntKind.i64 x0Place, V.i IntKind.i64 x0Clock, V.s s3_5, V.ts cs0Lines n0Lines none, V.s s3_7, V.ts cs0Ages n0Ages none, V.s s3_9, V.s s3_10], V.lb [V.i IntKind.i64 x1Cap, V.ts cs1Places n1Places none], V.lb [V.i IntKind.u8 x2_0, V.i IntKind.u8 x2_1], V.lb [V.b b7_0z5, V.b b7_1z5, V.b b7_2z5, V.i IntKind.i64 x7_3, V.i IntKind.i64 x7_4, V.s s7_5, V.ts cs7_6 n7_6 c7_6, V.s s7_7, V.ts cs7_8 n7_8 c7_8, V.s s7_9, V.s s7_10], V.ts cs8z2 n8z2 c8z2, V.ts cs9z2 n9z2 c9z2, V.i IntKind.i64 (IntKind.i64.wrap (x2_0.tmod 21)), V.i IntKind.i64 x45, V.i IntKind.i64 x77z2, V.i IntKind.i64 x78z2]), [], h⟩ (VQ [3, 4, 5, 6, 7, 8, 9, 44, 45, 77, 78] K)) =
  (If (ltI x78z2 x77z2)
  (((0 : Int) ≤ x78z2 ∧ x78z2 < (↑n8z2 : Int)) ∧
 ∃ (n : Int),
 takeX 1 (List.drop (x78z2.toNat * (1 : Nat)) cs8z2) = some [V.i IntKind.i64 n] ∧
 ((0 : Int) ≤ x78z2 ∧ x78z2 < (↑n9z2 : Int)) ∧
 ∃ (n_1 : Int),
 takeX 1 (List.drop (x78z2.toNat * (1 : Nat)) cs9z2) = some [V.i IntKind.i64 n_1] ∧
 If (n != n_1)
 (K Out.ret 133
 [V.lb
 [V.b b3_0z5, V.b b3_1z5, V.b b3_2z5, V.i IntKind.i64 x0Place, V.i IntKind.i64 x0Clock, V.s s3_5,
 V.ts cs0Lines n0Lines none, V.s s3_7, V.ts cs0Ages n0Ages none, V.s s3_9, V.s s3_10],
 V.lb [V.i IntKind.i64 x1Cap, V.ts cs1Places n1Places none],
 V.lb [V.i IntKind.u8 x2_0, V.i IntKind.u8 x2_1], V.b false,
 V.lb
 [V.b b7_0z5, V.b b7_1z5, V.b b7_2z5, V.i IntKind.i64 x7_3, V.i IntKind.i64 x7_4, V.s s7_5,
 V.ts cs7_6 n7_6 c7_6, V.s s7_7, V.ts cs7_8 n7_8 c7_8, V.s s7_9, V.s s7_10],
 V.ts cs8z2 n8z2 c8z2, V.ts cs9z2 n9z2 c9z2,
 V.i IntKind.i64 (IntKind.i64.wrap (x2_0.tmod (21 : Int))), V.i IntKind.i64 x45,
 V.i IntKind.i64 x77z2, V.i IntKind.i64 x78z2]
 h)
 (K Out.normal 133
 [V.lb
 [V.b b3_0z5, V.b b3_1z5, V.b b3_2z5, V.i IntKind.i64 x0Place, V.i IntKind.i64 x0Clock, V.s s3_5,
 V.ts cs0Lines n0Lines none, V.s s3_7, V.ts cs0Ages n0Ages none, V.s s3_9, V.s s3_10],
 V.lb [V.i IntKind.i64 x1Cap, V.ts cs1Places n1Places none],
 V.lb [V.i IntKind.u8 x2_0, V.i IntKind.u8 x2_1], V.undef,
 V.lb
 [V.b b7_0z5, V.b b7_1z5, V.b b7_2z5, V.i IntKind.i64 x7_3, V.i IntKind.i64 x7_4, V.s s7_5,
 V.ts cs7_6 n7_6 c7_6, V.s s7_7, V.ts cs7_8 n7_8 c7_8, V.s s7_9, V.s s7_10],
 V.ts cs8z2 n8z2 c8z2, V.ts cs9z2 n9z2 c9z2,
 V.i IntKind.i64 (IntKind.i64.wrap (x2_0.tmod (21 : Int))), V.i IntKind.i64 x45,
 V.i IntKind.i64 x77z2, V.i IntKind.i64 (IntKind.i64.wrap (x78z2 + (1 : Int)))]
 h))
  (K (Out.exit 2) 133
 [V.lb
 [V.b b3_0z5, V.b b3_1z5, V.b b3_2z5, V.i IntKind.i64 x0Place, V.i IntKind.i64 x0Clock, V.s s3_5,
 V.ts cs0Lines n0Lines none, V.s s3_7, V.ts cs0Ages n0Ages none, V.s s3_9, V.s s3_10],
 V.lb [V.i IntKind.i64 x1Cap, V.ts cs1Places n1Places none], V.lb [V.i IntKind.u8 x2_0, V.i IntKind.u8 x2_1],
 V.undef,
 V.lb
 [V.b b7_0z5, V.b b7_1z5, V.b b7_2z5, V.i IntKind.i64 x7_3, V.i IntKind.i64 x7_4, V.s s7_5, V.ts cs7_6 n7_6 c7_6,
 V.s s7_7, V.ts cs7_8 n7_8 c7_8, V.s s7_9, V.s s7_10],
 V.ts cs8z2 n8z2 c8z2, V.ts cs9z2 n9z2 c9z2, V.i IntKind.i64 (IntKind.i64.wrap (x2_0.tmod (21 : Int))),
 V.i IntKind.i64 x45, V.i IntKind.i64 x77z2, V.i IntKind.i64 x78z2]
 h)) := by kernel_rfl
theorem f10_4 (x0Place : Int) (x0Clock : Int) (cs0Lines : List V) (n0Lines : Nat) (cs0Ages : List V) (n0Ages : Nat) (x1Cap : Int) (cs1Places : List V) (n1Places : Nat) (x2_0 : Int) (x2_1 : Int) (s3_5 : List UInt8) (s3_7 : List UInt8) (s3_9 : List UInt8) (s3_10 : List UInt8) (x7_3 : Int) (x7_4 : Int) (s7_5 : List UInt8) (c7_6 : Option Nat) (cs7_6 : List V) (n7_6 : Nat) (s7_7 : List UInt8) (c7_8 : Option Nat) (cs7_8 : List V) (n7_8 : Nat) (s7_9 : List UInt8) (s7_10 : List UInt8) (x45 : Int) (b3_0z6 : Bool) (b3_1z6 : Bool) (b3_2z6 : Bool) (b7_0z6 : Bool) (b7_1z6 : Bool) (b7_2z6 : Bool) (h : Heap) (K : Out → Nat → List V → Heap → Prop) : (codeP Try.Y (Try.Y.loc 10) 100 (((post (flat (blockB (post (flat (loopB (post (flat (bodyOf Try.f10))))))))).drop 1)) ⟨mk 133 (([3, 4, 5, 7, 44, 45] : List Nat).zip [V.lb [V.b b3_0z6, V.b b3_1z6, V.b b3_2z6, V.i IntKind.i64 x0Place, V.i IntKind.i64 x0Clock, V.s s3_5, V.ts cs0Lines n0Lines none, V.s s3_7, V.ts cs0Ages n0Ages none, V.s s3_9, V.s s3_10], V.lb [V.i IntKind.i64 x1Cap, V.ts cs1Places n1Places none], V.lb [V.i IntKind.u8 x2_0, V.i IntKind.u8 x2_1], V.lb [V.b b7_0z6, V.b b7_1z6, V.b b7_2z6, V.i IntKind.i64 x7_3, V.i IntKind.i64 x7_4, V.s s7_5, V.ts cs7_6 n7_6 c7_6, V.s s7_7, V.ts cs7_8 n7_8 c7_8, V.s s7_9, V.s s7_10], V.i IntKind.i64 (IntKind.i64.wrap (x2_0.tmod 21)), V.i IntKind.i64 x45]), [], h⟩ (VQ [3, 4, 5, 6, 7, 14, 44, 45] K)) =
  (((0 : Int) ≤ (1 : Int) ∧ (1 : Int) < (↑(2 : Nat) : Int)) ∧
  ((9 : Int) = (0 : Int) → False) ∧
 ∃ (b : Bool),
 ∃ (b_1 : Bool),
 ∃ (b_2 : Bool),
 ∃ (n : Int),
 ∃ (n_1 : Int),
 ∃ (s : List UInt8),
 ∃ (cs : List V),
 ∃ (l : Nat),
 ∃ (c : Option Nat),
 ∃ (s_1 : List UInt8),
 ∃ (cs_1 : List V),
 ∃ (l_1 : Nat),
 ∃ (c_1 : Option Nat),
 ∃ (s_2 : List UInt8),
 ∃ (s_3 : List UInt8),
 ∃ (n_2 : Int),
 (PCon Try.Y (45 : Nat)
 [V.agg
 [V.b b3_0z6, V.b b3_1z6, V.b b3_2z6, V.i IntKind.i64 x0Place,
 V.i IntKind.i64 x0Clock, V.s s3_5, V.ts cs0Lines n0Lines none, V.s s3_7,
 V.ts cs0Ages n0Ages none, V.s s3_9, V.s s3_10],
 V.agg [V.i IntKind.i64 x1Cap, V.ts cs1Places n1Places none],
 V.i IntKind.i64 (IntKind.i64.wrap (x2_1.tmod (9 : Int)))]
 fun (v : V) =>
 v =
 V.tup
 [V.agg
 [V.b b, V.b b_1, V.b b_2, V.i IntKind.i64 n, V.i IntKind.i64 n_1, V.s s,
 V.ts cs l c, V.s s_1, V.ts cs_1 l_1 c_1, V.s s_2, V.s s_3],
 V.i IntKind.i64 n_2]) ∧
 ((0 : Int) ≤ (1 : Int) ∧ (1 : Int) < (↑(2 : Nat) : Int)) ∧
 ((9 : Int) = (0 : Int) → False) ∧
 ∃ (b_3 : Bool),
 ∃ (b_4 : Bool),
 ∃ (b_5 : Bool),
 ∃ (n_3 : Int),
 ∃ (n_4 : Int),
 ∃ (s_4 : List UInt8),
 ∃ (cs_2 : List V),
 ∃ (l_2 : Nat),
 ∃ (c_2 : Option Nat),
 ∃ (s_5 : List UInt8),
 ∃ (cs_3 : List V),
 ∃ (l_3 : Nat),
 ∃ (c_3 : Option Nat),
 ∃ (s_6 : List UInt8),
 ∃ (s_7 : List UInt8),
 ∃ (n_5 : Int),
 (PCon Try.Y (45 : Nat)
 [V.agg
 [V.b b7_0z6, V.b b7_1z6, V.b b7_2z6,
 V.i IntKind.i64 x7_3,
 V.i IntKind.i64 x7_4, V.s s7_5,
 V.ts cs7_6 n7_6 c7_6, V.s s7_7,
 V.ts cs7_8 n7_8 c7_8, V.s s7_9,
 V.s s7_10],
 V.agg
 [V.i IntKind.i64 x1Cap,
 V.ts cs1Places n1Places none],
 V.i IntKind.i64
 (IntKind.i64.wrap
 (x2_1.tmod (9 : Int)))]
 fun (v : V) =>
 v =
 V.tup
 [V.agg
 [V.b b_3, V.b b_4, V.b b_5,
 V.i IntKind.i64 n_3,
 V.i IntKind.i64 n_4, V.s s_4,
 V.ts cs_2 l_2 c_2, V.s s_5,
 V.ts cs_3 l_3 c_3, V.s s_6,
 V.s s_7],
 V.i IntKind.i64 n_5]) ∧
 If (n_2 != n_5)
 (K Out.ret 133
 [V.lb
 [V.b b3_0z6, V.b b3_1z6, V.b b3_2z6,
 V.i IntKind.i64 x0Place,
 V.i IntKind.i64 x0Clock, V.s s3_5,
 V.ts cs0Lines n0Lines none,
 V.s s3_7,
 V.ts cs0Ages n0Ages none,
 V.s s3_9, V.s s3_10],
 V.lb
 [V.i IntKind.i64 x1Cap,
 V.ts cs1Places n1Places none],
 V.lb
 [V.i IntKind.u8 x2_0,
 V.i IntKind.u8 x2_1],
 V.b false,
 V.lb
 [V.b b7_0z6, V.b b7_1z6, V.b b7_2z6,
 V.i IntKind.i64 x7_3,
 V.i IntKind.i64 x7_4, V.s s7_5,
 V.ts cs7_6 n7_6 c7_6, V.s s7_7,
 V.ts cs7_8 n7_8 c7_8, V.s s7_9,
 V.s s7_10],
 V.i IntKind.i64 n_5,
 V.i IntKind.i64
 (IntKind.i64.wrap
 (x2_0.tmod (21 : Int))),
 V.i IntKind.i64 x45]
 h)
 (∃ (b_6 : Bool),
 (PCon Try.Y (38 : Nat)
 [V.agg
 [V.b b, V.b b_1, V.b b_2,
 V.i IntKind.i64 n,
 V.i IntKind.i64 n_1, V.s s,
 V.ts cs l c, V.s s_1,
 V.ts cs_1 l_1 c_1, V.s s_2,
 V.s s_3],
 V.agg
 [V.b b_3, V.b b_4, V.b b_5,
 V.i IntKind.i64 n_3,
 V.i IntKind.i64 n_4, V.s s_4,
 V.ts cs_2 l_2 c_2, V.s s_5,
 V.ts cs_3 l_3 c_3, V.s s_6,
 V.s s_7]]
 fun (v : V) => v = V.b b_6) ∧
 If (!b_6)
 (K Out.ret 133
 [V.lb
 [V.b b3_0z6, V.b b3_1z6,
 V.b b3_2z6,
 V.i IntKind.i64 x0Place,
 V.i IntKind.i64 x0Clock,
 V.s s3_5,
 V.ts cs0Lines n0Lines none,
 V.s s3_7,
 V.ts cs0Ages n0Ages none,
 V.s s3_9, V.s s3_10],
 V.lb
 [V.i IntKind.i64 x1Cap,
 V.ts cs1Places n1Places
 none],
 V.lb
 [V.i IntKind.u8 x2_0,
 V.i IntKind.u8 x2_1],
 V.b false,
 V.lb
 [V.b b7_0z6, V.b b7_1z6,
 V.b b7_2z6,
 V.i IntKind.i64 x7_3,
 V.i IntKind.i64 x7_4,
 V.s s7_5,
 V.ts cs7_6 n7_6 c7_6,
 V.s s7_7,
 V.ts cs7_8 n7_8 c7_8,
 V.s s7_9, V.s s7_10],
 V.i IntKind.i64 n_5,
 V.i IntKind.i64
 (IntKind.i64.wrap
 (x2_0.tmod (21 : Int))),
 V.i IntKind.i64 x45]
 h)
 (∃ (b : Bool),
 ∃ (b_7 : Bool),
 ∃ (b_8 : Bool),
 ∃ (n : Int),
 ∃ (n_6 : Int),
 ∃ (s : List UInt8),
 ∃ (cs : List V),
 ∃ (l : Nat),
 ∃ (c : Option Nat),
 ∃ (s_8 :
 List UInt8),
 ∃ (cs_4 :
 List V),
 ∃ (l_4 : Nat),
 ∃ (c_4 :
 Option
 Nat),
 ∃ (s_9 :
 List
 UInt8),
 ∃ (s_10
 :
 List
 UInt8),
 (PCon
 Try.Y
 (46 :
 Nat)
 [V.agg
 [V.b
 b3_0z6,
 V.b
 b3_1z6,
 V.b
 b3_2z6,
 V.i
 IntKind.i64
 x0Place,
 V.i
 IntKind.i64
 x0Clock,
 V.s
 s3_5,
 V.ts
 cs0Lines
 n0Lines
 none,
 V.s
 s3_7,
 V.ts
 cs0Ages
 n0Ages
 none,
 V.s
 s3_9,
 V.s
 s3_10]]
 fun
 (v :
 V) =>
 v =
 V.agg
 [V.b
 b,
 V.b
 b_7,
 V.b
 b_8,
 V.i
 IntKind.i64
 n,
 V.i
 IntKind.i64
 n_6,
 V.s
 s,
 V.ts
 cs
 l
 c,
 V.s
 s_8,
 V.ts
 cs_4
 l_4
 c_4,
 V.s
 s_9,
 V.s
 s_10]) ∧
 ∃
 (b_9
 :
 Bool),
 ∃
 (b_10
 :
 Bool),
 ∃
 (b_11
 :
 Bool),
 ∃
 (n_7
 :
 Int),
 ∃
 (n_8
 :
 Int),
 ∃
 (s_11
 :
 List
 UInt8),
 ∃
 (cs_5
 :
 List
 V),
 ∃
 (l_5
 :
 Nat),
 ∃
 (c_5
 :
 Option
 Nat),
 ∃
 (s_12
 :
 List
 UInt8),
 ∃
 (cs_6
 :
 List
 V),
 ∃
 (l_6
 :
 Nat),
 ∃
 (c_6
 :
 Option
 Nat),
 ∃
 (s_13
 :
 List
 UInt8),
 ∃
 (s_14
 :
 List
 UInt8),
 (PCon
 Try.Y
 (46 :
 Nat)
 [V.agg
 [V.b
 b7_0z6,
 V.b
 b7_1z6,
 V.b
 b7_2z6,
 V.i
 IntKind.i64
 x7_3,
 V.i
 IntKind.i64
 x7_4,
 V.s
 s7_5,
 V.ts
 cs7_6
 n7_6
 c7_6,
 V.s
 s7_7,
 V.ts
 cs7_8
 n7_8
 c7_8,
 V.s
 s7_9,
 V.s
 s7_10]]
 fun
 (v :
 V) =>
 v =
 V.agg
 [V.b
 b_9,
 V.b
 b_10,
 V.b
 b_11,
 V.i
 IntKind.i64
 n_7,
 V.i
 IntKind.i64
 n_8,
 V.s
 s_11,
 V.ts
 cs_5
 l_5
 c_5,
 V.s
 s_12,
 V.ts
 cs_6
 l_6
 c_6,
 V.s
 s_13,
 V.s
 s_14]) ∧
 ∃
 (b_12
 :
 Bool),
 ∃
 (b_13
 :
 Bool),
 ∃
 (b_14
 :
 Bool),
 ∃
 (n_9
 :
 Int),
 ∃
 (n_10
 :
 Int),
 ∃
 (s_15
 :
 List
 UInt8),
 ∃
 (cs_7
 :
 List
 V),
 ∃
 (l_7
 :
 Nat),
 ∃
 (c_7
 :
 Option
 Nat),
 ∃
 (s_16
 :
 List
 UInt8),
 ∃
 (cs_8
 :
 List
 V),
 ∃
 (l_8
 :
 Nat),
 ∃
 (c_8
 :
 Option
 Nat),
 ∃
 (s_17
 :
 List
 UInt8),
 ∃
 (s_18
 :
 List
 UInt8),
 (PCon
 Try.Y
 (41 :
 Nat)
 [V.agg
 [V.b
 b_9,
 V.b
 b_10,
 V.b
 b_11,
 V.i
 IntKind.i64
 n_7,
 V.i
 IntKind.i64
 n_8,
 V.s
 s_11,
 V.ts
 cs_5
 l_5
 c_5,
 V.s
 s_12,
 V.ts
 cs_6
 l_6
 c_6,
 V.s
 s_13,
 V.s
 s_14],
 V.agg
 [V.i
 IntKind.i64
 x1Cap,
 V.ts
 cs1Places
 n1Places
 none]]
 fun
 (v :
 V) =>
 v =
 V.agg
 [V.b
 b_12,
 V.b
 b_13,
 V.b
 b_14,
 V.i
 IntKind.i64
 n_9,
 V.i
 IntKind.i64
 n_10,
 V.s
 s_15,
 V.ts
 cs_7
 l_7
 c_7,
 V.s
 s_16,
 V.ts
 cs_8
 l_8
 c_8,
 V.s
 s_17,
 V.s
 s_18]) ∧
 ∃
 (b_15
 :
 Bool),
 ∃
 (b_16
 :
 Bool),
 ∃
 (b_17
 :
 Bool),
 ∃
 (n_11
 :
 Int),
 ∃
 (n_12
 :
 Int),
 ∃
 (s_19
 :
 List
 UInt8),
 ∃
 (cs_9
 :
 List
 V),
 ∃
 (l_9
 :
 Nat),
 ∃
 (c_9
 :
 Option
 Nat),
 ∃
 (s_20
 :
 List
 UInt8),
 ∃
 (cs_10
 :
 List
 V),
 ∃
 (l_10
 :
 Nat),
 ∃
 (c_10
 :
 Option
 Nat),
 ∃
 (s_21
 :
 List
 UInt8),
 ∃
 (s_22
 :
 List
 UInt8),
 (PCon
 Try.Y
 (41 :
 Nat)
 [V.agg
 [V.b
 b,
 V.b
 b_7,
 V.b
 b_8,
 V.i
 IntKind.i64
 n,
 V.i
 IntKind.i64
 n_6,
 V.s
 s,
 V.ts
 cs
 l
 c,
 V.s
 s_8,
 V.ts
 cs_4
 l_4
 c_4,
 V.s
 s_9,
 V.s
 s_10],
 V.agg
 [V.i
 IntKind.i64
 x1Cap,
 V.ts
 cs1Places
 n1Places
 none]]
 fun
 (v :
 V) =>
 v =
 V.agg
 [V.b
 b_15,
 V.b
 b_16,
 V.b
 b_17,
 V.i
 IntKind.i64
 n_11,
 V.i
 IntKind.i64
 n_12,
 V.s
 s_19,
 V.ts
 cs_9
 l_9
 c_9,
 V.s
 s_20,
 V.ts
 cs_10
 l_10
 c_10,
 V.s
 s_21,
 V.s
 s_22]) ∧
 ∃
 (b_18
 :
 Bool),
 (PCon
 Try.Y
 (38 :
 Nat)
 [V.agg
 [V.b
 b_15,
 V.b
 b_16,
 V.b
 b_17,
 V.i
 IntKind.i64
 n_11,
 V.i
 IntKind.i64
 n_12,
 V.s
 s_19,
 V.ts
 cs_9
 l_9
 c_9,
 V.s
 s_20,
 V.ts
 cs_10
 l_10
 c_10,
 V.s
 s_21,
 V.s
 s_22],
 V.agg
 [V.b
 b_12,
 V.b
 b_13,
 V.b
 b_14,
 V.i
 IntKind.i64
 n_9,
 V.i
 IntKind.i64
 n_10,
 V.s
 s_15,
 V.ts
 cs_7
 l_7
 c_7,
 V.s
 s_16,
 V.ts
 cs_8
 l_8
 c_8,
 V.s
 s_17,
 V.s
 s_18]]
 fun
 (v :
 V) =>
 v =
 V.b
 b_18) ∧
 If
 (!b_18)
 (K
 Out.ret
 133
 [V.lb
 [V.b
 b,
 V.b
 b_7,
 V.b
 b_8,
 V.i
 IntKind.i64
 n,
 V.i
 IntKind.i64
 n_6,
 V.s
 s,
 V.ts
 cs
 l
 c,
 V.s
 s_8,
 V.ts
 cs_4
 l_4
 c_4,
 V.s
 s_9,
 V.s
 s_10],
 V.lb
 [V.i
 IntKind.i64
 x1Cap,
 V.ts
 cs1Places
 n1Places
 none],
 V.lb
 [V.i
 IntKind.u8
 x2_0,
 V.i
 IntKind.u8
 x2_1],
 V.b
 false,
 V.lb
 [V.b
 b_12,
 V.b
 b_13,
 V.b
 b_14,
 V.i
 IntKind.i64
 n_9,
 V.i
 IntKind.i64
 n_10,
 V.s
 s_15,
 V.ts
 cs_7
 l_7
 c_7,
 V.s
 s_16,
 V.ts
 cs_8
 l_8
 c_8,
 V.s
 s_17,
 V.s
 s_18],
 V.i
 IntKind.i64
 n_5,
 V.i
 IntKind.i64
 (IntKind.i64.wrap
 (x2_0.tmod
 (21 :
 Int))),
 V.i
 IntKind.i64
 x45]
 h)
 (K
 Out.normal
 133
 [V.lb
 [V.b
 b,
 V.b
 b_7,
 V.b
 b_8,
 V.i
 IntKind.i64
 n,
 V.i
 IntKind.i64
 n_6,
 V.s
 s,
 V.ts
 cs
 l
 c,
 V.s
 s_8,
 V.ts
 cs_4
 l_4
 c_4,
 V.s
 s_9,
 V.s
 s_10],
 V.lb
 [V.i
 IntKind.i64
 x1Cap,
 V.ts
 cs1Places
 n1Places
 none],
 V.lb
 [V.i
 IntKind.u8
 x2_0,
 V.i
 IntKind.u8
 x2_1],
 V.undef,
 V.lb
 [V.b
 b_12,
 V.b
 b_13,
 V.b
 b_14,
 V.i
 IntKind.i64
 n_9,
 V.i
 IntKind.i64
 n_10,
 V.s
 s_15,
 V.ts
 cs_7
 l_7
 c_7,
 V.s
 s_16,
 V.ts
 cs_8
 l_8
 c_8,
 V.s
 s_17,
 V.s
 s_18],
 V.i
 IntKind.i64
 n_5,
 V.i
 IntKind.i64
 (IntKind.i64.wrap
 (x2_0.tmod
 (21 :
 Int))),
 V.i
 IntKind.i64
 x45]
 h)))) := by kernel_rfl
theorem f10_5 (x1Cap : Int) (cs1Places : List V) (n1Places : Nat) (x2_0 : Int) (x2_1 : Int) (x45 : Int) (b3_0z7 : Bool) (b3_1z7 : Bool) (b3_2z7 : Bool) (x3_3z2 : Int) (x3_4z2 : Int) (s3_5z3 : List UInt8) (c3_6z2 : Option Nat) (cs3_6z2 : List V) (n3_6z2 : Nat) (s3_7z3 : List UInt8) (c3_8z2 : Option Nat) (cs3_8z2 : List V) (n3_8z2 : Nat) (s3_9z3 : List UInt8) (s3_10z3 : List UInt8) (b7_0z7 : Bool) (b7_1z7 : Bool) (b7_2z7 : Bool) (x7_3z3 : Int) (x7_4z3 : Int) (s7_5z3 : List UInt8) (c7_6z3 : Option Nat) (cs7_6z3 : List V) (n7_6z3 : Nat) (s7_7z3 : List UInt8) (c7_8z3 : Option Nat) (cs7_8z3 : List V) (n7_8z3 : Nat) (s7_9z3 : List UInt8) (s7_10z3 : List UInt8) (x14z2 : Int) (h : Heap) (K : Out → Nat → List V → Heap → Prop) : (codeP Try.Y (Try.Y.loc 10) 100 (((post (flat (loopB (post (flat (bodyOf Try.f10)))))).drop 1)) ⟨mk 133 (([3, 4, 5, 7, 14, 44, 45] : List Nat).zip [V.lb [V.b b3_0z7, V.b b3_1z7, V.b b3_2z7, V.i IntKind.i64 x3_3z2, V.i IntKind.i64 x3_4z2, V.s s3_5z3, V.ts cs3_6z2 n3_6z2 c3_6z2, V.s s3_7z3, V.ts cs3_8z2 n3_8z2 c3_8z2, V.s s3_9z3, V.s s3_10z3], V.lb [V.i IntKind.i64 x1Cap, V.ts cs1Places n1Places none], V.lb [V.i IntKind.u8 x2_0, V.i IntKind.u8 x2_1], V.lb [V.b b7_0z7, V.b b7_1z7, V.b b7_2z7, V.i IntKind.i64 x7_3z3, V.i IntKind.i64 x7_4z3, V.s s7_5z3, V.ts cs7_6z3 n7_6z3 c7_6z3, V.s s7_7z3, V.ts cs7_8z3 n7_8z3 c7_8z3, V.s s7_9z3, V.s s7_10z3], V.i IntKind.i64 x14z2, V.i IntKind.i64 (IntKind.i64.wrap (x2_0.tmod (21 : Int))), V.i IntKind.i64 x45]), [], h⟩ (VQ [3, 4, 5, 7, 14, 44, 45] K)) =
  (K Out.normal 133
  [V.lb
 [V.b b3_0z7, V.b b3_1z7, V.b b3_2z7, V.i IntKind.i64 x3_3z2, V.i IntKind.i64 x3_4z2, V.s s3_5z3,
 V.ts cs3_6z2 n3_6z2 c3_6z2, V.s s3_7z3, V.ts cs3_8z2 n3_8z2 c3_8z2, V.s s3_9z3, V.s s3_10z3],
 V.lb [V.i IntKind.i64 x1Cap, V.ts cs1Places n1Places none], V.lb [V.i IntKind.u8 x2_0, V.i IntKind.u8 x2_1],
 V.lb
 [V.b b7_0z7, V.b b7_1z7, V.b b7_2z7, V.i IntKind.i64 x7_3z3, V.i IntKind.i64 x7_4z3, V.s s7_5z3,
 V.ts cs7_6z3 n7_6z3 c7_6z3, V.s s7_7z3, V.ts cs7_8z3 n7_8z3 c7_8z3, V.s s7_9z3, V.s s7_10z3],
 V.i IntKind.i64 x14z2, V.i IntKind.i64 (IntKind.i64.wrap (x2_0.tmod (21 : Int))),
 V.i IntKind.i64 (IntKind.i64.wrap (x45 + (1 : Int)))]
  h) := by kernel_rfl
theorem f10_6  (h : Heap) (K : Out → Nat → List V → Heap → Prop) : (codeP Try.Y (Try.Y.loc 10) 100 (((post (flat (bodyOf Try.f10))).drop 1)) ⟨mk 133 (([] : List Nat).zip []), [], h⟩ (VQ [6] K)) =
  (K Out.ret 133 [V.b true] h) := by kernel_rfl
end Go.Y
