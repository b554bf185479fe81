/- What the pieces of functions come to: printed by program. -/
import Derived.Test.YtpddiafjmkjpmaaYTryP
import Derived.Test.YtpddiafjmkjpmaaYLoop
namespace Go.Y
open Go.Proofs
set_option maxRecDepth 100000
set_option maxHeartbeats 0
theorem f46_0 (b0On : Bool) (b0Shut : Bool) (b0Eof : Bool) (x0Place : Int) (x0Clock : Int) (s0Typed : List UInt8) (cs0Lines : List V) (n0Lines : Nat) (s0Fly : List UInt8) (cs0Ages : List V) (n0Ages : Nat) (s0Ready : List UInt8) (s0Buffer : List UInt8) (h : Heap) (K : Out → Nat → List V → Heap → Prop) : (codeP Try.Y (Try.Y.loc 46) 100 (pre (flat (bodyOf Try.f46))) ⟨(V.agg [V.b b0On, V.b b0Shut, V.b b0Eof, V.i IntKind.i64 x0Place, V.i IntKind.i64 x0Clock, V.s s0Typed, V.ts cs0Lines n0Lines none, V.s s0Fly, V.ts cs0Ages n0Ages none, V.s s0Ready, V.s s0Buffer] :: List.replicate 34 .undef), [], h⟩ (VQ [1, 2, 3, 4] K)) =
  (K Out.normal 35
  [V.lb
 [V.b b0On, V.b b0Shut, V.b b0Eof, V.i IntKind.i64 x0Place, V.i IntKind.i64 x0Clock, V.s s0Typed,
 V.ts cs0Lines n0Lines none, V.s s0Fly, V.ts cs0Ages n0Ages none, V.s s0Ready, V.s s0Buffer],
 V.lb
 [V.b false, V.b false, V.b false, V.i IntKind.i64 (0 : Int), V.i IntKind.i64 (0 : Int), V.s [],
 V.sl none 0 (some 0) 0, V.s [],
 V.sl none 0 (some 0) 0, V.s [], V.s []],
 V.sl none 0 (some 0) 0, V.i IntKind.i64 (0 : Int)]
  h) := by kernel_rfl
theorem f46_1 (b0On : Bool) (b0Shut : Bool) (b0Eof : Bool) (x0Place : Int) (x0Clock : Int) (s0Typed : List UInt8) (cs0Lines : List V) (n0Lines : Nat) (s0Fly : List UInt8) (cs0Ages : List V) (n0Ages : Nat) (s0Ready : List UInt8) (s0Buffer : List UInt8) (a3 : Option (Nat × Nat)) (l3 : Nat) (c3 : Option Nat) (k3 : Nat) (x4 : Int) (h : Heap) (K : Out → Nat → List V → Heap → Prop) : (codeP Try.Y (Try.Y.loc 46) 100 ((flat (loopB (post (flat (bodyOf Try.f46)))))) ⟨mk 35 (([1, 2, 3, 4] : List Nat).zip [V.lb [V.b b0On, V.b b0Shut, V.b b0Eof, V.i IntKind.i64 x0Place, V.i IntKind.i64 x0Clock, V.s s0Typed, V.ts cs0Lines n0Lines none, V.s s0Fly, V.ts cs0Ages n0Ages none, V.s s0Ready, V.s s0Buffer], V.lb [V.b false, V.b false, V.b false, V.i IntKind.i64 0, V.i IntKind.i64 0, V.s [], V.sl none 0 (some 0) 0, V.s [], V.sl none 0 (some 0) 0, V.s [], V.s []], V.sl a3 l3 c3 k3, V.i IntKind.i64 x4]), [], h⟩ (VQ [1, 2, 3, 4] K)) =
  (If (ltI x4 (↑n0Ages : Int))
  (((0 : Int) ≤ x4 ∧ x4 < (↑n0Ages : Int)) ∧
 ∃ (n : Int),
 takeX 1 (List.drop (x4.toNat * (1 : Nat)) cs0Ages) = some [V.i IntKind.i64 n] ∧
 ∃ (a : Option (Nat × Nat)),
 ∃ (l : Nat),
 ∃ (c : Option Nat),
 ∃ (k : Nat),
 ∃ (h_1 : Heap),
 appendH Try.Y h 41 41 (V.sl a3 l3 c3 k3)
 (V.ts [V.i IntKind.i64 (IntKind.i64.wrap (n + (1 : Int)))] 1 (some 1)) =
 some (V.sl a l c k, h_1) ∧
 K Out.normal 35
 [V.lb
 [V.b b0On, V.b b0Shut, V.b b0Eof, V.i IntKind.i64 x0Place, V.i IntKind.i64 x0Clock,
 V.s s0Typed, V.ts cs0Lines n0Lines none, V.s s0Fly, V.ts cs0Ages n0Ages none, V.s s0Ready,
 V.s s0Buffer],
 V.lb
 [V.b false, V.b false, V.b false, V.i IntKind.i64 (0 : Int), V.i IntKind.i64 (0 : Int),
 V.s [], V.sl none 0 (some 0) 0, V.s [],
 V.sl none 0 (some 0) 0, V.s [], V.s []],
 V.sl a l c k, V.i IntKind.i64 (IntKind.i64.wrap (x4 + (1 : Int)))]
 h_1)
  (K (Out.exit 0) 35
 [V.lb
 [V.b b0On, V.b b0Shut, V.b b0Eof, V.i IntKind.i64 x0Place, V.i IntKind.i64 x0Clock, V.s s0Typed,
 V.ts cs0Lines n0Lines none, V.s s0Fly, V.ts cs0Ages n0Ages none, V.s s0Ready, V.s s0Buffer],
 V.lb
 [V.b false, V.b false, V.b false, V.i IntKind.i64 (0 : Int), V.i IntKind.i64 (0 : Int), V.s [],
 V.sl none 0 (some 0) 0, V.s [],
 V.sl none 0 (some 0) 0, V.s [], V.s []],
 V.sl a3 l3 c3 k3, V.i IntKind.i64 x4]
 h)) := by kernel_rfl
theorem f46_2 (b0On : Bool) (b0Shut : Bool) (b0Eof : Bool) (x0Place : Int) (x0Clock : Int) (s0Typed : List UInt8) (cs0Lines : List V) (n0Lines : Nat) (s0Fly : List UInt8) (cs0Ages : List V) (n0Ages : Nat) (s0Ready : List UInt8) (s0Buffer : List UInt8) (a3 : Option (Nat × Nat)) (l3 : Nat) (c3 : Option Nat) (k3 : Nat) (h : Heap) (K : Out → Nat → List V → Heap → Prop) : (codeP Try.Y (Try.Y.loc 46) 100 (((post (flat (bodyOf Try.f46))).drop 1)) ⟨mk 35 (([1, 2, 3] : List Nat).zip [V.lb [V.b b0On, V.b b0Shut, V.b b0Eof, V.i IntKind.i64 x0Place, V.i IntKind.i64 x0Clock, V.s s0Typed, V.ts cs0Lines n0Lines none, V.s s0Fly, V.ts cs0Ages n0Ages none, V.s s0Ready, V.s s0Buffer], V.lb [V.b false, V.b false, V.b false, V.i IntKind.i64 0, V.i IntKind.i64 0, V.s [], V.sl none 0 (some 0) 0, V.s [], V.sl none 0 (some 0) 0, V.s [], V.s []], V.sl a3 l3 c3 k3]), [], h⟩ (VQ [2] K)) =
  (If b0On
  (If (!b0Shut)
 (K Out.ret 35
 [V.lb
 [V.b b0On, V.b b0Shut, V.b b0Eof, V.i IntKind.i64 x0Place,
 V.i IntKind.i64 (IntKind.i64.wrap (x0Clock + (1 : Int))), V.s s0Typed, V.ts cs0Lines n0Lines none,
 V.s s0Fly, V.sl a3 l3 c3 k3, V.s s0Ready, V.s s0Buffer]]
 h)
 (K Out.ret 35
 [V.lb
 [V.b b0On, V.b b0Shut, V.b b0Eof, V.i IntKind.i64 x0Place, V.i IntKind.i64 x0Clock, V.s s0Typed,
 V.ts cs0Lines n0Lines none, V.s s0Fly, V.sl a3 l3 c3 k3, V.s s0Ready, V.s s0Buffer]]
 h))
  (K Out.ret 35
 [V.lb
 [V.b b0On, V.b b0Shut, V.b b0Eof, V.i IntKind.i64 x0Place, V.i IntKind.i64 x0Clock, V.s s0Typed,
 V.ts cs0Lines n0Lines none, V.s s0Fly, V.sl a3 l3 c3 k3, V.s s0Ready, V.s s0Buffer]]
 h)) := by kernel_rfl
theorem f40_0 (b0On : Bool) (b0Shut : Bool) (b0Eof : Bool) (x0Place : Int) (x0Clock : Int) (s0Typed : List UInt8) (cs0Lines : List V) (n0Lines : Nat) (s0Fly : List UInt8) (cs0Ages : List V) (n0Ages : Nat) (s0Ready : List UInt8) (s0Buffer : List UInt8) (x1Cap : Int) (cs1Places : List V) (n1Places : Nat) (h : Heap) (K : Out → Nat → List V → Heap → Prop) : (codeP Try.Y (Try.Y.loc 40) 100 ((flat (bodyOf Try.f40))) ⟨(V.agg [V.b b0On, V.b b0Shut, V.b b0Eof, V.i IntKind.i64 x0Place, V.i IntKind.i64 x0Clock, V.s s0Typed, V.ts cs0Lines n0Lines none, V.s s0Fly, V.ts cs0Ages n0Ages none, V.s s0Ready, V.s s0Buffer] :: V.agg [V.i IntKind.i64 x1Cap, V.ts cs1Places n1Places none] :: List.replicate 9 .undef), [], h⟩ (VQ [4] K)) =
  (∃ (b : Bool),
  (PCon Try.Y (31 : Nat)
 [V.agg
 [V.b b0On, V.b b0Shut, V.b b0Eof, V.i IntKind.i64 x0Place, V.i IntKind.i64 x0Clock, V.s s0Typed,
 V.ts cs0Lines n0Lines none, V.s s0Fly, V.ts cs0Ages n0Ages none, V.s s0Ready, V.s s0Buffer]]
 fun (v : V) => v = V.b b) ∧
 If b
 (∃ (b : Bool),
 (PCon Try.Y (32 : Nat) [V.agg [V.i IntKind.i64 x1Cap, V.ts cs1Places n1Places none]] fun (v : V) => v = V.b b) ∧
 K Out.ret 11 [V.b b] h)
 (K Out.ret 11 [V.b false] h)) := by kernel_rfl
theorem f81_0 (x0Cap : Int) (cs0Places : List V) (n0Places : Nat) (x1 : Int) (h : Heap) (K : Out → Nat → List V → Heap → Prop) : (codeP Try.Y (Try.Y.loc 81) 100 (pre (flat (bodyOf Try.f81))) ⟨(V.agg [V.i IntKind.i64 x0Cap, V.ts cs0Places n0Places none] :: V.i IntKind.i64 x1 :: List.replicate 34 .undef), [], h⟩ (VQ [4, 5, 22, 23, 24] K)) =
  (If (ltI x1 (0 : Int)) (K Out.ret 36 [V.i IntKind.i64 (0 : Int), V.undef, V.undef, V.undef, V.undef] h)
  (If (leI (↑n0Places : Int) x1)
 (K Out.ret 36 [V.i IntKind.i64 (0 : Int), V.undef, V.undef, V.undef, V.undef] h)
 (((0 : Int) ≤ x1 ∧ x1 < (↑n0Places : Int)) ∧
 ∃ (cs : List V),
 ∃ (l : Nat),
 ∃ (c : Option Nat),
 takeX 1 (List.drop (2 : Nat) (List.drop (x1.toNat * (3 : Nat)) cs0Places)) = some [V.ts cs l c] ∧
 K Out.normal 36
 [V.i IntKind.i64 (0 : Int), V.i IntKind.i64 (0 : Int), V.ts cs l c, V.i IntKind.i64 (↑l : Int),
 V.i IntKind.i64 (0 : Int)]
 h))) := by kernel_rfl
theorem f81_1 (c22 : Option Nat) (cs22 : List V) (n22 : Nat) (x23 : Int) (x5 : Int) (x24 : Int) (h : Heap) (K : Out → Nat → List V → Heap → Prop) : (codeP Try.Y (Try.Y.loc 81) 100 ((flat (loopB (post (flat (bodyOf Try.f81)))))) ⟨mk 36 (([5, 22, 23, 24] : List Nat).zip [V.i IntKind.i64 x5, V.ts cs22 n22 c22, V.i IntKind.i64 x23, V.i IntKind.i64 x24]), [], h⟩ (VQ [5, 22, 23, 24] K)) =
  (If (ltI x24 x23)
  (((0 : Int) ≤ x24 ∧ x24 < (↑n22 : Int)) ∧
 ∃ (n : Int),
 ∃ (s : List UInt8),
 ∃ (n_1 : Int),
 ∃ (n_2 : Int),
 ∃ (n_3 : Int),
 takeX 5 (List.drop (x24.toNat * (5 : Nat)) cs22) =
 some [V.i IntKind.i64 n, V.s s, V.i IntKind.i64 n_1, V.i IntKind.i64 n_2, V.i IntKind.i64 n_3] ∧
 K Out.normal 36
 [V.i IntKind.i64
 ((fun (x y : Int) => if y > x then y else x) ((fun (x y : Int) => if y > x then y else x) x5 n_1)
 n_2),
 V.ts cs22 n22 c22, V.i IntKind.i64 x23, V.i IntKind.i64 (IntKind.i64.wrap (x24 + (1 : Int)))]
 h)
  (K (Out.exit 0) 36
 [V.i IntKind.i64 x5, V.ts cs22 n22 c22, V.i IntKind.i64 x23, V.i IntKind.i64 x24] h)) := by kernel_rfl
theorem f81_2 (x5 : Int) (h : Heap) (K : Out → Nat → List V → Heap → Prop) : (codeP Try.Y (Try.Y.loc 81) 100 (((post (flat (bodyOf Try.f81))).drop 1)) ⟨mk 36 (([5] : List Nat).zip [V.i IntKind.i64 x5]), [], h⟩ (VQ [4] K)) =
  (K Out.ret 36 [V.i IntKind.i64 x5] h) := by kernel_rfl
theorem f82_0 (b0On : Bool) (b0Shut : Bool) (b0Eof : Bool) (x0Place : Int) (x0Clock : Int) (s0Typed : List UInt8) (cs0Lines : List V) (n0Lines : Nat) (s0Fly : List UInt8) (cs0Ages : List V) (n0Ages : Nat) (s0Ready : List UInt8) (s0Buffer : List UInt8) (x1Cap : Int) (cs1Places : List V) (n1Places : Nat) (h : Heap) (K : Out → Nat → List V → Heap → Prop) : (codeP Try.Y (Try.Y.loc 82) 100 ((flat (bodyOf Try.f82))) ⟨(V.agg [V.b b0On, V.b b0Shut, V.b b0Eof, V.i IntKind.i64 x0Place, V.i IntKind.i64 x0Clock, V.s s0Typed, V.ts cs0Lines n0Lines none, V.s s0Fly, V.ts cs0Ages n0Ages none, V.s s0Ready, V.s s0Buffer] :: V.agg [V.i IntKind.i64 x1Cap, V.ts cs1Places n1Places none] :: List.replicate 23 .undef), [], h⟩ (VQ [4] K)) =
  (∃ (b : Bool),
  (PCon Try.Y (23 : Nat)
 [V.agg
 [V.b b0On, V.b b0Shut, V.b b0Eof, V.i IntKind.i64 x0Place, V.i IntKind.i64 x0Clock, V.s s0Typed,
 V.ts cs0Lines n0Lines none, V.s s0Fly, V.ts cs0Ages n0Ages none, V.s s0Ready, V.s s0Buffer],
 V.agg [V.i IntKind.i64 x1Cap, V.ts cs1Places n1Places none]]
 fun (v : V) => v = V.b b) ∧
 If (!b) (K Out.ret 25 [V.sl none 0 (some 0) 0] h)
 (If (!b0On) (K Out.ret 25 [V.sl none 0 (some 0) 0] h)
 (If b0Shut (K Out.ret 25 [V.sl none 0 (some 0) 0] h)
 (((0 : Int) ≤ x0Place ∧ x0Place < (↑n1Places : Int)) ∧
 ∃ (cs : List V),
 ∃ (l : Nat),
 ∃ (c : Option Nat),
 takeX 1 (List.drop (2 : Nat) (List.drop (x0Place.toNat * (3 : Nat)) cs1Places)) =
 some [V.ts cs l c] ∧
 K Out.ret 25 [V.ts cs l c] h)))) := by kernel_rfl
theorem f41_0 (b0On : Bool) (b0Shut : Bool) (b0Eof : Bool) (x0Place : Int) (x0Clock : Int) (s0Typed : List UInt8) (cs0Lines : List V) (n0Lines : Nat) (s0Fly : List UInt8) (cs0Ages : List V) (n0Ages : Nat) (s0Ready : List UInt8) (s0Buffer : List UInt8) (x1Cap : Int) (cs1Places : List V) (n1Places : Nat) (h : Heap) (K : Out → Nat → List V → Heap → Prop) : (codeP Try.Y (Try.Y.loc 41) 100 ((flat (bodyOf Try.f41))) ⟨(V.agg [V.b b0On, V.b b0Shut, V.b b0Eof, V.i IntKind.i64 x0Place, V.i IntKind.i64 x0Clock, V.s s0Typed, V.ts cs0Lines n0Lines none, V.s s0Fly, V.ts cs0Ages n0Ages none, V.s s0Ready, V.s s0Buffer] :: V.agg [V.i IntKind.i64 x1Cap, V.ts cs1Places n1Places none] :: List.replicate 12 .undef), [], h⟩ (VQ [4] K)) =
  (∃ (n : Int),
  (PCon Try.Y (81 : Nat) [V.agg [V.i IntKind.i64 x1Cap, V.ts cs1Places n1Places none], V.i IntKind.i64 x0Place]
 fun (v : V) => v = V.i IntKind.i64 n) ∧
 K Out.ret 14
 [V.lb
 [V.b b0On, V.b b0Shut, V.b b0Eof, V.i IntKind.i64 x0Place,
 V.i IntKind.i64 ((fun (x y : Int) => if y < x then y else x) x0Clock n), V.s s0Typed,
 V.ts cs0Lines n0Lines none, V.s s0Fly, V.ts cs0Ages n0Ages none, V.s s0Ready, V.s s0Buffer]]
 h) := by kernel_rfl
theorem f83_0 (b0On : Bool) (b0Shut : Bool) (b0Eof : Bool) (x0Place : Int) (x0Clock : Int) (s0Typed : List UInt8) (cs0Lines : List V) (n0Lines : Nat) (s0Fly : List UInt8) (cs0Ages : List V) (n0Ages : Nat) (s0Ready : List UInt8) (s0Buffer : List UInt8) (x1Cap : Int) (cs1Places : List V) (n1Places : Nat) (x2Kind : Int) (s2Text : List UInt8) (x2Lo : Int) (x2Hi : Int) (x2To : Int) (h : Heap) (K : Out → Nat → List V → Heap → Prop) : (codeP Try.Y (Try.Y.loc 83) 100 ((flat (bodyOf Try.f83))) ⟨(V.agg [V.b b0On, V.b b0Shut, V.b b0Eof, V.i IntKind.i64 x0Place, V.i IntKind.i64 x0Clock, V.s s0Typed, V.ts cs0Lines n0Lines none, V.s s0Fly, V.ts cs0Ages n0Ages none, V.s s0Ready, V.s s0Buffer] :: V.agg [V.i IntKind.i64 x1Cap, V.ts cs1Places n1Places none] :: V.agg [V.i IntKind.i64 x2Kind, V.s s2Text, V.i IntKind.i64 x2Lo, V.i IntKind.i64 x2Hi, V.i IntKind.i64 x2To] :: List.replicate 52 .undef), [], h⟩ (VQ [6] K)) =
  (If (x2Kind == (1 : Int))
  (If (leI x2Lo x0Clock)
 (∃ (n : Int),
 (PCon Try.Y (52 : Nat)
 [V.agg
 [V.b b0On, V.b b0Shut, V.b b0Eof, V.i IntKind.i64 x0Place, V.i IntKind.i64 x0Clock, V.s s0Typed,
 V.ts cs0Lines n0Lines none, V.s s0Fly, V.ts cs0Ages n0Ages none, V.s s0Ready, V.s s0Buffer],
 V.agg [V.i IntKind.i64 x1Cap, V.ts cs1Places n1Places none]]
 fun (v : V) => v = V.i IntKind.i64 n) ∧
 K Out.ret 55 [V.b (leI (↑s2Text.length : Int) n)] h)
 (K Out.ret 55 [V.b false] h))
  (If (x2Kind == (2 : Int))
 (∃ (s : List UInt8),
 ∃ (b : Bool),
 (PCon Try.Y (37 : Nat)
 [V.agg
 [V.b b0On, V.b b0Shut, V.b b0Eof, V.i IntKind.i64 x0Place, V.i IntKind.i64 x0Clock, V.s s0Typed,
 V.ts cs0Lines n0Lines none, V.s s0Fly, V.ts cs0Ages n0Ages none, V.s s0Ready, V.s s0Buffer]]
 fun (v : V) => v = V.tup [V.s s, V.b b]) ∧
 ∃ (cs : List V),
 ∃ (l : Nat),
 ∃ (c : Option Nat),
 ∃ (n : Int),
 ∃ (n_1 : Int),
 (PCon Try.Y (13 : Nat) [V.s s2Text] fun (v : V) =>
 v = V.tup [V.ts cs l c, V.i IntKind.i64 n, V.i IntKind.i64 n_1]) ∧
 If b
 (∃ (b : Bool),
 (PCon Try.Y (18 : Nat) [V.ts cs l c, V.s s] fun (v : V) => v = V.b b) ∧
 K Out.ret 55 [V.b b] h)
 (K Out.ret 55 [V.b false] h))
 (K Out.ret 55 [V.b (leI x2Lo x0Clock)] h))) := by kernel_rfl
theorem f86_0 (b0On : Bool) (b0Shut : Bool) (b0Eof : Bool) (x0Place : Int) (x0Clock : Int) (s0Typed : List UInt8) (cs0Lines : List V) (n0Lines : Nat) (s0Fly : List UInt8) (cs0Ages : List V) (n0Ages : Nat) (s0Ready : List UInt8) (s0Buffer : List UInt8) (x1Cap : Int) (cs1Places : List V) (n1Places : Nat) (x2Kind : Int) (s2Text : List UInt8) (x2Lo : Int) (x2Hi : Int) (x2To : Int) (h : Heap) (K : Out → Nat → List V → Heap → Prop) : (codeP Try.Y (Try.Y.loc 86) 100 ((flat (bodyOf Try.f86))) ⟨(V.agg [V.b b0On, V.b b0Shut, V.b b0Eof, V.i IntKind.i64 x0Place, V.i IntKind.i64 x0Clock, V.s s0Typed, V.ts cs0Lines n0Lines none, V.s s0Fly, V.ts cs0Ages n0Ages none, V.s s0Ready, V.s s0Buffer] :: V.agg [V.i IntKind.i64 x1Cap, V.ts cs1Places n1Places none] :: V.agg [V.i IntKind.i64 x2Kind, V.s s2Text, V.i IntKind.i64 x2Lo, V.i IntKind.i64 x2Hi, V.i IntKind.i64 x2To] :: List.replicate 25 .undef), [], h⟩ (VQ [6] K)) =
  (∃ (b : Bool),
  (PCon Try.Y (83 : Nat)
 [V.agg
 [V.b b0On, V.b b0Shut, V.b b0Eof, V.i IntKind.i64 x0Place, V.i IntKind.i64 x0Clock, V.s s0Typed,
 V.ts cs0Lines n0Lines none, V.s s0Fly, V.ts cs0Ages n0Ages none, V.s s0Ready, V.s s0Buffer],
 V.agg [V.i IntKind.i64 x1Cap, V.ts cs1Places n1Places none],
 V.agg [V.i IntKind.i64 x2Kind, V.s s2Text, V.i IntKind.i64 x2Lo, V.i IntKind.i64 x2Hi, V.i IntKind.i64 x2To]]
 fun (v : V) => v = V.b b) ∧
 If b
 (If (x2Kind == (2 : Int)) (K Out.ret 28 [V.b true] h)
 (If (leI (0 : Int) x2Hi) (K Out.ret 28 [V.b (leI x2Hi x0Clock)] h)
 (K Out.ret 28 [V.b false] h)))
 (K Out.ret 28 [V.b false] h)) := by kernel_rfl
theorem f42_0 (b0On : Bool) (b0Shut : Bool) (b0Eof : Bool) (x0Place : Int) (x0Clock : Int) (s0Typed : List UInt8) (cs0Lines : List V) (n0Lines : Nat) (s0Fly : List UInt8) (cs0Ages : List V) (n0Ages : Nat) (s0Ready : List UInt8) (s0Buffer : List UInt8) (x1Cap : Int) (cs1Places : List V) (n1Places : Nat) (h : Heap) (K : Out → Nat → List V → Heap → Prop) : (codeP Try.Y (Try.Y.loc 42) 100 (pre (flat (bodyOf Try.f42))) ⟨(V.agg [V.b b0On, V.b b0Shut, V.b b0Eof, V.i IntKind.i64 x0Place, V.i IntKind.i64 x0Clock, V.s s0Typed, V.ts cs0Lines n0Lines none, V.s s0Fly, V.ts cs0Ages n0Ages none, V.s s0Ready, V.s s0Buffer] :: V.agg [V.i IntKind.i64 x1Cap, V.ts cs1Places n1Places none] :: List.replicate 25 .undef), [], h⟩ (VQ [2, 3, 5, 10, 11, 12] K)) =
  (∃ (cs : List V),
  ∃ (l : Nat),
 ∃ (c : Option Nat),
 (PCon Try.Y (82 : Nat)
 [V.agg
 [V.b b0On, V.b b0Shut, V.b b0Eof, V.i IntKind.i64 x0Place, V.i IntKind.i64 x0Clock, V.s s0Typed,
 V.ts cs0Lines n0Lines none, V.s s0Fly, V.ts cs0Ages n0Ages none, V.s s0Ready, V.s s0Buffer],
 V.agg [V.i IntKind.i64 x1Cap, V.ts cs1Places n1Places none]]
 fun (v : V) => v = V.ts cs l c) ∧
 K Out.normal 27
 [V.lb
 [V.b b0On, V.b b0Shut, V.b b0Eof, V.i IntKind.i64 x0Place, V.i IntKind.i64 x0Clock, V.s s0Typed,
 V.ts cs0Lines n0Lines none, V.s s0Fly, V.ts cs0Ages n0Ages none, V.s s0Ready, V.s s0Buffer],
 V.lb [V.i IntKind.i64 x1Cap, V.ts cs1Places n1Places none],
 V.sl none 0 (some 0) 0, V.ts cs l c, V.i IntKind.i64 (↑l : Int),
 V.i IntKind.i64 (0 : Int)]
 h) := by kernel_rfl
theorem f42_1 (b0On : Bool) (b0Shut : Bool) (b0Eof : Bool) (x0Place : Int) (x0Clock : Int) (s0Typed : List UInt8) (cs0Lines : List V) (n0Lines : Nat) (s0Fly : List UInt8) (cs0Ages : List V) (n0Ages : Nat) (s0Ready : List UInt8) (s0Buffer : List UInt8) (x1Cap : Int) (cs1Places : List V) (n1Places : Nat) (c10 : Option Nat) (cs10 : List V) (n10 : Nat) (x11 : Int) (a5z2 : Option (Nat × Nat)) (l5z2 : Nat) (c5z2 : Option Nat) (k5z2 : Nat) (x12z2 : Int) (h : Heap) (K : Out → Nat → List V → Heap → Prop) : (codeP Try.Y (Try.Y.loc 42) 100 ((flat (loopB (post (flat (bodyOf Try.f42)))))) ⟨mk 27 (([2, 3, 5, 10, 11, 12] : List Nat).zip [V.lb [V.b b0On, V.b b0Shut, V.b b0Eof, V.i IntKind.i64 x0Place, V.i IntKind.i64 x0Clock, V.s s0Typed, V.ts cs0Lines n0Lines none, V.s s0Fly, V.ts cs0Ages n0Ages none, V.s s0Ready, V.s s0Buffer], V.lb [V.i IntKind.i64 x1Cap, V.ts cs1Places n1Places none], V.sl a5z2 l5z2 c5z2 k5z2, V.ts cs10 n10 c10, V.i IntKind.i64 x11, V.i IntKind.i64 x12z2]), [], h⟩ (VQ [2, 3, 5, 10, 11, 12] K)) =
  (If (ltI x12z2 x11)
  (((0 : Int) ≤ x12z2 ∧ x12z2 < (↑n10 : Int)) ∧
 ∃ (n : Int),
 ∃ (s : List UInt8),
 ∃ (n_1 : Int),
 ∃ (n_2 : Int),
 ∃ (n_3 : Int),
 takeX 5 (List.drop (x12z2.toNat * (5 : Nat)) cs10) =
 some [V.i IntKind.i64 n, V.s s, V.i IntKind.i64 n_1, V.i IntKind.i64 n_2, V.i IntKind.i64 n_3] ∧
 ∃ (b : Bool),
 (PCon Try.Y (83 : Nat)
 [V.agg
 [V.b b0On, V.b b0Shut, V.b b0Eof, V.i IntKind.i64 x0Place, V.i IntKind.i64 x0Clock,
 V.s s0Typed, V.ts cs0Lines n0Lines none, V.s s0Fly, V.ts cs0Ages n0Ages none, V.s s0Ready,
 V.s s0Buffer],
 V.agg [V.i IntKind.i64 x1Cap, V.ts cs1Places n1Places none],
 V.agg [V.i IntKind.i64 n, V.s s, V.i IntKind.i64 n_1, V.i IntKind.i64 n_2, V.i IntKind.i64 n_3]]
 fun (v : V) => v = V.b b) ∧
 If b
 (∃ (a : Option (Nat × Nat)),
 ∃ (l : Nat),
 ∃ (c : Option Nat),
 ∃ (k : Nat),
 ∃ (h_1 : Heap),
 appendH Try.Y h 41 41 (V.sl a5z2 l5z2 c5z2 k5z2)
 (V.ts [V.i IntKind.i64 x12z2] 1 (some 1)) =
 some (V.sl a l c k, h_1) ∧
 K Out.normal 27
 [V.lb
 [V.b b0On, V.b b0Shut, V.b b0Eof, V.i IntKind.i64 x0Place,
 V.i IntKind.i64 x0Clock, V.s s0Typed, V.ts cs0Lines n0Lines none, V.s s0Fly,
 V.ts cs0Ages n0Ages none, V.s s0Ready, V.s s0Buffer],
 V.lb [V.i IntKind.i64 x1Cap, V.ts cs1Places n1Places none], V.sl a l c k,
 V.ts cs10 n10 c10, V.i IntKind.i64 x11,
 V.i IntKind.i64 (IntKind.i64.wrap (x12z2 + (1 : Int)))]
 h_1)
 (K Out.normal 27
 [V.lb
 [V.b b0On, V.b b0Shut, V.b b0Eof, V.i IntKind.i64 x0Place, V.i IntKind.i64 x0Clock,
 V.s s0Typed, V.ts cs0Lines n0Lines none, V.s s0Fly, V.ts cs0Ages n0Ages none, V.s s0Ready,
 V.s s0Buffer],
 V.lb [V.i IntKind.i64 x1Cap, V.ts cs1Places n1Places none], V.sl a5z2 l5z2 c5z2 k5z2,
 V.ts cs10 n10 c10, V.i IntKind.i64 x11,
 V.i IntKind.i64 (IntKind.i64.wrap (x12z2 + (1 : Int)))]
 h))
  (K (Out.exit 0) 27
 [V.lb
 [V.b b0On, V.b b0Shut, V.b b0Eof, V.i IntKind.i64 x0Place, V.i IntKind.i64 x0Clock, V.s s0Typed,
 V.ts cs0Lines n0Lines none, V.s s0Fly, V.ts cs0Ages n0Ages none, V.s s0Ready, V.s s0Buffer],
 V.lb [V.i IntKind.i64 x1Cap, V.ts cs1Places n1Places none], V.sl a5z2 l5z2 c5z2 k5z2, V.ts cs10 n10 c10,
 V.i IntKind.i64 x11, V.i IntKind.i64 x12z2]
 h)) := by kernel_rfl
theorem f42_2 (a5z2 : Option (Nat × Nat)) (l5z2 : Nat) (c5z2 : Option Nat) (k5z2 : Nat) (h : Heap) (K : Out → Nat → List V → Heap → Prop) : (codeP Try.Y (Try.Y.loc 42) 100 (((post (flat (bodyOf Try.f42))).drop 1)) ⟨mk 27 (([5] : List Nat).zip [V.sl a5z2 l5z2 c5z2 k5z2]), [], h⟩ (VQ [4] K)) =
  (K Out.ret 27 [V.sl a5z2 l5z2 c5z2 k5z2] h) := by kernel_rfl
theorem f45_0 (b0On : Bool) (b0Shut : Bool) (b0Eof : Bool) (x0Place : Int) (x0Clock : Int) (s0Typed : List UInt8) (cs0Lines : List V) (n0Lines : Nat) (s0Fly : List UInt8) (cs0Ages : List V) (n0Ages : Nat) (s0Ready : List UInt8) (s0Buffer : List UInt8) (x1Cap : Int) (cs1Places : List V) (n1Places : Nat) (x2 : Int) (h : Heap) (K : Out → Nat → List V → Heap → Prop) : (codeP Try.Y (Try.Y.loc 45) 100 ((flat (bodyOf Try.f45))) ⟨(V.agg [V.b b0On, V.b b0Shut, V.b b0Eof, V.i IntKind.i64 x0Place, V.i IntKind.i64 x0Clock, V.s s0Typed, V.ts cs0Lines n0Lines none, V.s s0Fly, V.ts cs0Ages n0Ages none, V.s s0Ready, V.s s0Buffer] :: V.agg [V.i IntKind.i64 x1Cap, V.ts cs1Places n1Places none] :: V.i IntKind.i64 x2 :: List.replicate 71 .undef), [], h⟩ (VQ [6, 7] K)) =
  (∃ (b : Bool),
  (PCon Try.Y (23 : Nat)
 [V.agg
 [V.b b0On, V.b b0Shut, V.b b0Eof, V.i IntKind.i64 x0Place, V.i IntKind.i64 x0Clock, V.s s0Typed,
 V.ts cs0Lines n0Lines none, V.s s0Fly, V.ts cs0Ages n0Ages none, V.s s0Ready, V.s s0Buffer],
 V.agg [V.i IntKind.i64 x1Cap, V.ts cs1Places n1Places none]]
 fun (v : V) => v = V.b b) ∧
 If (!b)
 (K Out.ret 74
 [V.lb
 [V.b false, V.b false, V.b false, V.i IntKind.i64 (0 : Int), V.i IntKind.i64 (0 : Int), V.s [],
 V.sl none 0 (some 0) 0, V.s [],
 V.sl none 0 (some 0) 0, V.s [], V.s []],
 V.i IntKind.i64 (5 : Int)]
 h)
 (∃ (cs : List V),
 ∃ (l : Nat),
 ∃ (c : Option Nat),
 (PCon Try.Y (82 : Nat)
 [V.agg
 [V.b b0On, V.b b0Shut, V.b b0Eof, V.i IntKind.i64 x0Place, V.i IntKind.i64 x0Clock, V.s s0Typed,
 V.ts cs0Lines n0Lines none, V.s s0Fly, V.ts cs0Ages n0Ages none, V.s s0Ready, V.s s0Buffer],
 V.agg [V.i IntKind.i64 x1Cap, V.ts cs1Places n1Places none]]
 fun (v : V) => v = V.ts cs l c) ∧
 If (ltI x2 (0 : Int))
 (K Out.ret 74
 [V.lb
 [V.b false, V.b false, V.b false, V.i IntKind.i64 (0 : Int), V.i IntKind.i64 (0 : Int), V.s [],
 V.sl none 0 (some 0) 0, V.s [],
 V.sl none 0 (some 0) 0, V.s [], V.s []],
 V.i IntKind.i64 (11 : Int)]
 h)
 (If (leI (↑l : Int) x2)
 (K Out.ret 74
 [V.lb
 [V.b false, V.b false, V.b false, V.i IntKind.i64 (0 : Int), V.i IntKind.i64 (0 : Int), V.s [],
 V.sl none 0 (some 0) 0, V.s [],
 V.sl none 0 (some 0) 0, V.s [], V.s []],
 V.i IntKind.i64 (11 : Int)]
 h)
 (((0 : Int) ≤ x2 ∧ x2 < (↑l : Int)) ∧
 ∃ (n : Int),
 ∃ (s : List UInt8),
 ∃ (n_1 : Int),
 ∃ (n_2 : Int),
 ∃ (n_3 : Int),
 takeX 5 (List.drop (x2.toNat * (5 : Nat)) cs) =
 some
 [V.i IntKind.i64 n, V.s s, V.i IntKind.i64 n_1, V.i IntKind.i64 n_2,
 V.i IntKind.i64 n_3] ∧
 ∃ (b : Bool),
 (PCon Try.Y (83 : Nat)
 [V.agg
 [V.b b0On, V.b b0Shut, V.b b0Eof, V.i IntKind.i64 x0Place,
 V.i IntKind.i64 x0Clock, V.s s0Typed, V.ts cs0Lines n0Lines none, V.s s0Fly,
 V.ts cs0Ages n0Ages none, V.s s0Ready, V.s s0Buffer],
 V.agg [V.i IntKind.i64 x1Cap, V.ts cs1Places n1Places none],
 V.agg
 [V.i IntKind.i64 n, V.s s, V.i IntKind.i64 n_1, V.i IntKind.i64 n_2,
 V.i IntKind.i64 n_3]]
 fun (v : V) => v = V.b b) ∧
 If (!b)
 (K Out.ret 74
 [V.lb
 [V.b false, V.b false, V.b false, V.i IntKind.i64 (0 : Int),
 V.i IntKind.i64 (0 : Int), V.s [],
 V.sl none 0 (some 0) 0, V.s [],
 V.sl none 0 (some 0) 0, V.s [], V.s []],
 V.i IntKind.i64 (11 : Int)]
 h)
 (((0 : Int) ≤ x2 ∧ x2 < (↑l : Int)) ∧
 ∃ (n : Int),
 ∃ (s : List UInt8),
 ∃ (n_4 : Int),
 ∃ (n_5 : Int),
 ∃ (n_6 : Int),
 takeX 5 (List.drop (x2.toNat * (5 : Nat)) cs) =
 some
 [V.i IntKind.i64 n, V.s s, V.i IntKind.i64 n_4,
 V.i IntKind.i64 n_5, V.i IntKind.i64 n_6] ∧
 If (n == (1 : Int))
 (∃ (b : Bool),
 ∃ (b_1 : Bool),
 ∃ (b_2 : Bool),
 ∃ (n : Int),
 ∃ (n_7 : Int),
 ∃ (s_1 : List UInt8),
 ∃ (cs : List V),
 ∃ (l : Nat),
 ∃ (c : Option Nat),
 ∃ (s_2 : List UInt8),
 ∃ (cs_1 : List V),
 ∃ (l_1 : Nat),
 ∃ (c_1 : Option Nat),
 ∃ (s_3 : List UInt8),
 ∃ (s_4 : List UInt8),
 ∃ (b_3 : Bool),
 (PCon Try.Y (22 : Nat)
 [V.agg
 [V.b b0On, V.b b0Shut,
 V.b b0Eof,
 V.i IntKind.i64 x0Place,
 V.i IntKind.i64 x0Clock,
 V.s s0Typed,
 V.ts cs0Lines n0Lines
 none,
 V.s s0Fly,
 V.ts cs0Ages n0Ages
 none,
 V.s s0Ready,
 V.s s0Buffer],
 V.agg
 [V.i IntKind.i64 x1Cap,
 V.ts cs1Places n1Places
 none],
 V.s s]
 fun (v : V) =>
 v =
 V.tup
 [V.agg
 [V.b b, V.b b_1,
 V.b b_2,
 V.i IntKind.i64 n,
 V.i IntKind.i64 n_7,
 V.s s_1,
 V.ts cs l c,
 V.s s_2,
 V.ts cs_1 l_1 c_1,
 V.s s_3, V.s s_4],
 V.b b_3]) ∧
 K Out.ret 74
 [V.lb
 [V.b b, V.b b_1, V.b b_2,
 V.i IntKind.i64 n_6,
 V.i IntKind.i64
 (0 : Int),
 V.s s_1, V.ts cs l c,
 V.s s_2,
 V.ts cs_1 l_1 c_1,
 V.s s_3, V.s s_4],
 V.i IntKind.i64 (0 : Int)]
 h)
 (If (n == (2 : Int))
 (∃ (b : Bool),
 ∃ (b_1 : Bool),
 ∃ (b_2 : Bool),
 ∃ (n : Int),
 ∃ (n_7 : Int),
 ∃ (s : List UInt8),
 ∃ (cs : List V),
 ∃ (l : Nat),
 ∃ (c : Option Nat),
 ∃ (s_1 : List UInt8),
 ∃ (cs_1 : List V),
 ∃ (l_1 : Nat),
 ∃ (c_1 : Option Nat),
 ∃ (s_2 : List UInt8),
 ∃ (s_3 : List UInt8),
 ∃ (n_8 : Int),
 (PCon Try.Y (35 : Nat)
 [V.agg
 [V.b b0On, V.b b0Shut,
 V.b b0Eof,
 V.i IntKind.i64
 x0Place,
 V.i IntKind.i64
 x0Clock,
 V.s s0Typed,
 V.ts cs0Lines n0Lines
 none,
 V.s s0Fly,
 V.ts cs0Ages n0Ages
 none,
 V.s s0Ready,
 V.s s0Buffer]]
 fun (v : V) =>
 v =
 V.tup
 [V.agg
 [V.b b, V.b b_1,
 V.b b_2,
 V.i IntKind.i64 n,
 V.i IntKind.i64
 n_7,
 V.s s,
 V.ts cs l c,
 V.s s_1,
 V.ts cs_1 l_1 c_1,
 V.s s_2, V.s s_3],
 V.i IntKind.i64
 n_8]) ∧
 K Out.ret 74
 [V.lb
 [V.b b, V.b b_1,
 V.b b_2,
 V.i IntKind.i64 n_6,
 V.i IntKind.i64
 (0 : Int),
 V.s s, V.ts cs l c,
 V.s s_1,
 V.ts cs_1 l_1 c_1,
 V.s s_2, V.s s_3],
 V.i IntKind.i64 (0 : Int)]
 h)
 (If (n == (3 : Int))
 (K Out.ret 74
 [V.lb
 [V.b b0On, V.b true, V.b b0Eof,
 V.i IntKind.i64 (0 : Int), V.i IntKind.i64 (0 : Int),
 V.s #[].toList,
 V.sl none 0 (some 0) 0,
 V.s s0Fly, V.ts cs0Ages n0Ages none, V.s s0Ready,
 V.s s0Buffer],
 V.i IntKind.i64 (0 : Int)]
 h)
 (K Out.ret 74
 [V.lb
 [V.b b0On, V.b b0Shut, V.b b0Eof,
 V.i IntKind.i64 x0Place, V.i IntKind.i64 (0 : Int),
 V.s s0Typed, V.ts cs0Lines n0Lines none, V.s s0Fly,
 V.ts cs0Ages n0Ages none, V.s s0Ready, V.s s0Buffer],
 V.i IntKind.i64 (0 : Int)]
 h)))))))) := by kernel_rfl
theorem f43_0 (b0On : Bool) (b0Shut : Bool) (b0Eof : Bool) (x0Place : Int) (x0Clock : Int) (s0Typed : List UInt8) (cs0Lines : List V) (n0Lines : Nat) (s0Fly : List UInt8) (cs0Ages : List V) (n0Ages : Nat) (s0Ready : List UInt8) (s0Buffer : List UInt8) (x1Cap : Int) (cs1Places : List V) (n1Places : Nat) (h : Heap) (K : Out → Nat → List V → Heap → Prop) : (codeP Try.Y (Try.Y.loc 43) 100 ((flat (bodyOf Try.f43))) ⟨(V.agg [V.b b0On, V.b b0Shut, V.b b0Eof, V.i IntKind.i64 x0Place, V.i IntKind.i64 x0Clock, V.s s0Typed, V.ts cs0Lines n0Lines none, V.s s0Fly, V.ts cs0Ages n0Ages none, V.s s0Ready, V.s s0Buffer] :: V.agg [V.i IntKind.i64 x1Cap, V.ts cs1Places n1Places none] :: List.replicate 8 .undef), [], h⟩ (VQ [4] K)) =
  (∃ (b : Bool),
  ∃ (b_1 : Bool),
 ∃ (b_2 : Bool),
 ∃ (n : Int),
 ∃ (n_1 : Int),
 ∃ (s : List UInt8),
 ∃ (cs : List V),
 ∃ (l : Nat),
 ∃ (c : Option Nat),
 ∃ (s_1 : List UInt8),
 ∃ (cs_1 : List V),
 ∃ (l_1 : Nat),
 ∃ (c_1 : Option Nat),
 ∃ (s_2 : List UInt8),
 ∃ (s_3 : List UInt8),
 hcells
 ((h.push
 (YObj.arr
 [V.b b0On, V.b b0Shut, V.b b0Eof, V.i IntKind.i64 x0Place,
 V.i IntKind.i64 x0Clock, V.s s0Typed, V.ts cs0Lines n0Lines none,
 V.s s0Fly, V.ts cs0Ages n0Ages none, V.s s0Ready, V.s s0Buffer]
 true)).push
 (YObj.arr [V.i IntKind.i64 x1Cap, V.ts cs1Places n1Places none] true))
 h.nx 0 11 =
 some
 [V.b b, V.b b_1, V.b b_2, V.i IntKind.i64 n, V.i IntKind.i64 n_1, V.s s,
 V.ts cs l c, V.s s_1, V.ts cs_1 l_1 c_1, V.s s_2, V.s s_3] ∧
 ∃ (n_2 : Int),
 ∃ (cs_2 : List V),
 ∃ (l_2 : Nat),
 ∃ (c_2 : Option Nat),
 hcells
 ((h.push
 (YObj.arr
 [V.b b0On, V.b b0Shut, V.b b0Eof, V.i IntKind.i64 x0Place,
 V.i IntKind.i64 x0Clock, V.s s0Typed,
 V.ts cs0Lines n0Lines none, V.s s0Fly, V.ts cs0Ages n0Ages none,
 V.s s0Ready, V.s s0Buffer]
 true)).push
 (YObj.arr [V.i IntKind.i64 x1Cap, V.ts cs1Places n1Places none] true))
 (h.nx + (1 : Nat)) 0 2 =
 some [V.i IntKind.i64 n_2, V.ts cs_2 l_2 c_2] ∧
 ∃ (cs_3 : List V),
 ∃ (l_3 : Nat),
 ∃ (c_3 : Option Nat),
 (PCon Try.Y (82 : Nat)
 [V.agg
 [V.b b, V.b b_1, V.b b_2, V.i IntKind.i64 n,
 V.i IntKind.i64 n_1, V.s s, V.ts cs l c, V.s s_1,
 V.ts cs_1 l_1 c_1, V.s s_2, V.s s_3],
 V.agg [V.i IntKind.i64 n_2, V.ts cs_2 l_2 c_2]]
 fun (v : V) => v = V.ts cs_3 l_3 c_3) ∧
 Con Try.Y (84 : Nat)
 [V.ts cs_3 l_3 c_3,
 V.fn (Fn.func (85 : Nat)) []
 [V.p (some (h.nx, 0)),
 V.p (some (h.nx + (1 : Nat), 0))]]
 ((h.push
 (YObj.arr
 [V.b b0On, V.b b0Shut, V.b b0Eof, V.i IntKind.i64 x0Place,
 V.i IntKind.i64 x0Clock, V.s s0Typed,
 V.ts cs0Lines n0Lines none, V.s s0Fly,
 V.ts cs0Ages n0Ages none, V.s s0Ready, V.s s0Buffer]
 true)).push
 (YObj.arr [V.i IntKind.i64 x1Cap, V.ts cs1Places n1Places none]
 true))
 fun (v : V) (h' : Heap) =>
 ∃ (b : Bool), v = V.b b ∧ K Out.ret 10 [V.b b] h') := by kernel_rfl
theorem f44_0 (b0On : Bool) (b0Shut : Bool) (b0Eof : Bool) (x0Place : Int) (x0Clock : Int) (s0Typed : List UInt8) (cs0Lines : List V) (n0Lines : Nat) (s0Fly : List UInt8) (cs0Ages : List V) (n0Ages : Nat) (s0Ready : List UInt8) (s0Buffer : List UInt8) (x1Cap : Int) (cs1Places : List V) (n1Places : Nat) (h : Heap) (K : Out → Nat → List V → Heap → Prop) : (codeP Try.Y (Try.Y.loc 44) 100 ((flat (bodyOf Try.f44))) ⟨(V.agg [V.b b0On, V.b b0Shut, V.b b0Eof, V.i IntKind.i64 x0Place, V.i IntKind.i64 x0Clock, V.s s0Typed, V.ts cs0Lines n0Lines none, V.s s0Fly, V.ts cs0Ages n0Ages none, V.s s0Ready, V.s s0Buffer] :: V.agg [V.i IntKind.i64 x1Cap, V.ts cs1Places n1Places none] :: List.replicate 8 .undef), [], h⟩ (VQ [4] K)) =
  (∃ (b : Bool),
  ∃ (b_1 : Bool),
 ∃ (b_2 : Bool),
 ∃ (n : Int),
 ∃ (n_1 : Int),
 ∃ (s : List UInt8),
 ∃ (cs : List V),
 ∃ (l : Nat),
 ∃ (c : Option Nat),
 ∃ (s_1 : List UInt8),
 ∃ (cs_1 : List V),
 ∃ (l_1 : Nat),
 ∃ (c_1 : Option Nat),
 ∃ (s_2 : List UInt8),
 ∃ (s_3 : List UInt8),
 hcells
 ((h.push
 (YObj.arr
 [V.b b0On, V.b b0Shut, V.b b0Eof, V.i IntKind.i64 x0Place,
 V.i IntKind.i64 x0Clock, V.s s0Typed, V.ts cs0Lines n0Lines none,
 V.s s0Fly, V.ts cs0Ages n0Ages none, V.s s0Ready, V.s s0Buffer]
 true)).push
 (YObj.arr [V.i IntKind.i64 x1Cap, V.ts cs1Places n1Places none] true))
 h.nx 0 11 =
 some
 [V.b b, V.b b_1, V.b b_2, V.i IntKind.i64 n, V.i IntKind.i64 n_1, V.s s,
 V.ts cs l c, V.s s_1, V.ts cs_1 l_1 c_1, V.s s_2, V.s s_3] ∧
 ∃ (n_2 : Int),
 ∃ (cs_2 : List V),
 ∃ (l_2 : Nat),
 ∃ (c_2 : Option Nat),
 hcells
 ((h.push
 (YObj.arr
 [V.b b0On, V.b b0Shut, V.b b0Eof, V.i IntKind.i64 x0Place,
 V.i IntKind.i64 x0Clock, V.s s0Typed,
 V.ts cs0Lines n0Lines none, V.s s0Fly, V.ts cs0Ages n0Ages none,
 V.s s0Ready, V.s s0Buffer]
 true)).push
 (YObj.arr [V.i IntKind.i64 x1Cap, V.ts cs1Places n1Places none] true))
 (h.nx + (1 : Nat)) 0 2 =
 some [V.i IntKind.i64 n_2, V.ts cs_2 l_2 c_2] ∧
 ∃ (cs_3 : List V),
 ∃ (l_3 : Nat),
 ∃ (c_3 : Option Nat),
 (PCon Try.Y (82 : Nat)
 [V.agg
 [V.b b, V.b b_1, V.b b_2, V.i IntKind.i64 n,
 V.i IntKind.i64 n_1, V.s s, V.ts cs l c, V.s s_1,
 V.ts cs_1 l_1 c_1, V.s s_2, V.s s_3],
 V.agg [V.i IntKind.i64 n_2, V.ts cs_2 l_2 c_2]]
 fun (v : V) => v = V.ts cs_3 l_3 c_3) ∧
 Con Try.Y (84 : Nat)
 [V.ts cs_3 l_3 c_3,
 V.fn (Fn.func (87 : Nat)) []
 [V.p (some (h.nx, 0)),
 V.p (some (h.nx + (1 : Nat), 0))]]
 ((h.push
 (YObj.arr
 [V.b b0On, V.b b0Shut, V.b b0Eof, V.i IntKind.i64 x0Place,
 V.i IntKind.i64 x0Clock, V.s s0Typed,
 V.ts cs0Lines n0Lines none, V.s s0Fly,
 V.ts cs0Ages n0Ages none, V.s s0Ready, V.s s0Buffer]
 true)).push
 (YObj.arr [V.i IntKind.i64 x1Cap, V.ts cs1Places n1Places none]
 true))
 fun (v : V) (h' : Heap) =>
 ∃ (b : Bool), v = V.b b ∧ K Out.ret 10 [V.b b] h') := by kernel_rfl
end Go.Y
