/- What the pieces of functions come to: printed by program. -/
import Derived.Test.YtpddiafjmkjpmaaYTryP
import Derived.Test.YtpddiafjmkjpmaaYLoop
namespace Go.Y
open Go.Proofs
set_option maxRecDepth 100000
set_option maxHeartbeats 0
theorem f35_0 (b0On : Bool) (b0Shut : Bool) (b0Eof : Bool) (x0Place : Int) (x0Clock : Int) (s0Typed : List UInt8) (cs0Lines : List V) (n0Lines : Nat) (s0Fly : List UInt8) (cs0Ages : List V) (n0Ages : Nat) (s0Ready : List UInt8) (s0Buffer : List UInt8) (h : Heap) (K : Out → Nat → List V → Heap → Prop) : (codeP Try.Y (Try.Y.loc 35) 100 ((flat (bodyOf Try.f35))) ⟨(V.agg [V.b b0On, V.b b0Shut, V.b b0Eof, V.i IntKind.i64 x0Place, V.i IntKind.i64 x0Clock, V.s s0Typed, V.ts cs0Lines n0Lines none, V.s s0Fly, V.ts cs0Ages n0Ages none, V.s s0Ready, V.s s0Buffer] :: List.replicate 14 .undef), [], h⟩ (VQ [2, 3] K)) =
  (If ((↑n0Lines : Int) == (0 : Int))
  (K Out.ret 15
 [V.lb
 [V.b false, V.b false, V.b false, V.i IntKind.i64 (0 : Int), V.i IntKind.i64 (0 : Int), V.s [],
 V.sl none 0 (some 0) 0, V.s [],
 V.sl none 0 (some 0) 0, V.s [], V.s []],
 V.i IntKind.i64 (10 : Int)]
 h)
  (((0 : Int) ≤ (1 : Int) ∧ (1 : Int) ≤ (↑n0Lines : Int)) ∧
 ((Con Try.Y (79 : Nat)
 [V.ts
 (List.take ((n0Lines - Int.toNat (1 : Int)) * (1 : Nat))
 (List.drop (Int.toNat (1 : Int) * (1 : Nat)) cs0Lines))
 (n0Lines - Int.toNat (1 : Int)) none]
 h fun (v : V) (h' : Heap) =>
 ∃ (a : Option (Nat × Nat)),
 ∃ (l : Nat),
 ∃ (c : Option Nat),
 ∃ (k : Nat),
 v = V.sl a l c k ∧
 K Out.ret 15
 [V.lb
 [V.b b0On, V.b b0Shut, V.b b0Eof, V.i IntKind.i64 x0Place, V.i IntKind.i64 x0Clock, V.s s0Typed,
 V.sl a l c k, V.s s0Fly, V.ts cs0Ages n0Ages none, V.s s0Ready, V.s s0Buffer],
 V.i IntKind.i64 (0 : Int)]
 h') ∨
 ∃ (cs : List V),
 ∃ (l : Nat),
 ∃ (c : Option Nat),
 (PCon Try.Y (79 : Nat)
 [V.ts
 (List.take ((n0Lines - Int.toNat (1 : Int)) * (1 : Nat))
 (List.drop (Int.toNat (1 : Int) * (1 : Nat)) cs0Lines))
 (n0Lines - Int.toNat (1 : Int)) none]
 fun (v : V) => v = V.ts cs l c) ∧
 K Out.ret 15
 [V.lb
 [V.b b0On, V.b b0Shut, V.b b0Eof, V.i IntKind.i64 x0Place, V.i IntKind.i64 x0Clock, V.s s0Typed,
 V.ts cs l c, V.s s0Fly, V.ts cs0Ages n0Ages none, V.s s0Ready, V.s s0Buffer],
 V.i IntKind.i64 (0 : Int)]
 h))) := by kernel_rfl
theorem f36_0 (b0On : Bool) (b0Shut : Bool) (b0Eof : Bool) (x0Place : Int) (x0Clock : Int) (s0Typed : List UInt8) (cs0Lines : List V) (n0Lines : Nat) (s0Fly : List UInt8) (cs0Ages : List V) (n0Ages : Nat) (s0Ready : List UInt8) (s0Buffer : List UInt8) (h : Heap) (K : Out → Nat → List V → Heap → Prop) : (codeP Try.Y (Try.Y.loc 36) 100 ((flat (bodyOf Try.f36))) ⟨(V.agg [V.b b0On, V.b b0Shut, V.b b0Eof, V.i IntKind.i64 x0Place, V.i IntKind.i64 x0Clock, V.s s0Typed, V.ts cs0Lines n0Lines none, V.s s0Fly, V.ts cs0Ages n0Ages none, V.s s0Ready, V.s s0Buffer] :: List.replicate 15 .undef), [], h⟩ (VQ [2, 3] K)) =
  (If ((↑n0Lines : Int) == (0 : Int))
  (K Out.ret 16
 [V.lb
 [V.b false, V.b false, V.b false, V.i IntKind.i64 (0 : Int), V.i IntKind.i64 (0 : Int), V.s [],
 V.sl none 0 (some 0) 0, V.s [],
 V.sl none 0 (some 0) 0, V.s [], V.s []],
 V.i IntKind.i64 (10 : Int)]
 h)
  (((0 : Int) ≤ (1 : Int) ∧ (1 : Int) ≤ (↑n0Lines : Int)) ∧
 ((∃ (a : Option (Nat × Nat)),
 ∃ (l : Nat),
 ∃ (c : Option Nat),
 ∃ (k : Nat),
 ∃ (h_1 : Heap),
 appendH Try.Y h 34 34 (V.ts [] 0 (some 0))
 (V.ts
 (List.take ((n0Lines - Int.toNat (1 : Int)) * (1 : Nat))
 (List.drop (Int.toNat (1 : Int) * (1 : Nat)) cs0Lines))
 (n0Lines - Int.toNat (1 : Int)) none) =
 some (V.sl a l c k, h_1) ∧
 K Out.ret 16
 [V.lb
 [V.b b0On, V.b b0Shut, V.b b0Eof, V.i IntKind.i64 x0Place, V.i IntKind.i64 x0Clock, V.s s0Typed,
 V.sl a l c k, V.s s0Fly, V.ts cs0Ages n0Ages none, V.s s0Ready, V.s s0Buffer],
 V.i IntKind.i64 (0 : Int)]
 h_1) ∨
 appendH Try.Y h 34 34 (V.ts [] 0 (some 0))
 (V.ts
 (List.take ((n0Lines - Int.toNat (1 : Int)) * (1 : Nat))
 (List.drop (Int.toNat (1 : Int) * (1 : Nat)) cs0Lines))
 (n0Lines - Int.toNat (1 : Int)) none) =
 some (V.ts [] 0 (some 0), h) ∧
 K Out.ret 16
 [V.lb
 [V.b b0On, V.b b0Shut, V.b b0Eof, V.i IntKind.i64 x0Place, V.i IntKind.i64 x0Clock, V.s s0Typed,
 V.ts [] 0 (some 0), V.s s0Fly, V.ts cs0Ages n0Ages none, V.s s0Ready, V.s s0Buffer],
 V.i IntKind.i64 (0 : Int)]
 h))) := by kernel_rfl
theorem f37_0 (b0On : Bool) (b0Shut : Bool) (b0Eof : Bool) (x0Place : Int) (x0Clock : Int) (s0Typed : List UInt8) (cs0Lines : List V) (n0Lines : Nat) (s0Fly : List UInt8) (cs0Ages : List V) (n0Ages : Nat) (s0Ready : List UInt8) (s0Buffer : List UInt8) (h : Heap) (K : Out → Nat → List V → Heap → Prop) : (codeP Try.Y (Try.Y.loc 37) 100 ((flat (bodyOf Try.f37))) ⟨(V.agg [V.b b0On, V.b b0Shut, V.b b0Eof, V.i IntKind.i64 x0Place, V.i IntKind.i64 x0Clock, V.s s0Typed, V.ts cs0Lines n0Lines none, V.s s0Fly, V.ts cs0Ages n0Ages none, V.s s0Ready, V.s s0Buffer] :: List.replicate 11 .undef), [], h⟩ (VQ [2, 3] K)) =
  (If ((↑n0Lines : Int) == (0 : Int)) (K Out.ret 12 [V.s #[].toList, V.b false] h)
  (((0 : Int) ≤ (0 : Int) ∧ (0 : Int) < (↑n0Lines : Int)) ∧
 ∃ (s : List UInt8), takeX 1 cs0Lines = some [V.s s] ∧ K Out.ret 12 [V.s s, V.b true] h)) := by kernel_rfl
theorem f78_0 (b0On : Bool) (b0Shut : Bool) (b0Eof : Bool) (x0Place : Int) (x0Clock : Int) (s0Typed : List UInt8) (cs0Lines : List V) (n0Lines : Nat) (s0Fly : List UInt8) (cs0Ages : List V) (n0Ages : Nat) (s0Ready : List UInt8) (s0Buffer : List UInt8) (x1Cap : Int) (cs1Places : List V) (n1Places : Nat) (s2 : List UInt8) (h : Heap) (K : Out → Nat → List V → Heap → Prop) : (codeP Try.Y (Try.Y.loc 78) 100 ((flat (bodyOf Try.f78))) ⟨(V.agg [V.b b0On, V.b b0Shut, V.b b0Eof, V.i IntKind.i64 x0Place, V.i IntKind.i64 x0Clock, V.s s0Typed, V.ts cs0Lines n0Lines none, V.s s0Fly, V.ts cs0Ages n0Ages none, V.s s0Ready, V.s s0Buffer] :: V.agg [V.i IntKind.i64 x1Cap, V.ts cs1Places n1Places none] :: V.s s2 :: List.replicate 19 .undef), [], h⟩ (VQ [6] K)) =
  (((0 : Int) ≤ x0Place ∧ x0Place < (↑n1Places : Int)) ∧
  ∃ (b : Bool),
 takeX 1 (List.drop (1 : Nat) (List.drop (x0Place.toNat * (3 : Nat)) cs1Places)) = some [V.b b] ∧
 If b
 (∃ (b : Bool),
 ∃ (b_1 : Bool),
 ∃ (b_2 : Bool),
 ∃ (n : Int),
 ∃ (n_1 : Int),
 ∃ (s : List UInt8),
 ∃ (cs : List V),
 ∃ (l : Nat),
 ∃ (c : Option Nat),
 ∃ (s_1 : List UInt8),
 ∃ (cs_1 : List V),
 ∃ (l_1 : Nat),
 ∃ (c_1 : Option Nat),
 ∃ (s_2 : List UInt8),
 ∃ (s_3 : List UInt8),
 ∃ (b_3 : Bool),
 (PCon Try.Y (109 : Nat)
 [V.agg
 [V.b b0On, V.b b0Shut, V.b b0Eof, V.i IntKind.i64 x0Place,
 V.i IntKind.i64 x0Clock, V.s s0Typed, V.ts cs0Lines n0Lines none,
 V.s s0Fly, V.ts cs0Ages n0Ages none, V.s s0Ready, V.s s0Buffer],
 V.agg [V.i IntKind.i64 x1Cap, V.ts cs1Places n1Places none], V.s s2]
 fun (v : V) =>
 v =
 V.tup
 [V.agg
 [V.b b, V.b b_1, V.b b_2, V.i IntKind.i64 n, V.i IntKind.i64 n_1,
 V.s s, V.ts cs l c, V.s s_1, V.ts cs_1 l_1 c_1, V.s s_2, V.s s_3],
 V.b b_3]) ∧
 K Out.ret 22
 [V.lb
 [V.b b, V.b b_1, V.b b_2, V.i IntKind.i64 n, V.i IntKind.i64 n_1, V.s s,
 V.ts cs l c, V.s s_1, V.ts cs_1 l_1 c_1, V.s s_2, V.s s_3]]
 h)
 (K Out.ret 22
 [V.lb
 [V.b b0On, V.b b0Shut, V.b b0Eof, V.i IntKind.i64 x0Place, V.i IntKind.i64 x0Clock, V.s s0Typed,
 V.ts cs0Lines n0Lines none, V.s s0Fly, V.ts cs0Ages n0Ages none, V.s s0Ready, V.s s0Buffer]]
 h)) := by kernel_rfl
theorem f109_0 (b0On : Bool) (b0Shut : Bool) (b0Eof : Bool) (x0Place : Int) (x0Clock : Int) (s0Typed : List UInt8) (cs0Lines : List V) (n0Lines : Nat) (s0Fly : List UInt8) (cs0Ages : List V) (n0Ages : Nat) (s0Ready : List UInt8) (s0Buffer : List UInt8) (x1Cap : Int) (cs1Places : List V) (n1Places : Nat) (s2 : List UInt8) (h : Heap) (K : Out → Nat → List V → Heap → Prop) : (codeP Try.Y (Try.Y.loc 109) 100 (pre (flat (bodyOf Try.f109))) ⟨(V.agg [V.b b0On, V.b b0Shut, V.b b0Eof, V.i IntKind.i64 x0Place, V.i IntKind.i64 x0Clock, V.s s0Typed, V.ts cs0Lines n0Lines none, V.s s0Fly, V.ts cs0Ages n0Ages none, V.s s0Ready, V.s s0Buffer] :: V.agg [V.i IntKind.i64 x1Cap, V.ts cs1Places n1Places none] :: V.s s2 :: List.replicate 35 .undef), [], h⟩ (VQ [2, 3, 6, 7, 8, 9] K)) =
  (∃ (n : Int),
  (PCon Try.Y (62 : Nat)
 [V.agg
 [V.b b0On, V.b b0Shut, V.b b0Eof, V.i IntKind.i64 x0Place, V.i IntKind.i64 x0Clock, V.s s0Typed,
 V.ts cs0Lines n0Lines none, V.s s0Fly, V.ts cs0Ages n0Ages none, V.s s0Ready, V.s s0Buffer],
 V.agg [V.i IntKind.i64 x1Cap, V.ts cs1Places n1Places none]]
 fun (v : V) => v = V.i IntKind.i64 n) ∧
 If (ltI n (↑s2.length : Int))
 (K Out.ret 38
 [V.s s2,
 V.lb
 [V.b b0On, V.b b0Shut, V.b b0Eof, V.i IntKind.i64 x0Place, V.i IntKind.i64 x0Clock, V.s s0Typed,
 V.ts cs0Lines n0Lines none, V.s s0Fly, V.ts cs0Ages n0Ages none, V.s s0Ready, V.s s0Buffer],
 V.lb
 [V.b b0On, V.b b0Shut, V.b b0Eof, V.i IntKind.i64 x0Place, V.i IntKind.i64 x0Clock, V.s s0Typed,
 V.ts cs0Lines n0Lines none, V.s s0Fly, V.ts cs0Ages n0Ages none, V.s s0Ready, V.s s0Buffer],
 V.b false, V.undef, V.undef]
 h)
 ((∃ (a : Option (Nat × Nat)),
 ∃ (l : Nat),
 ∃ (c : Option Nat),
 ∃ (k : Nat),
 ∃ (h_1 : Heap),
 appendH Try.Y h 41 41 (V.ts [] 0 (some 0))
 (V.ts cs0Ages n0Ages none) =
 some (V.sl a l c k, h_1) ∧
 K Out.normal 38
 [V.s s2,
 V.lb
 [V.b b0On, V.b b0Shut, V.b b0Eof, V.i IntKind.i64 x0Place, V.i IntKind.i64 x0Clock,
 V.s s0Typed, V.ts cs0Lines n0Lines none, V.s s0Fly, V.ts cs0Ages n0Ages none, V.s s0Ready,
 V.s s0Buffer],
 V.lb
 [V.b false, V.b false, V.b false, V.i IntKind.i64 (0 : Int), V.i IntKind.i64 (0 : Int),
 V.s [], V.sl none 0 (some 0) 0, V.s [],
 V.sl none 0 (some 0) 0, V.s [], V.s []],
 V.b false, V.sl a l c k, V.i IntKind.i64 (0 : Int)]
 h_1) ∨
 appendH Try.Y h 41 41 (V.ts [] 0 (some 0)) (V.ts cs0Ages n0Ages none) =
 some (V.ts [] 0 (some 0), h) ∧
 K Out.normal 38
 [V.s s2,
 V.lb
 [V.b b0On, V.b b0Shut, V.b b0Eof, V.i IntKind.i64 x0Place, V.i IntKind.i64 x0Clock, V.s s0Typed,
 V.ts cs0Lines n0Lines none, V.s s0Fly, V.ts cs0Ages n0Ages none, V.s s0Ready, V.s s0Buffer],
 V.lb
 [V.b false, V.b false, V.b false, V.i IntKind.i64 (0 : Int), V.i IntKind.i64 (0 : Int), V.s [],
 V.sl none 0 (some 0) 0, V.s [],
 V.sl none 0 (some 0) 0, V.s [], V.s []],
 V.b false, V.ts [] 0 (some 0), V.i IntKind.i64 (0 : Int)]
 h)) := by kernel_rfl
theorem f31_0 (b0On : Bool) (b0Shut : Bool) (b0Eof : Bool) (x0Place : Int) (x0Clock : Int) (s0Typed : List UInt8) (cs0Lines : List V) (n0Lines : Nat) (s0Fly : List UInt8) (cs0Ages : List V) (n0Ages : Nat) (s0Ready : List UInt8) (s0Buffer : List UInt8) (h : Heap) (K : Out → Nat → List V → Heap → Prop) : (codeP Try.Y (Try.Y.loc 31) 100 (pre (flat (bodyOf Try.f31))) ⟨(V.agg [V.b b0On, V.b b0Shut, V.b b0Eof, V.i IntKind.i64 x0Place, V.i IntKind.i64 x0Clock, V.s s0Typed, V.ts cs0Lines n0Lines none, V.s s0Fly, V.ts cs0Ages n0Ages none, V.s s0Ready, V.s s0Buffer] :: List.replicate 66 .undef), [], h⟩ (VQ [1, 2, 47, 48, 49] K)) =
  (If (ltI (100 : Int) (↑s0Typed.length : Int))
  (K Out.ret 67
 [V.lb
 [V.b b0On, V.b b0Shut, V.b b0Eof, V.i IntKind.i64 x0Place, V.i IntKind.i64 x0Clock, V.s s0Typed,
 V.ts cs0Lines n0Lines none, V.s s0Fly, V.ts cs0Ages n0Ages none, V.s s0Ready, V.s s0Buffer],
 V.b false, V.undef, V.undef, V.undef]
 h)
  (If (ltI (40 : Int) (↑s0Fly.length : Int))
 (K Out.ret 67
 [V.lb
 [V.b b0On, V.b b0Shut, V.b b0Eof, V.i IntKind.i64 x0Place, V.i IntKind.i64 x0Clock, V.s s0Typed,
 V.ts cs0Lines n0Lines none, V.s s0Fly, V.ts cs0Ages n0Ages none, V.s s0Ready, V.s s0Buffer],
 V.b false, V.undef, V.undef, V.undef]
 h)
 (If (ltI (100 : Int) (↑s0Ready.length : Int))
 (K Out.ret 67
 [V.lb
 [V.b b0On, V.b b0Shut, V.b b0Eof, V.i IntKind.i64 x0Place, V.i IntKind.i64 x0Clock, V.s s0Typed,
 V.ts cs0Lines n0Lines none, V.s s0Fly, V.ts cs0Ages n0Ages none, V.s s0Ready, V.s s0Buffer],
 V.b false, V.undef, V.undef, V.undef]
 h)
 (If (ltI (100 : Int) (↑s0Buffer.length : Int))
 (K Out.ret 67
 [V.lb
 [V.b b0On, V.b b0Shut, V.b b0Eof, V.i IntKind.i64 x0Place, V.i IntKind.i64 x0Clock, V.s s0Typed,
 V.ts cs0Lines n0Lines none, V.s s0Fly, V.ts cs0Ages n0Ages none, V.s s0Ready, V.s s0Buffer],
 V.b false, V.undef, V.undef, V.undef]
 h)
 (If (ltI (6 : Int) (↑n0Lines : Int))
 (K Out.ret 67
 [V.lb
 [V.b b0On, V.b b0Shut, V.b b0Eof, V.i IntKind.i64 x0Place, V.i IntKind.i64 x0Clock, V.s s0Typed,
 V.ts cs0Lines n0Lines none, V.s s0Fly, V.ts cs0Ages n0Ages none, V.s s0Ready, V.s s0Buffer],
 V.b false, V.undef, V.undef, V.undef]
 h)
 (If (ltI (40 : Int) (↑n0Ages : Int))
 (K Out.ret 67
 [V.lb
 [V.b b0On, V.b b0Shut, V.b b0Eof, V.i IntKind.i64 x0Place, V.i IntKind.i64 x0Clock, V.s s0Typed,
 V.ts cs0Lines n0Lines none, V.s s0Fly, V.ts cs0Ages n0Ages none, V.s s0Ready, V.s s0Buffer],
 V.b false, V.undef, V.undef, V.undef]
 h)
 (If (ltI (1152921504606846976 : Int) x0Clock)
 (K Out.ret 67
 [V.lb
 [V.b b0On, V.b b0Shut, V.b b0Eof, V.i IntKind.i64 x0Place, V.i IntKind.i64 x0Clock, V.s s0Typed,
 V.ts cs0Lines n0Lines none, V.s s0Fly, V.ts cs0Ages n0Ages none, V.s s0Ready, V.s s0Buffer],
 V.b false, V.undef, V.undef, V.undef]
 h)
 (K Out.normal 67
 [V.lb
 [V.b b0On, V.b b0Shut, V.b b0Eof, V.i IntKind.i64 x0Place, V.i IntKind.i64 x0Clock, V.s s0Typed,
 V.ts cs0Lines n0Lines none, V.s s0Fly, V.ts cs0Ages n0Ages none, V.s s0Ready, V.s s0Buffer],
 V.b false, V.ts cs0Lines n0Lines none, V.i IntKind.i64 (↑n0Lines : Int), V.i IntKind.i64 (0 : Int)]
 h)))))))) := by kernel_rfl
theorem f31_1 (b0On : Bool) (b0Shut : Bool) (b0Eof : Bool) (x0Place : Int) (x0Clock : Int) (s0Typed : List UInt8) (cs0Lines : List V) (n0Lines : Nat) (s0Fly : List UInt8) (cs0Ages : List V) (n0Ages : Nat) (s0Ready : List UInt8) (s0Buffer : List UInt8) (x49 : Int) (h : Heap) (K : Out → Nat → List V → Heap → Prop) : (codeP Try.Y (Try.Y.loc 31) 100 ((flat (loopB (post (flat (bodyOf Try.f31)))))) ⟨mk 67 (([1, 47, 48, 49] : List Nat).zip [V.lb [V.b b0On, V.b b0Shut, V.b b0Eof, V.i IntKind.i64 x0Place, V.i IntKind.i64 x0Clock, V.s s0Typed, V.ts cs0Lines n0Lines none, V.s s0Fly, V.ts cs0Ages n0Ages none, V.s s0Ready, V.s s0Buffer], V.ts cs0Lines n0Lines none, V.i IntKind.i64 (↑n0Lines : Int), V.i IntKind.i64 x49]), [], h⟩ (VQ [1, 2, 47, 48, 49] K)) =
  (If (ltI x49 (↑n0Lines : Int))
  (((0 : Int) ≤ x49 ∧ x49 < (↑n0Lines : Int)) ∧
 ∃ (s : List UInt8),
 takeX 1 (List.drop (x49.toNat * (1 : Nat)) cs0Lines) = some [V.s s] ∧
 If (ltI (60 : Int) (↑s.length : Int))
 (K Out.ret 67
 [V.lb
 [V.b b0On, V.b b0Shut, V.b b0Eof, V.i IntKind.i64 x0Place, V.i IntKind.i64 x0Clock, V.s s0Typed,
 V.ts cs0Lines n0Lines none, V.s s0Fly, V.ts cs0Ages n0Ages none, V.s s0Ready, V.s s0Buffer],
 V.b false, V.ts cs0Lines n0Lines none, V.i IntKind.i64 (↑n0Lines : Int), V.i IntKind.i64 x49]
 h)
 (K Out.normal 67
 [V.lb
 [V.b b0On, V.b b0Shut, V.b b0Eof, V.i IntKind.i64 x0Place, V.i IntKind.i64 x0Clock, V.s s0Typed,
 V.ts cs0Lines n0Lines none, V.s s0Fly, V.ts cs0Ages n0Ages none, V.s s0Ready, V.s s0Buffer],
 V.undef, V.ts cs0Lines n0Lines none, V.i IntKind.i64 (↑n0Lines : Int),
 V.i IntKind.i64 (IntKind.i64.wrap (x49 + (1 : Int)))]
 h))
  (K (Out.exit 0) 67
 [V.lb
 [V.b b0On, V.b b0Shut, V.b b0Eof, V.i IntKind.i64 x0Place, V.i IntKind.i64 x0Clock, V.s s0Typed,
 V.ts cs0Lines n0Lines none, V.s s0Fly, V.ts cs0Ages n0Ages none, V.s s0Ready, V.s s0Buffer],
 V.undef, V.ts cs0Lines n0Lines none, V.i IntKind.i64 (↑n0Lines : Int), V.i IntKind.i64 x49]
 h)) := by kernel_rfl
theorem f31_2 (b0On : Bool) (b0Shut : Bool) (b0Eof : Bool) (x0Place : Int) (x0Clock : Int) (cs0Lines : List V) (n0Lines : Nat) (cs0Ages : List V) (n0Ages : Nat) (s1_5 : List UInt8) (s1_7 : List UInt8) (s1_9 : List UInt8) (s1_10 : List UInt8) (h : Heap) (K : Out → Nat → List V → Heap → Prop) : (codeP Try.Y (Try.Y.loc 31) 100 (pre ((post (flat (bodyOf Try.f31))).drop 1)) ⟨mk 67 (([1] : List Nat).zip [V.lb [V.b b0On, V.b b0Shut, V.b b0Eof, V.i IntKind.i64 x0Place, V.i IntKind.i64 x0Clock, V.s s1_5, V.ts cs0Lines n0Lines none, V.s s1_7, V.ts cs0Ages n0Ages none, V.s s1_9, V.s s1_10]]), [], h⟩ (VQ [58, 59, 60] K)) =
  (K Out.normal 67 [V.ts cs0Ages n0Ages none, V.i IntKind.i64 (↑n0Ages : Int), V.i IntKind.i64 (0 : Int)] h) := by kernel_rfl
theorem f31_3 (cs0Ages : List V) (n0Ages : Nat) (x60 : Int) (h : Heap) (K : Out → Nat → List V → Heap → Prop) : (codeP Try.Y (Try.Y.loc 31) 100 ((flat (loopB (post ((post (flat (bodyOf Try.f31))).drop 1))))) ⟨mk 67 (([58, 59, 60] : List Nat).zip [V.ts cs0Ages n0Ages none, V.i IntKind.i64 (↑n0Ages : Int), V.i IntKind.i64 x60]), [], h⟩ (VQ [2, 58, 59, 60] K)) =
  (If (ltI x60 (↑n0Ages : Int))
  (((0 : Int) ≤ x60 ∧ x60 < (↑n0Ages : Int)) ∧
 ∃ (n : Int),
 takeX 1 (List.drop (x60.toNat * (1 : Nat)) cs0Ages) = some [V.i IntKind.i64 n] ∧
 If (ltI (1152921504606846976 : Int) n)
 (K Out.ret 67
 [V.b false, V.ts cs0Ages n0Ages none, V.i IntKind.i64 (↑n0Ages : Int), V.i IntKind.i64 x60] h)
 (K Out.normal 67
 [V.undef, V.ts cs0Ages n0Ages none, V.i IntKind.i64 (↑n0Ages : Int),
 V.i IntKind.i64 (IntKind.i64.wrap (x60 + (1 : Int)))]
 h))
  (K (Out.exit 2) 67
 [V.undef, V.ts cs0Ages n0Ages none, V.i IntKind.i64 (↑n0Ages : Int), V.i IntKind.i64 x60] h)) := by kernel_rfl
theorem f31_4  (h : Heap) (K : Out → Nat → List V → Heap → Prop) : (codeP Try.Y (Try.Y.loc 31) 100 (((post ((post (flat (bodyOf Try.f31))).drop 1)).drop 1)) ⟨mk 67 (([] : List Nat).zip []), [], h⟩ (VQ [2] K)) =
  (K Out.ret 67 [V.b true] h) := by kernel_rfl
theorem f32_0 (x0Cap : Int) (cs0Places : List V) (n0Places : Nat) (h : Heap) (K : Out → Nat → List V → Heap → Prop) : (codeP Try.Y (Try.Y.loc 32) 100 (pre (flat (bodyOf Try.f32))) ⟨(V.agg [V.i IntKind.i64 x0Cap, V.ts cs0Places n0Places none] :: List.replicate 40 .undef), [], h⟩ (VQ [2, 12, 13, 14] K)) =
  (If (ltI (20 : Int) (↑n0Places : Int)) (K Out.ret 41 [V.b false, V.undef, V.undef, V.undef] h)
  (K Out.normal 41
 [V.b false, V.ts cs0Places n0Places none, V.i IntKind.i64 (↑n0Places : Int), V.i IntKind.i64 (0 : Int)] h)) := by kernel_rfl
theorem f32_1 (cs0Places : List V) (n0Places : Nat) (x14 : Int) (h : Heap) (K : Out → Nat → List V → Heap → Prop) : (codeP Try.Y (Try.Y.loc 32) 100 (pre (flat (loopB (post (flat (bodyOf Try.f32)))))) ⟨mk 41 (([12, 13, 14] : List Nat).zip [V.ts cs0Places n0Places none, V.i IntKind.i64 (↑n0Places : Int), V.i IntKind.i64 x14]), [], h⟩ (VQ [12, 13, 14] K)) =
  (If (ltI x14 (↑n0Places : Int))
  (K Out.normal 41 [V.ts cs0Places n0Places none, V.i IntKind.i64 (↑n0Places : Int), V.i IntKind.i64 x14] h)
  (K (Out.exit 0) 41
 [V.ts cs0Places n0Places none, V.i IntKind.i64 (↑n0Places : Int), V.i IntKind.i64 x14] h)) := by kernel_rfl
theorem f32_2 (cs0Places : List V) (n0Places : Nat) (x14 : Int) (h : Heap) (K : Out → Nat → List V → Heap → Prop) : (codeP Try.Y (Try.Y.loc 32) 100 (pre (flat (blockB (post (flat (loopB (post (flat (bodyOf Try.f32))))))))) ⟨mk 41 (([12, 13, 14] : List Nat).zip [V.ts cs0Places n0Places none, V.i IntKind.i64 (↑n0Places : Int), V.i IntKind.i64 x14]), [], h⟩ (VQ [2, 12, 13, 14, 29, 30, 31] K)) =
  (((0 : Int) ≤ x14 ∧ x14 < (↑n0Places : Int)) ∧
  ∃ (s : List UInt8),
 ∃ (b : Bool),
 ∃ (cs : List V),
 ∃ (l : Nat),
 ∃ (c : Option Nat),
 takeX 3 (List.drop (x14.toNat * (3 : Nat)) cs0Places) = some [V.s s, V.b b, V.ts cs l c] ∧
 If (ltI (12 : Int) (↑l : Int))
 (K Out.ret 41
 [V.b false, V.ts cs0Places n0Places none, V.i IntKind.i64 (↑n0Places : Int), V.i IntKind.i64 x14,
 V.undef, V.undef, V.undef]
 h)
 (If (ltI (60 : Int) (↑s.length : Int))
 (K Out.ret 41
 [V.b false, V.ts cs0Places n0Places none, V.i IntKind.i64 (↑n0Places : Int), V.i IntKind.i64 x14,
 V.undef, V.undef, V.undef]
 h)
 (K Out.normal 41
 [V.undef, V.ts cs0Places n0Places none, V.i IntKind.i64 (↑n0Places : Int), V.i IntKind.i64 x14,
 V.ts cs l c, V.i IntKind.i64 (↑l : Int), V.i IntKind.i64 (0 : Int)]
 h))) := by kernel_rfl
theorem f32_3 (cs0Places : List V) (n0Places : Nat) (x14 : Int) (c29z2 : Option Nat) (cs29z2 : List V) (n29z2 : Nat) (x30z2 : Int) (x31z2 : Int) (h : Heap) (K : Out → Nat → List V → Heap → Prop) : (codeP Try.Y (Try.Y.loc 32) 100 ((flat (loopB (post (flat (blockB (post (flat (loopB (post (flat (bodyOf Try.f32)))))))))))) ⟨mk 41 (([12, 13, 14, 29, 30, 31] : List Nat).zip [V.ts cs0Places n0Places none, V.i IntKind.i64 (↑n0Places : Int), V.i IntKind.i64 x14, V.ts cs29z2 n29z2 c29z2, V.i IntKind.i64 x30z2, V.i IntKind.i64 x31z2]), [], h⟩ (VQ [2, 12, 13, 14, 29, 30, 31] K)) =
  (If (ltI x31z2 x30z2)
  (((0 : Int) ≤ x31z2 ∧ x31z2 < (↑n29z2 : Int)) ∧
 ∃ (n : Int),
 ∃ (s : List UInt8),
 ∃ (n_1 : Int),
 ∃ (n_2 : Int),
 ∃ (n_3 : Int),
 takeX 5 (List.drop (x31z2.toNat * (5 : Nat)) cs29z2) =
 some [V.i IntKind.i64 n, V.s s, V.i IntKind.i64 n_1, V.i IntKind.i64 n_2, V.i IntKind.i64 n_3] ∧
 If (ltI (60 : Int) (↑s.length : Int))
 (K Out.ret 41
 [V.b false, V.ts cs0Places n0Places none, V.i IntKind.i64 (↑n0Places : Int), V.i IntKind.i64 x14,
 V.ts cs29z2 n29z2 c29z2, V.i IntKind.i64 x30z2, V.i IntKind.i64 x31z2]
 h)
 (K Out.normal 41
 [V.undef, V.ts cs0Places n0Places none, V.i IntKind.i64 (↑n0Places : Int), V.i IntKind.i64 x14,
 V.ts cs29z2 n29z2 c29z2, V.i IntKind.i64 x30z2,
 V.i IntKind.i64 (IntKind.i64.wrap (x31z2 + (1 : Int)))]
 h))
  (K (Out.exit 2) 41
 [V.undef, V.ts cs0Places n0Places none, V.i IntKind.i64 (↑n0Places : Int), V.i IntKind.i64 x14,
 V.ts cs29z2 n29z2 c29z2, V.i IntKind.i64 x30z2, V.i IntKind.i64 x31z2]
 h)) := by kernel_rfl
theorem f32_4 (cs0Places : List V) (n0Places : Nat) (x14 : Int) (h : Heap) (K : Out → Nat → List V → Heap → Prop) : (codeP Try.Y (Try.Y.loc 32) 100 (((post (flat (loopB (post (flat (bodyOf Try.f32)))))).drop 1)) ⟨mk 41 (([12, 13, 14] : List Nat).zip [V.ts cs0Places n0Places none, V.i IntKind.i64 (↑n0Places : Int), V.i IntKind.i64 x14]), [], h⟩ (VQ [12, 13, 14] K)) =
  (K Out.normal 41
  [V.ts cs0Places n0Places none, V.i IntKind.i64 (↑n0Places : Int),
 V.i IntKind.i64 (IntKind.i64.wrap (x14 + (1 : Int)))]
  h) := by kernel_rfl
theorem f32_5  (h : Heap) (K : Out → Nat → List V → Heap → Prop) : (codeP Try.Y (Try.Y.loc 32) 100 (((post (flat (bodyOf Try.f32))).drop 1)) ⟨mk 41 (([] : List Nat).zip []), [], h⟩ (VQ [2] K)) =
  (K Out.ret 41 [V.b true] h) := by kernel_rfl
end Go.Y
