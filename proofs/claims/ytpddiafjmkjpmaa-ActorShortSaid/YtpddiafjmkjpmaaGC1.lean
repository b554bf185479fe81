/- What the pieces of functions come to: printed by program. -/
import Derived.Test.YtpddiafjmkjpmaaYTryP
import Derived.Test.YtpddiafjmkjpmaaYLoop
namespace Go.Y
open Go.Proofs
set_option maxRecDepth 100000
set_option maxHeartbeats 0
theorem f20_0 (b0On : Bool) (b0Shut : Bool) (b0Eof : Bool) (x0Place : Int) (x0Clock : Int) (s0Typed : List UInt8) (cs0Lines : List V) (n0Lines : Nat) (s0Fly : List UInt8) (cs0Ages : List V) (n0Ages : Nat) (s0Ready : List UInt8) (s0Buffer : List UInt8) (h : Heap) (K : Out → Nat → List V → Heap → Prop) : (codeP Try.Y (Try.Y.loc 20) 100 (pre (flat (bodyOf Try.f20))) ⟨(V.agg [V.b b0On, V.b b0Shut, V.b b0Eof, V.i IntKind.i64 x0Place, V.i IntKind.i64 x0Clock, V.s s0Typed, V.ts cs0Lines n0Lines none, V.s s0Fly, V.ts cs0Ages n0Ages none, V.s s0Ready, V.s s0Buffer] :: List.replicate 33 .undef), [], h⟩ (VQ [1, 2, 10, 11] K)) =
  ((Con Try.Y (54 : Nat) [V.ts cs0Ages n0Ages none] h fun (v : V) (h' : Heap) =>
 ∃ (a : Option (Nat × Nat)),
 ∃ (l : Nat),
 ∃ (c : Option Nat),
 ∃ (k : Nat),
 v = V.sl a l c k ∧
 K Out.normal 34
 [V.lb
 [V.b b0On, V.b b0Shut, V.b b0Eof, V.i IntKind.i64 x0Place, V.i IntKind.i64 x0Clock, V.s s0Typed,
 V.ts cs0Lines n0Lines none, V.s s0Fly, V.sl a l c k, V.s s0Ready, V.s s0Buffer],
 V.lb
 [V.b false, V.b false, V.b false, V.i IntKind.i64 (0 : Int), V.i IntKind.i64 (0 : Int), V.s [],
 V.sl none 0 (some 0) 0, V.s [],
 V.sl none 0 (some 0) 0, V.s [], V.s []],
 V.i IntKind.i64 (↑l : Int), V.i IntKind.i64 (0 : Int)]
 h') ∨
  ∃ (cs : List V),
 ∃ (l : Nat),
 ∃ (c : Option Nat),
 (PCon Try.Y (54 : Nat) [V.ts cs0Ages n0Ages none] fun (v : V) => v = V.ts cs l c) ∧
 K Out.normal 34
 [V.lb
 [V.b b0On, V.b b0Shut, V.b b0Eof, V.i IntKind.i64 x0Place, V.i IntKind.i64 x0Clock, V.s s0Typed,
 V.ts cs0Lines n0Lines none, V.s s0Fly, V.ts cs l c, V.s s0Ready, V.s s0Buffer],
 V.lb
 [V.b false, V.b false, V.b false, V.i IntKind.i64 (0 : Int), V.i IntKind.i64 (0 : Int), V.s [],
 V.sl none 0 (some 0) 0, V.s [],
 V.sl none 0 (some 0) 0, V.s [], V.s []],
 V.i IntKind.i64 (↑l : Int), V.i IntKind.i64 (0 : Int)]
 h) := by kernel_rfl
theorem f20_1 (b0On : Bool) (b0Shut : Bool) (b0Eof : Bool) (x0Place : Int) (x0Clock : Int) (s0Typed : List UInt8) (cs0Lines : List V) (n0Lines : Nat) (s0Fly : List UInt8) (s0Ready : List UInt8) (s0Buffer : List UInt8) (x10 : Int) (id1 : Nat) (l1 : Nat) (x11 : Int) (h : Heap) (K : Out → Nat → List V → Heap → Prop) : (codeP Try.Y (Try.Y.loc 20) 100 ((flat (loopB (post (flat (bodyOf Try.f20)))))) ⟨mk 34 (([1, 2, 10, 11] : List Nat).zip [V.lb [V.b b0On, V.b b0Shut, V.b b0Eof, V.i IntKind.i64 x0Place, V.i IntKind.i64 x0Clock, V.s s0Typed, V.ts cs0Lines n0Lines none, V.s s0Fly, V.sl (some (id1, 0)) l1 none 1, V.s s0Ready, V.s s0Buffer], V.lb [V.b false, V.b false, V.b false, V.i IntKind.i64 0, V.i IntKind.i64 0, V.s [], V.sl none 0 (some 0) 0, V.s [], V.sl none 0 (some 0) 0, V.s [], V.s []], V.i IntKind.i64 x10, V.i IntKind.i64 x11]), [], h⟩ (VQ [1, 2, 10, 11] K)) =
  (If (ltI x11 x10)
  (((0 : Int) ≤ x11 ∧ x11 < (↑l1 : Int)) ∧
 1 = 1 ∧
 ∃ (n : Int),
 hcells h id1 ((0 : Nat) + x11.toNat * (1 : Nat)) 1 = some [V.i IntKind.i64 n] ∧
 ((0 : Int) ≤ x11 ∧ x11 < (↑l1 : Int)) ∧
 1 = 1 ∧
 ∃ (h_1 : Heap),
 hstore h id1 ((0 : Nat) + x11.toNat * (1 : Nat)) [V.i IntKind.i64 (IntKind.i64.wrap (n + (1 : Int)))] =
 some h_1 ∧
 K Out.normal 34
 [V.lb
 [V.b b0On, V.b b0Shut, V.b b0Eof, V.i IntKind.i64 x0Place, V.i IntKind.i64 x0Clock, V.s s0Typed,
 V.ts cs0Lines n0Lines none, V.s s0Fly, V.sl (some (id1, 0)) l1 none 1,
 V.s s0Ready, V.s s0Buffer],
 V.lb
 [V.b false, V.b false, V.b false, V.i IntKind.i64 (0 : Int), V.i IntKind.i64 (0 : Int), V.s [],
 V.sl none 0 (some 0) 0, V.s [],
 V.sl none 0 (some 0) 0, V.s [], V.s []],
 V.i IntKind.i64 x10, V.i IntKind.i64 (IntKind.i64.wrap (x11 + (1 : Int)))]
 h_1)
  (K (Out.exit 0) 34
 [V.lb
 [V.b b0On, V.b b0Shut, V.b b0Eof, V.i IntKind.i64 x0Place, V.i IntKind.i64 x0Clock, V.s s0Typed,
 V.ts cs0Lines n0Lines none, V.s s0Fly, V.sl (some (id1, 0)) l1 none 1, V.s s0Ready,
 V.s s0Buffer],
 V.lb
 [V.b false, V.b false, V.b false, V.i IntKind.i64 (0 : Int), V.i IntKind.i64 (0 : Int), V.s [],
 V.sl none 0 (some 0) 0, V.s [],
 V.sl none 0 (some 0) 0, V.s [], V.s []],
 V.i IntKind.i64 x10, V.i IntKind.i64 x11]
 h)) := by kernel_rfl
theorem f20_2 (b0On : Bool) (b0Shut : Bool) (b0Eof : Bool) (x0Place : Int) (x0Clock : Int) (s0Typed : List UInt8) (cs0Lines : List V) (n0Lines : Nat) (s0Fly : List UInt8) (s0Ready : List UInt8) (s0Buffer : List UInt8) (id1 : Nat) (l1 : Nat) (h : Heap) (K : Out → Nat → List V → Heap → Prop) : (codeP Try.Y (Try.Y.loc 20) 100 (((post (flat (bodyOf Try.f20))).drop 1)) ⟨mk 34 (([1, 2] : List Nat).zip [V.lb [V.b b0On, V.b b0Shut, V.b b0Eof, V.i IntKind.i64 x0Place, V.i IntKind.i64 x0Clock, V.s s0Typed, V.ts cs0Lines n0Lines none, V.s s0Fly, V.sl (some (id1, 0)) l1 none 1, V.s s0Ready, V.s s0Buffer], V.lb [V.b false, V.b false, V.b false, V.i IntKind.i64 0, V.i IntKind.i64 0, V.s [], V.sl none 0 (some 0) 0, V.s [], V.sl none 0 (some 0) 0, V.s [], V.s []]]), [], h⟩ (VQ [2] K)) =
  (If b0On
  (If (!b0Shut)
 (K Out.ret 34
 [V.lb
 [V.b b0On, V.b b0Shut, V.b b0Eof, V.i IntKind.i64 x0Place,
 V.i IntKind.i64 (IntKind.i64.wrap (x0Clock + (1 : Int))), V.s s0Typed, V.ts cs0Lines n0Lines none,
 V.s s0Fly, V.sl (some (id1, 0)) l1 none 1, V.s s0Ready, V.s s0Buffer]]
 h)
 (K Out.ret 34
 [V.lb
 [V.b b0On, V.b b0Shut, V.b b0Eof, V.i IntKind.i64 x0Place, V.i IntKind.i64 x0Clock, V.s s0Typed,
 V.ts cs0Lines n0Lines none, V.s s0Fly, V.sl (some (id1, 0)) l1 none 1, V.s s0Ready,
 V.s s0Buffer]]
 h))
  (K Out.ret 34
 [V.lb
 [V.b b0On, V.b b0Shut, V.b b0Eof, V.i IntKind.i64 x0Place, V.i IntKind.i64 x0Clock, V.s s0Typed,
 V.ts cs0Lines n0Lines none, V.s s0Fly, V.sl (some (id1, 0)) l1 none 1, V.s s0Ready,
 V.s s0Buffer]]
 h)) := by kernel_rfl
theorem f20e_1 (b0On : Bool) (b0Shut : Bool) (b0Eof : Bool) (x0Place : Int) (x0Clock : Int) (s0Typed : List UInt8) (cs0Lines : List V) (n0Lines : Nat) (s0Fly : List UInt8) (s0Ready : List UInt8) (s0Buffer : List UInt8) (h : Heap) (K : Out → Nat → List V → Heap → Prop) : (codeP Try.Y (Try.Y.loc 20) 100 ((flat (loopB (post (flat (bodyOf Try.f20)))))) ⟨mk 34 (([1, 2, 10, 11] : List Nat).zip [V.lb [V.b b0On, V.b b0Shut, V.b b0Eof, V.i IntKind.i64 x0Place, V.i IntKind.i64 x0Clock, V.s s0Typed, V.ts cs0Lines n0Lines none, V.s s0Fly, V.ts [] 0 (some 0), V.s s0Ready, V.s s0Buffer], V.lb [V.b false, V.b false, V.b false, V.i IntKind.i64 0, V.i IntKind.i64 0, V.s [], V.sl none 0 (some 0) 0, V.s [], V.sl none 0 (some 0) 0, V.s [], V.s []], V.i IntKind.i64 0, V.i IntKind.i64 0]), [], h⟩ (VQ [1, 2, 10, 11] K)) =
  (K (Out.exit 0) 34
  [V.lb
 [V.b b0On, V.b b0Shut, V.b b0Eof, V.i IntKind.i64 x0Place, V.i IntKind.i64 x0Clock, V.s s0Typed,
 V.ts cs0Lines n0Lines none, V.s s0Fly, V.ts [] 0 (some 0), V.s s0Ready, V.s s0Buffer],
 V.lb
 [V.b false, V.b false, V.b false, V.i IntKind.i64 (0 : Int), V.i IntKind.i64 (0 : Int), V.s [],
 V.sl none 0 (some 0) 0, V.s [],
 V.sl none 0 (some 0) 0, V.s [], V.s []],
 V.i IntKind.i64 (0 : Int), V.i IntKind.i64 (0 : Int)]
  h) := by kernel_rfl
theorem f20e_2 (b0On : Bool) (b0Shut : Bool) (b0Eof : Bool) (x0Place : Int) (x0Clock : Int) (s0Typed : List UInt8) (cs0Lines : List V) (n0Lines : Nat) (s0Fly : List UInt8) (s0Ready : List UInt8) (s0Buffer : List UInt8) (h : Heap) (K : Out → Nat → List V → Heap → Prop) : (codeP Try.Y (Try.Y.loc 20) 100 (((post (flat (bodyOf Try.f20))).drop 1)) ⟨mk 34 (([1, 2] : List Nat).zip [V.lb [V.b b0On, V.b b0Shut, V.b b0Eof, V.i IntKind.i64 x0Place, V.i IntKind.i64 x0Clock, V.s s0Typed, V.ts cs0Lines n0Lines none, V.s s0Fly, V.ts [] 0 (some 0), V.s s0Ready, V.s s0Buffer], V.lb [V.b false, V.b false, V.b false, V.i IntKind.i64 0, V.i IntKind.i64 0, V.s [], V.sl none 0 (some 0) 0, V.s [], V.sl none 0 (some 0) 0, V.s [], V.s []]]), [], h⟩ (VQ [2] K)) =
  (If b0On
  (If (!b0Shut)
 (K Out.ret 34
 [V.lb
 [V.b b0On, V.b b0Shut, V.b b0Eof, V.i IntKind.i64 x0Place,
 V.i IntKind.i64 (IntKind.i64.wrap (x0Clock + (1 : Int))), V.s s0Typed, V.ts cs0Lines n0Lines none,
 V.s s0Fly, V.ts [] 0 (some 0), V.s s0Ready, V.s s0Buffer]]
 h)
 (K Out.ret 34
 [V.lb
 [V.b b0On, V.b b0Shut, V.b b0Eof, V.i IntKind.i64 x0Place, V.i IntKind.i64 x0Clock, V.s s0Typed,
 V.ts cs0Lines n0Lines none, V.s s0Fly, V.ts [] 0 (some 0), V.s s0Ready, V.s s0Buffer]]
 h))
  (K Out.ret 34
 [V.lb
 [V.b b0On, V.b b0Shut, V.b b0Eof, V.i IntKind.i64 x0Place, V.i IntKind.i64 x0Clock, V.s s0Typed,
 V.ts cs0Lines n0Lines none, V.s s0Fly, V.ts [] 0 (some 0), V.s s0Ready, V.s s0Buffer]]
 h)) := by kernel_rfl
theorem f21_0 (b0On : Bool) (b0Shut : Bool) (b0Eof : Bool) (x0Place : Int) (x0Clock : Int) (s0Typed : List UInt8) (cs0Lines : List V) (n0Lines : Nat) (s0Fly : List UInt8) (cs0Ages : List V) (n0Ages : Nat) (s0Ready : List UInt8) (s0Buffer : List UInt8) (h : Heap) (K : Out → Nat → List V → Heap → Prop) : (codeP Try.Y (Try.Y.loc 21) 100 ((flat (bodyOf Try.f21))) ⟨(V.agg [V.b b0On, V.b b0Shut, V.b b0Eof, V.i IntKind.i64 x0Place, V.i IntKind.i64 x0Clock, V.s s0Typed, V.ts cs0Lines n0Lines none, V.s s0Fly, V.ts cs0Ages n0Ages none, V.s s0Ready, V.s s0Buffer] :: List.replicate 30 .undef), [], h⟩ (VQ [2, 3] K)) =
  (If (s0Fly == #[].toList)
  (K Out.ret 31
 [V.lb
 [V.b false, V.b false, V.b false, V.i IntKind.i64 (0 : Int), V.i IntKind.i64 (0 : Int), V.s [],
 V.sl none 0 (some 0) 0, V.s [],
 V.sl none 0 (some 0) 0, V.s [], V.s []],
 V.i IntKind.i64 (10 : Int)]
 h)
  (If ((↑n0Ages : Int) == (0 : Int))
 (K Out.ret 31
 [V.lb
 [V.b false, V.b false, V.b false, V.i IntKind.i64 (0 : Int), V.i IntKind.i64 (0 : Int), V.s [],
 V.sl none 0 (some 0) 0, V.s [],
 V.sl none 0 (some 0) 0, V.s [], V.s []],
 V.i IntKind.i64 (10 : Int)]
 h)
 (((0 : Int) ≤ (1 : Int) ∧ (1 : Int) ≤ (↑s0Fly.length : Int)) ∧
 s0Ready.length + (List.take (Int.toNat (1 : Int) - (0 : Nat)) (List.drop (0 : Nat) s0Fly)).length ≤
 1152921504606846976 ∧
 ((0 : Int) ≤ (1 : Int) ∧ (1 : Int) ≤ (↑s0Fly.length : Int)) ∧
 ((0 : Int) ≤ (1 : Int) ∧ (1 : Int) ≤ (↑n0Ages : Int)) ∧
 ((Con Try.Y (54 : Nat)
 [V.ts
 (List.take ((n0Ages - Int.toNat (1 : Int)) * (1 : Nat))
 (List.drop (Int.toNat (1 : Int) * (1 : Nat)) cs0Ages))
 (n0Ages - Int.toNat (1 : Int)) none]
 h fun (v : V) (h' : Heap) =>
 ∃ (a : Option (Nat × Nat)),
 ∃ (l : Nat),
 ∃ (c : Option Nat),
 ∃ (k : Nat),
 v = V.sl a l c k ∧
 K Out.ret 31
 [V.lb
 [V.b b0On, V.b b0Shut, V.b b0Eof, V.i IntKind.i64 x0Place, V.i IntKind.i64 x0Clock,
 V.s s0Typed, V.ts cs0Lines n0Lines none,
 V.s
 (List.take (s0Fly.length - Int.toNat (1 : Int))
 (List.drop (Int.toNat (1 : Int)) s0Fly)),
 V.sl a l c k,
 V.s
 (s0Ready ++
 List.take (Int.toNat (1 : Int) - (0 : Nat)) (List.drop (0 : Nat) s0Fly)),
 V.s s0Buffer],
 V.i IntKind.i64 (0 : Int)]
 h') ∨
 ∃ (cs : List V),
 ∃ (l : Nat),
 ∃ (c : Option Nat),
 (PCon Try.Y (54 : Nat)
 [V.ts
 (List.take ((n0Ages - Int.toNat (1 : Int)) * (1 : Nat))
 (List.drop (Int.toNat (1 : Int) * (1 : Nat)) cs0Ages))
 (n0Ages - Int.toNat (1 : Int)) none]
 fun (v : V) => v = V.ts cs l c) ∧
 K Out.ret 31
 [V.lb
 [V.b b0On, V.b b0Shut, V.b b0Eof, V.i IntKind.i64 x0Place, V.i IntKind.i64 x0Clock,
 V.s s0Typed, V.ts cs0Lines n0Lines none,
 V.s
 (List.take (s0Fly.length - Int.toNat (1 : Int))
 (List.drop (Int.toNat (1 : Int)) s0Fly)),
 V.ts cs l c,
 V.s (s0Ready ++ List.take (Int.toNat (1 : Int) - (0 : Nat)) (List.drop (0 : Nat) s0Fly)),
 V.s s0Buffer],
 V.i IntKind.i64 (0 : Int)]
 h)))) := by kernel_rfl
theorem f22_0 (b0On : Bool) (b0Shut : Bool) (b0Eof : Bool) (x0Place : Int) (x0Clock : Int) (s0Typed : List UInt8) (cs0Lines : List V) (n0Lines : Nat) (s0Fly : List UInt8) (cs0Ages : List V) (n0Ages : Nat) (s0Ready : List UInt8) (s0Buffer : List UInt8) (x1Cap : Int) (cs1Places : List V) (n1Places : Nat) (s2 : List UInt8) (h : Heap) (K : Out → Nat → List V → Heap → Prop) : (codeP Try.Y (Try.Y.loc 22) 100 ((flat (bodyOf Try.f22))) ⟨(V.agg [V.b b0On, V.b b0Shut, V.b b0Eof, V.i IntKind.i64 x0Place, V.i IntKind.i64 x0Clock, V.s s0Typed, V.ts cs0Lines n0Lines none, V.s s0Fly, V.ts cs0Ages n0Ages none, V.s s0Ready, V.s s0Buffer] :: V.agg [V.i IntKind.i64 x1Cap, V.ts cs1Places n1Places none] :: V.s s2 :: List.replicate 25 .undef), [], h⟩ (VQ [6, 7] K)) =
  (∃ (n : Int),
  (PCon Try.Y (52 : Nat)
 [V.agg
 [V.b b0On, V.b b0Shut, V.b b0Eof, V.i IntKind.i64 x0Place, V.i IntKind.i64 x0Clock, V.s s0Typed,
 V.ts cs0Lines n0Lines none, V.s s0Fly, V.ts cs0Ages n0Ages none, V.s s0Ready, V.s s0Buffer],
 V.agg [V.i IntKind.i64 x1Cap, V.ts cs1Places n1Places none]]
 fun (v : V) => v = V.i IntKind.i64 n) ∧
 If (ltI n (↑s2.length : Int))
 (K Out.ret 28
 [V.lb
 [V.b b0On, V.b b0Shut, V.b b0Eof, V.i IntKind.i64 x0Place, V.i IntKind.i64 x0Clock, V.s s0Typed,
 V.ts cs0Lines n0Lines none, V.s s0Fly, V.ts cs0Ages n0Ages none, V.s s0Ready, V.s s0Buffer],
 V.b false]
 h)
 (s0Fly.length + s2.length ≤ 1152921504606846976 ∧
 ((Con Try.Y (54 : Nat) [V.ts cs0Ages n0Ages none] h fun (v : V) (h' : Heap) =>
 ∃ (a : Option (Nat × Nat)),
 ∃ (l : Nat),
 ∃ (c : Option Nat),
 ∃ (k : Nat),
 v = V.sl a l c k ∧
 ∃ (a_1 : Option (Nat × Nat)),
 ∃ (l_1 : Nat),
 ∃ (c_1 : Option Nat),
 ∃ (k_1 : Nat),
 ∃ (h : Heap),
 appendH Try.Y h' 41 3 (V.sl a l c k)
 (V.i IntKind.i64 (↑s2.length : Int)) =
 some (V.sl a_1 l_1 c_1 k_1, h) ∧
 K Out.ret 28
 [V.lb
 [V.b b0On, V.b b0Shut, V.b b0Eof, V.i IntKind.i64 x0Place,
 V.i IntKind.i64 x0Clock, V.s s0Typed, V.ts cs0Lines n0Lines none,
 V.s (s0Fly ++ s2), V.sl a_1 l_1 c_1 k_1, V.s s0Ready, V.s s0Buffer],
 V.b true]
 h) ∨
 ∃ (cs : List V),
 ∃ (l : Nat),
 ∃ (c : Option Nat),
 (PCon Try.Y (54 : Nat) [V.ts cs0Ages n0Ages none] fun (v : V) => v = V.ts cs l c) ∧
 ((∃ (a : Option (Nat × Nat)),
 ∃ (l_1 : Nat),
 ∃ (c_1 : Option Nat),
 ∃ (k : Nat),
 ∃ (h_1 : Heap),
 appendH Try.Y h 41 3 (V.ts cs l c)
 (V.i IntKind.i64 (↑s2.length : Int)) =
 some (V.sl a l_1 c_1 k, h_1) ∧
 K Out.ret 28
 [V.lb
 [V.b b0On, V.b b0Shut, V.b b0Eof, V.i IntKind.i64 x0Place,
 V.i IntKind.i64 x0Clock, V.s s0Typed, V.ts cs0Lines n0Lines none,
 V.s (s0Fly ++ s2), V.sl a l_1 c_1 k, V.s s0Ready, V.s s0Buffer],
 V.b true]
 h_1) ∨
 appendH Try.Y h 41 3 (V.ts cs l c) (V.i IntKind.i64 (↑s2.length : Int)) =
 some (V.ts cs l c, h) ∧
 K Out.ret 28
 [V.lb
 [V.b b0On, V.b b0Shut, V.b b0Eof, V.i IntKind.i64 x0Place, V.i IntKind.i64 x0Clock,
 V.s s0Typed, V.ts cs0Lines n0Lines none, V.s (s0Fly ++ s2), V.ts cs l c, V.s s0Ready,
 V.s s0Buffer],
 V.b true]
 h)))) := by kernel_rfl
end Go.Y
