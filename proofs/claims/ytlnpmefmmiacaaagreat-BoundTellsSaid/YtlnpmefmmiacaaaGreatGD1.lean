/- What the pieces of functions come to: printed by program. -/
import Derived.Test.YtlnpmefmmiacaaaGreatYTryzP
import Derived.Test.YtlnpmefmmiacaaaGreatYFun
namespace Go.Y
open Go.Proofs
set_option maxRecDepth 100000
set_option maxHeartbeats 0
theorem f17_0 (b0On : Bool) (b0Shut : Bool) (b0Eof : Bool) (x0Place : Int) (x0Clock : Int) (s0Typed : List UInt8) (cs0Lines : List V) (n0Lines : Nat) (s0Fly : List UInt8) (cs0Ages : List V) (n0Ages : Nat) (s0Ready : List UInt8) (s0Buffer : List UInt8) (h : Heap) (K : Out → Nat → List V → Heap → Prop) : (codeP Tryz.Y (Tryz.Y.loc 17) 100 (pre (flat (bodyOf Tryz.f17))) ⟨(V.agg [V.b b0On, V.b b0Shut, V.b b0Eof, V.i IntKind.i64 x0Place, V.i IntKind.i64 x0Clock, V.s s0Typed, V.ts cs0Lines n0Lines none, V.s s0Fly, V.ts cs0Ages n0Ages none, V.s s0Ready, V.s s0Buffer] :: List.replicate 66 .undef), [], h⟩ (VQ [1, 2, 47, 48, 49] K)) =
  (If (ltI (100 : Int) (↑s0Typed.length : Int))
  (K Out.ret 67
 [V.lb
 [V.b b0On, V.b b0Shut, V.b b0Eof, V.i IntKind.i64 x0Place, V.i IntKind.i64 x0Clock, V.s s0Typed,
 V.ts cs0Lines n0Lines none, V.s s0Fly, V.ts cs0Ages n0Ages none, V.s s0Ready, V.s s0Buffer],
 V.b false, V.undef, V.undef, V.undef]
 h)
  (If (ltI (40 : Int) (↑s0Fly.length : Int))
 (K Out.ret 67
 [V.lb
 [V.b b0On, V.b b0Shut, V.b b0Eof, V.i IntKind.i64 x0Place, V.i IntKind.i64 x0Clock, V.s s0Typed,
 V.ts cs0Lines n0Lines none, V.s s0Fly, V.ts cs0Ages n0Ages none, V.s s0Ready, V.s s0Buffer],
 V.b false, V.undef, V.undef, V.undef]
 h)
 (If (ltI (100 : Int) (↑s0Ready.length : Int))
 (K Out.ret 67
 [V.lb
 [V.b b0On, V.b b0Shut, V.b b0Eof, V.i IntKind.i64 x0Place, V.i IntKind.i64 x0Clock, V.s s0Typed,
 V.ts cs0Lines n0Lines none, V.s s0Fly, V.ts cs0Ages n0Ages none, V.s s0Ready, V.s s0Buffer],
 V.b false, V.undef, V.undef, V.undef]
 h)
 (If (ltI (100 : Int) (↑s0Buffer.length : Int))
 (K Out.ret 67
 [V.lb
 [V.b b0On, V.b b0Shut, V.b b0Eof, V.i IntKind.i64 x0Place, V.i IntKind.i64 x0Clock, V.s s0Typed,
 V.ts cs0Lines n0Lines none, V.s s0Fly, V.ts cs0Ages n0Ages none, V.s s0Ready, V.s s0Buffer],
 V.b false, V.undef, V.undef, V.undef]
 h)
 (If (ltI (6 : Int) (↑n0Lines : Int))
 (K Out.ret 67
 [V.lb
 [V.b b0On, V.b b0Shut, V.b b0Eof, V.i IntKind.i64 x0Place, V.i IntKind.i64 x0Clock, V.s s0Typed,
 V.ts cs0Lines n0Lines none, V.s s0Fly, V.ts cs0Ages n0Ages none, V.s s0Ready, V.s s0Buffer],
 V.b false, V.undef, V.undef, V.undef]
 h)
 (If (ltI (40 : Int) (↑n0Ages : Int))
 (K Out.ret 67
 [V.lb
 [V.b b0On, V.b b0Shut, V.b b0Eof, V.i IntKind.i64 x0Place, V.i IntKind.i64 x0Clock, V.s s0Typed,
 V.ts cs0Lines n0Lines none, V.s s0Fly, V.ts cs0Ages n0Ages none, V.s s0Ready, V.s s0Buffer],
 V.b false, V.undef, V.undef, V.undef]
 h)
 (If (ltI (1152921504606846976 : Int) x0Clock)
 (K Out.ret 67
 [V.lb
 [V.b b0On, V.b b0Shut, V.b b0Eof, V.i IntKind.i64 x0Place, V.i IntKind.i64 x0Clock, V.s s0Typed,
 V.ts cs0Lines n0Lines none, V.s s0Fly, V.ts cs0Ages n0Ages none, V.s s0Ready, V.s s0Buffer],
 V.b false, V.undef, V.undef, V.undef]
 h)
 (K Out.normal 67
 [V.lb
 [V.b b0On, V.b b0Shut, V.b b0Eof, V.i IntKind.i64 x0Place, V.i IntKind.i64 x0Clock, V.s s0Typed,
 V.ts cs0Lines n0Lines none, V.s s0Fly, V.ts cs0Ages n0Ages none, V.s s0Ready, V.s s0Buffer],
 V.b false, V.ts cs0Lines n0Lines none, V.i IntKind.i64 (↑n0Lines : Int), V.i IntKind.i64 (0 : Int)]
 h)))))))) := by kernel_rfl
theorem f17_1 (b0On : Bool) (b0Shut : Bool) (b0Eof : Bool) (x0Place : Int) (x0Clock : Int) (s0Typed : List UInt8) (cs0Lines : List V) (n0Lines : Nat) (s0Fly : List UInt8) (cs0Ages : List V) (n0Ages : Nat) (s0Ready : List UInt8) (s0Buffer : List UInt8) (x49 : Int) (h : Heap) (K : Out → Nat → List V → Heap → Prop) : (codeP Tryz.Y (Tryz.Y.loc 17) 100 ((flat (loopB (post (flat (bodyOf Tryz.f17)))))) ⟨mk 67 (([1, 47, 48, 49] : List Nat).zip [V.lb [V.b b0On, V.b b0Shut, V.b b0Eof, V.i IntKind.i64 x0Place, V.i IntKind.i64 x0Clock, V.s s0Typed, V.ts cs0Lines n0Lines none, V.s s0Fly, V.ts cs0Ages n0Ages none, V.s s0Ready, V.s s0Buffer], V.ts cs0Lines n0Lines none, V.i IntKind.i64 (↑n0Lines : Int), V.i IntKind.i64 x49]), [], h⟩ (VQ [1, 2, 47, 48, 49] K)) =
  (If (ltI x49 (↑n0Lines : Int))
  (((0 : Int) ≤ x49 ∧ x49 < (↑n0Lines : Int)) ∧
 ∃ (s : List UInt8),
 takeX 1 (List.drop (x49.toNat * (1 : Nat)) cs0Lines) = some [V.s s] ∧
 If (ltI (60 : Int) (↑s.length : Int))
 (K Out.ret 67
 [V.lb
 [V.b b0On, V.b b0Shut, V.b b0Eof, V.i IntKind.i64 x0Place, V.i IntKind.i64 x0Clock, V.s s0Typed,
 V.ts cs0Lines n0Lines none, V.s s0Fly, V.ts cs0Ages n0Ages none, V.s s0Ready, V.s s0Buffer],
 V.b false, V.ts cs0Lines n0Lines none, V.i IntKind.i64 (↑n0Lines : Int), V.i IntKind.i64 x49]
 h)
 (K Out.normal 67
 [V.lb
 [V.b b0On, V.b b0Shut, V.b b0Eof, V.i IntKind.i64 x0Place, V.i IntKind.i64 x0Clock, V.s s0Typed,
 V.ts cs0Lines n0Lines none, V.s s0Fly, V.ts cs0Ages n0Ages none, V.s s0Ready, V.s s0Buffer],
 V.undef, V.ts cs0Lines n0Lines none, V.i IntKind.i64 (↑n0Lines : Int),
 V.i IntKind.i64 (IntKind.i64.wrap (x49 + (1 : Int)))]
 h))
  (K (Out.exit 0) 67
 [V.lb
 [V.b b0On, V.b b0Shut, V.b b0Eof, V.i IntKind.i64 x0Place, V.i IntKind.i64 x0Clock, V.s s0Typed,
 V.ts cs0Lines n0Lines none, V.s s0Fly, V.ts cs0Ages n0Ages none, V.s s0Ready, V.s s0Buffer],
 V.undef, V.ts cs0Lines n0Lines none, V.i IntKind.i64 (↑n0Lines : Int), V.i IntKind.i64 x49]
 h)) := by kernel_rfl
theorem f17_2 (b0On : Bool) (b0Shut : Bool) (b0Eof : Bool) (x0Place : Int) (x0Clock : Int) (cs0Lines : List V) (n0Lines : Nat) (cs0Ages : List V) (n0Ages : Nat) (s1_5 : List UInt8) (s1_7 : List UInt8) (s1_9 : List UInt8) (s1_10 : List UInt8) (h : Heap) (K : Out → Nat → List V → Heap → Prop) : (codeP Tryz.Y (Tryz.Y.loc 17) 100 (pre ((post (flat (bodyOf Tryz.f17))).drop 1)) ⟨mk 67 (([1] : List Nat).zip [V.lb [V.b b0On, V.b b0Shut, V.b b0Eof, V.i IntKind.i64 x0Place, V.i IntKind.i64 x0Clock, V.s s1_5, V.ts cs0Lines n0Lines none, V.s s1_7, V.ts cs0Ages n0Ages none, V.s s1_9, V.s s1_10]]), [], h⟩ (VQ [58, 59, 60] K)) =
  (K Out.normal 67 [V.ts cs0Ages n0Ages none, V.i IntKind.i64 (↑n0Ages : Int), V.i IntKind.i64 (0 : Int)] h) := by kernel_rfl
theorem f17_3 (cs0Ages : List V) (n0Ages : Nat) (x60 : Int) (h : Heap) (K : Out → Nat → List V → Heap → Prop) : (codeP Tryz.Y (Tryz.Y.loc 17) 100 ((flat (loopB (post ((post (flat (bodyOf Tryz.f17))).drop 1))))) ⟨mk 67 (([58, 59, 60] : List Nat).zip [V.ts cs0Ages n0Ages none, V.i IntKind.i64 (↑n0Ages : Int), V.i IntKind.i64 x60]), [], h⟩ (VQ [2, 58, 59, 60] K)) =
  (If (ltI x60 (↑n0Ages : Int))
  (((0 : Int) ≤ x60 ∧ x60 < (↑n0Ages : Int)) ∧
 ∃ (n : Int),
 takeX 1 (List.drop (x60.toNat * (1 : Nat)) cs0Ages) = some [V.i IntKind.i64 n] ∧
 If (ltI (1152921504606846976 : Int) n)
 (K Out.ret 67
 [V.b false, V.ts cs0Ages n0Ages none, V.i IntKind.i64 (↑n0Ages : Int), V.i IntKind.i64 x60] h)
 (K Out.normal 67
 [V.undef, V.ts cs0Ages n0Ages none, V.i IntKind.i64 (↑n0Ages : Int),
 V.i IntKind.i64 (IntKind.i64.wrap (x60 + (1 : Int)))]
 h))
  (K (Out.exit 2) 67
 [V.undef, V.ts cs0Ages n0Ages none, V.i IntKind.i64 (↑n0Ages : Int), V.i IntKind.i64 x60] h)) := by kernel_rfl
theorem f17_4  (h : Heap) (K : Out → Nat → List V → Heap → Prop) : (codeP Tryz.Y (Tryz.Y.loc 17) 100 (((post ((post (flat (bodyOf Tryz.f17))).drop 1)).drop 1)) ⟨mk 67 (([] : List Nat).zip []), [], h⟩ (VQ [2] K)) =
  (K Out.ret 67 [V.b true] h) := by kernel_rfl
theorem f16_0 (x0Cap : Int) (cs0Places : List V) (n0Places : Nat) (h : Heap) (K : Out → Nat → List V → Heap → Prop) : (codeP Tryz.Y (Tryz.Y.loc 16) 100 (pre (flat (bodyOf Tryz.f16))) ⟨(V.agg [V.i IntKind.i64 x0Cap, V.ts cs0Places n0Places none] :: List.replicate 40 .undef), [], h⟩ (VQ [2, 12, 13, 14] K)) =
  (If (ltI (20 : Int) (↑n0Places : Int)) (K Out.ret 41 [V.b false, V.undef, V.undef, V.undef] h)
  (K Out.normal 41
 [V.b false, V.ts cs0Places n0Places none, V.i IntKind.i64 (↑n0Places : Int), V.i IntKind.i64 (0 : Int)] h)) := by kernel_rfl
theorem f16_1 (cs0Places : List V) (n0Places : Nat) (x14 : Int) (h : Heap) (K : Out → Nat → List V → Heap → Prop) : (codeP Tryz.Y (Tryz.Y.loc 16) 100 (pre (flat (loopB (post (flat (bodyOf Tryz.f16)))))) ⟨mk 41 (([12, 13, 14] : List Nat).zip [V.ts cs0Places n0Places none, V.i IntKind.i64 (↑n0Places : Int), V.i IntKind.i64 x14]), [], h⟩ (VQ [12, 13, 14] K)) =
  (If (ltI x14 (↑n0Places : Int))
  (K Out.normal 41 [V.ts cs0Places n0Places none, V.i IntKind.i64 (↑n0Places : Int), V.i IntKind.i64 x14] h)
  (K (Out.exit 0) 41
 [V.ts cs0Places n0Places none, V.i IntKind.i64 (↑n0Places : Int), V.i IntKind.i64 x14] h)) := by kernel_rfl
theorem f16_2 (cs0Places : List V) (n0Places : Nat) (x14 : Int) (h : Heap) (K : Out → Nat → List V → Heap → Prop) : (codeP Tryz.Y (Tryz.Y.loc 16) 100 (pre (flat (blockB (post (flat (loopB (post (flat (bodyOf Tryz.f16))))))))) ⟨mk 41 (([12, 13, 14] : List Nat).zip [V.ts cs0Places n0Places none, V.i IntKind.i64 (↑n0Places : Int), V.i IntKind.i64 x14]), [], h⟩ (VQ [2, 12, 13, 14, 29, 30, 31] K)) =
  (((0 : Int) ≤ x14 ∧ x14 < (↑n0Places : Int)) ∧
  ∃ (s : List UInt8),
 ∃ (b : Bool),
 ∃ (cs : List V),
 ∃ (l : Nat),
 ∃ (c : Option Nat),
 takeX 3 (List.drop (x14.toNat * (3 : Nat)) cs0Places) = some [V.s s, V.b b, V.ts cs l c] ∧
 If (ltI (12 : Int) (↑l : Int))
 (K Out.ret 41
 [V.b false, V.ts cs0Places n0Places none, V.i IntKind.i64 (↑n0Places : Int), V.i IntKind.i64 x14,
 V.undef, V.undef, V.undef]
 h)
 (If (ltI (60 : Int) (↑s.length : Int))
 (K Out.ret 41
 [V.b false, V.ts cs0Places n0Places none, V.i IntKind.i64 (↑n0Places : Int), V.i IntKind.i64 x14,
 V.undef, V.undef, V.undef]
 h)
 (K Out.normal 41
 [V.undef, V.ts cs0Places n0Places none, V.i IntKind.i64 (↑n0Places : Int), V.i IntKind.i64 x14,
 V.ts cs l c, V.i IntKind.i64 (↑l : Int), V.i IntKind.i64 (0 : Int)]
 h))) := by kernel_rfl
theorem f16_3 (cs0Places : List V) (n0Places : Nat) (x14 : Int) (c29z2 : Option Nat) (cs29z2 : List V) (n29z2 : Nat) (x30z2 : Int) (x31z2 : Int) (h : Heap) (K : Out → Nat → List V → Heap → Prop) : (codeP Tryz.Y (Tryz.Y.loc 16) 100 ((flat (loopB (post (flat (blockB (post (flat (loopB (post (flat (bodyOf Tryz.f16)))))))))))) ⟨mk 41 (([12, 13, 14, 29, 30, 31] : List Nat).zip [V.ts cs0Places n0Places none, V.i IntKind.i64 (↑n0Places : Int), V.i IntKind.i64 x14, V.ts cs29z2 n29z2 c29z2, V.i IntKind.i64 x30z2, V.i IntKind.i64 x31z2]), [], h⟩ (VQ [2, 12, 13, 14, 29, 30, 31] K)) =
  (If (ltI x31z2 x30z2)
  (((0 : Int) ≤ x31z2 ∧ x31z2 < (↑n29z2 : Int)) ∧
 ∃ (n : Int),
 ∃ (s : List UInt8),
 ∃ (n_1 : Int),
 ∃ (n_2 : Int),
 ∃ (n_3 : Int),
 takeX 5 (List.drop (x31z2.toNat * (5 : Nat)) cs29z2) =
 some [V.i IntKind.i64 n, V.s s, V.i IntKind.i64 n_1, V.i IntKind.i64 n_2, V.i IntKind.i64 n_3] ∧
 If (ltI (60 : Int) (↑s.length : Int))
 (K Out.ret 41
 [V.b false, V.ts cs0Places n0Places none, V.i IntKind.i64 (↑n0Places : Int), V.i IntKind.i64 x14,
 V.ts cs29z2 n29z2 c29z2, V.i IntKind.i64 x30z2, V.i IntKind.i64 x31z2]
 h)
 (K Out.normal 41
 [V.undef, V.ts cs0Places n0Places none, V.i IntKind.i64 (↑n0Places : Int), V.i IntKind.i64 x14,
 V.ts cs29z2 n29z2 c29z2, V.i IntKind.i64 x30z2,
 V.i IntKind.i64 (IntKind.i64.wrap (x31z2 + (1 : Int)))]
 h))
  (K (Out.exit 2) 41
 [V.undef, V.ts cs0Places n0Places none, V.i IntKind.i64 (↑n0Places : Int), V.i IntKind.i64 x14,
 V.ts cs29z2 n29z2 c29z2, V.i IntKind.i64 x30z2, V.i IntKind.i64 x31z2]
 h)) := by kernel_rfl
theorem f16_4 (cs0Places : List V) (n0Places : Nat) (x14 : Int) (h : Heap) (K : Out → Nat → List V → Heap → Prop) : (codeP Tryz.Y (Tryz.Y.loc 16) 100 (((post (flat (loopB (post (flat (bodyOf Tryz.f16)))))).drop 1)) ⟨mk 41 (([12, 13, 14] : List Nat).zip [V.ts cs0Places n0Places none, V.i IntKind.i64 (↑n0Places : Int), V.i IntKind.i64 x14]), [], h⟩ (VQ [12, 13, 14] K)) =
  (K Out.normal 41
  [V.ts cs0Places n0Places none, V.i IntKind.i64 (↑n0Places : Int),
 V.i IntKind.i64 (IntKind.i64.wrap (x14 + (1 : Int)))]
  h) := by kernel_rfl
theorem f16_5  (h : Heap) (K : Out → Nat → List V → Heap → Prop) : (codeP Tryz.Y (Tryz.Y.loc 16) 100 (((post (flat (bodyOf Tryz.f16))).drop 1)) ⟨mk 41 (([] : List Nat).zip []), [], h⟩ (VQ [2] K)) =
  (K Out.ret 41 [V.b true] h) := by kernel_rfl
end Go.Y
