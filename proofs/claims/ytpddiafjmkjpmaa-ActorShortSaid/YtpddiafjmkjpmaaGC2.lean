/- What the pieces of functions come to: printed by program. -/
import Derived.Test.YtpddiafjmkjpmaaYTryP
import Derived.Test.YtpddiafjmkjpmaaYLoop
namespace Go.Y
open Go.Proofs
set_option maxRecDepth 100000
set_option maxHeartbeats 0
theorem f23_0 (b0On : Bool) (b0Shut : Bool) (b0Eof : Bool) (x0Place : Int) (x0Clock : Int) (s0Typed : List UInt8) (cs0Lines : List V) (n0Lines : Nat) (s0Fly : List UInt8) (cs0Ages : List V) (n0Ages : Nat) (s0Ready : List UInt8) (s0Buffer : List UInt8) (x1Cap : Int) (cs1Places : List V) (n1Places : Nat) (h : Heap) (K : Out → Nat → List V → Heap → Prop) : (codeP Try.Y (Try.Y.loc 23) 100 ((flat (bodyOf Try.f23))) ⟨(V.agg [V.b b0On, V.b b0Shut, V.b b0Eof, V.i IntKind.i64 x0Place, V.i IntKind.i64 x0Clock, V.s s0Typed, V.ts cs0Lines n0Lines none, V.s s0Fly, V.ts cs0Ages n0Ages none, V.s s0Ready, V.s s0Buffer] :: V.agg [V.i IntKind.i64 x1Cap, V.ts cs1Places n1Places none] :: List.replicate 105 .undef), [], h⟩ (VQ [4] K)) =
  (∃ (b : Bool),
  (PCon Try.Y (55 : Nat) [V.agg [V.i IntKind.i64 x1Cap, V.ts cs1Places n1Places none]] fun (v : V) => v = V.b b) ∧
 If (!b) (K Out.ret 107 [V.b false] h)
 (If (ltI x0Place (0 : Int)) (K Out.ret 107 [V.b false] h)
 (If (leI (↑n1Places : Int) x0Place) (K Out.ret 107 [V.b false] h)
 (If (ltI x0Clock (0 : Int)) (K Out.ret 107 [V.b false] h)
 (∃ (b : Bool),
 (PCon Try.Y (56 : Nat) [V.s s0Typed] fun (v : V) => v = V.b b) ∧
 If (!b) (K Out.ret 107 [V.b false] h)
 (If (ltI (2 : Int) (↑n0Lines : Int)) (K Out.ret 107 [V.b false] h)
 (Con Try.Y (57 : Nat) [V.ts cs0Lines n0Lines none, V.fn (Fn.func (58 : Nat)) [] []] h
 fun (v : V) (h' : Heap) =>
 ∃ (b : Bool),
 v = V.b b ∧
 If b (K Out.ret 107 [V.b false] h')
 (∃ (b : Bool),
 (PCon Try.Y (59 : Nat)
 [V.agg
 [V.b b0On, V.b b0Shut, V.b b0Eof, V.i IntKind.i64 x0Place,
 V.i IntKind.i64 x0Clock, V.s s0Typed, V.ts cs0Lines n0Lines none, V.s s0Fly,
 V.ts cs0Ages n0Ages none, V.s s0Ready, V.s s0Buffer]]
 fun (v : V) => v = V.b b) ∧
 If (!b) (K Out.ret 107 [V.b false] h')
 (∃ (n : Int),
 (PCon Try.Y (52 : Nat)
 [V.agg
 [V.b b0On, V.b b0Shut, V.b b0Eof, V.i IntKind.i64 x0Place,
 V.i IntKind.i64 x0Clock, V.s s0Typed, V.ts cs0Lines n0Lines none,
 V.s s0Fly, V.ts cs0Ages n0Ages none, V.s s0Ready, V.s s0Buffer],
 V.agg [V.i IntKind.i64 x1Cap, V.ts cs1Places n1Places none]]
 fun (v : V) => v = V.i IntKind.i64 n) ∧
 If (ltI n (0 : Int)) (K Out.ret 107 [V.b false] h')
 (If (ltI (64 : Int) (↑s0Buffer.length : Int))
 (K Out.ret 107 [V.b false] h')
 (If (!b0On)
 (∃ (b : Bool),
 (PCon Try.Y (60 : Nat)
 [V.agg
 [V.b b0On, V.b b0Shut, V.b b0Eof, V.i IntKind.i64 x0Place,
 V.i IntKind.i64 x0Clock, V.s s0Typed,
 V.ts cs0Lines n0Lines none, V.s s0Fly, V.ts cs0Ages n0Ages none,
 V.s s0Ready, V.s s0Buffer],
 V.agg
 [V.b false, V.b false, V.b false, V.i IntKind.i64 (0 : Int),
 V.i IntKind.i64 (0 : Int), V.s [],
 V.sl none 0 (some 0) 0, V.s [],
 V.sl none 0 (some 0) 0, V.s [],
 V.s []]]
 fun (v : V) => v = V.b b) ∧
 K Out.ret 107 [V.b b] h')
 (If b0Shut
 (If (x0Place != (0 : Int)) (K Out.ret 107 [V.b false] h')
 (If (x0Clock != (0 : Int)) (K Out.ret 107 [V.b false] h')
 (If (!s0Typed == #[].toList) (K Out.ret 107 [V.b false] h')
 (If (ltI (0 : Int) (↑n0Lines : Int))
 (K Out.ret 107 [V.b false] h')
 (If (!b0Eof) (K Out.ret 107 [V.b true] h')
 (If b0Shut
 (If (s0Fly == #[].toList)
 (K Out.ret 107 [V.b (s0Ready == #[].toList)] h')
 (K Out.ret 107 [V.b false] h'))
 (K Out.ret 107 [V.b false] h')))))))
 (If (!b0Eof) (K Out.ret 107 [V.b true] h')
 (If b0Shut
 (If (s0Fly == #[].toList)
 (K Out.ret 107 [V.b (s0Ready == #[].toList)] h')
 (K Out.ret 107 [V.b false] h'))
 (K Out.ret 107 [V.b false] h'))))))))))))))) := by kernel_rfl
theorem f24_0 (b0On : Bool) (b0Shut : Bool) (b0Eof : Bool) (x0Place : Int) (x0Clock : Int) (s0Typed : List UInt8) (cs0Lines : List V) (n0Lines : Nat) (s0Fly : List UInt8) (cs0Ages : List V) (n0Ages : Nat) (s0Ready : List UInt8) (s0Buffer : List UInt8) (x1Cap : Int) (cs1Places : List V) (n1Places : Nat) (h : Heap) (K : Out → Nat → List V → Heap → Prop) : (codeP Try.Y (Try.Y.loc 24) 100 (pre (flat (bodyOf Try.f24))) ⟨(V.agg [V.b b0On, V.b b0Shut, V.b b0Eof, V.i IntKind.i64 x0Place, V.i IntKind.i64 x0Clock, V.s s0Typed, V.ts cs0Lines n0Lines none, V.s s0Fly, V.ts cs0Ages n0Ages none, V.s s0Ready, V.s s0Buffer] :: V.agg [V.i IntKind.i64 x1Cap, V.ts cs1Places n1Places none] :: List.replicate 151 .undef), [], h⟩ (VQ [2, 3, 4, 5, 7, 9, 11, 13, 16] K)) =
  (∃ (b : Bool),
  (PCon Try.Y (47 : Nat) [V.agg [V.i IntKind.i64 x1Cap, V.ts cs1Places n1Places none]] fun (v : V) => v = V.b b) ∧
 If (!b)
 (K Out.ret 153
 [V.lb
 [V.b b0On, V.b b0Shut, V.b b0Eof, V.i IntKind.i64 x0Place, V.i IntKind.i64 x0Clock, V.s s0Typed,
 V.ts cs0Lines n0Lines none, V.s s0Fly, V.ts cs0Ages n0Ages none, V.s s0Ready, V.s s0Buffer],
 V.lb [V.i IntKind.i64 x1Cap, V.ts cs1Places n1Places none], V.b false, V.undef,
 V.agg [V.i IntKind.i64 x1Cap, V.ts cs1Places n1Places none], V.b !b, V.tup [], V.tup [], V.tup []]
 h)
 (If (ltI x0Place (0 : Int))
 (K Out.ret 153
 [V.lb
 [V.b b0On, V.b b0Shut, V.b b0Eof, V.i IntKind.i64 x0Place, V.i IntKind.i64 x0Clock, V.s s0Typed,
 V.ts cs0Lines n0Lines none, V.s s0Fly, V.ts cs0Ages n0Ages none, V.s s0Ready, V.s s0Buffer],
 V.lb [V.i IntKind.i64 x1Cap, V.ts cs1Places n1Places none], V.b false, V.undef,
 V.agg [V.i IntKind.i64 x1Cap, V.ts cs1Places n1Places none], V.b !b, V.rf, V.b (ltI x0Place (0 : Int)),
 V.tup []]
 h)
 (If (leI (↑n1Places : Int) x0Place)
 (K Out.ret 153
 [V.lb
 [V.b b0On, V.b b0Shut, V.b b0Eof, V.i IntKind.i64 x0Place, V.i IntKind.i64 x0Clock, V.s s0Typed,
 V.ts cs0Lines n0Lines none, V.s s0Fly, V.ts cs0Ages n0Ages none, V.s s0Ready, V.s s0Buffer],
 V.lb [V.i IntKind.i64 x1Cap, V.ts cs1Places n1Places none], V.b false, V.undef,
 V.agg [V.i IntKind.i64 x1Cap, V.ts cs1Places n1Places none], V.b !b, V.rf, V.b (ltI x0Place (0 : Int)),
 V.rf]
 h)
 (If (ltI x0Clock (0 : Int))
 (K Out.ret 153
 [V.lb
 [V.b b0On, V.b b0Shut, V.b b0Eof, V.i IntKind.i64 x0Place, V.i IntKind.i64 x0Clock, V.s s0Typed,
 V.ts cs0Lines n0Lines none, V.s s0Fly, V.ts cs0Ages n0Ages none, V.s s0Ready, V.s s0Buffer],
 V.lb [V.i IntKind.i64 x1Cap, V.ts cs1Places n1Places none], V.b false, V.undef,
 V.agg [V.i IntKind.i64 x1Cap, V.ts cs1Places n1Places none], V.b !b, V.rf, V.b (ltI x0Place (0 : Int)),
 V.rf]
 h)
 (∃ (b_1 : Bool),
 (PCon Try.Y (61 : Nat) [V.s s0Typed] fun (v : V) => v = V.b b_1) ∧
 If (!b_1)
 (K Out.ret 153
 [V.lb
 [V.b b0On, V.b b0Shut, V.b b0Eof, V.i IntKind.i64 x0Place, V.i IntKind.i64 x0Clock, V.s s0Typed,
 V.ts cs0Lines n0Lines none, V.s s0Fly, V.ts cs0Ages n0Ages none, V.s s0Ready, V.s s0Buffer],
 V.lb [V.i IntKind.i64 x1Cap, V.ts cs1Places n1Places none], V.b false, V.undef,
 V.agg [V.i IntKind.i64 x1Cap, V.ts cs1Places n1Places none], V.b !b, V.rf,
 V.b (ltI x0Place (0 : Int)), V.rf]
 h)
 (If (ltI (2 : Int) (↑n0Lines : Int))
 (K Out.ret 153
 [V.lb
 [V.b b0On, V.b b0Shut, V.b b0Eof, V.i IntKind.i64 x0Place, V.i IntKind.i64 x0Clock,
 V.s s0Typed, V.ts cs0Lines n0Lines none, V.s s0Fly, V.ts cs0Ages n0Ages none, V.s s0Ready,
 V.s s0Buffer],
 V.lb [V.i IntKind.i64 x1Cap, V.ts cs1Places n1Places none], V.b false, V.undef,
 V.agg [V.i IntKind.i64 x1Cap, V.ts cs1Places n1Places none], V.b !b, V.rf,
 V.b (ltI x0Place (0 : Int)), V.rf]
 h)
 (K Out.normal 153
 [V.lb
 [V.b b0On, V.b b0Shut, V.b b0Eof, V.i IntKind.i64 x0Place, V.i IntKind.i64 x0Clock,
 V.s s0Typed, V.ts cs0Lines n0Lines none, V.s s0Fly, V.ts cs0Ages n0Ages none, V.s s0Ready,
 V.s s0Buffer],
 V.lb [V.i IntKind.i64 x1Cap, V.ts cs1Places n1Places none], V.b false,
 V.i IntKind.i64 (0 : Int), V.agg [V.i IntKind.i64 x1Cap, V.ts cs1Places n1Places none], V.b !b,
 V.rf, V.b (ltI x0Place (0 : Int)), V.rf]
 h))))))) := by kernel_rfl
theorem f24_1 (x0Place : Int) (x0Clock : Int) (s0Typed : List UInt8) (cs0Lines : List V) (n0Lines : Nat) (s0Fly : List UInt8) (cs0Ages : List V) (n0Ages : Nat) (s0Ready : List UInt8) (s0Buffer : List UInt8) (x1Cap : Int) (cs1Places : List V) (n1Places : Nat) (b2_0 : Bool) (b2_1 : Bool) (b2_2 : Bool) (b9 : Bool) (b13 : Bool) (x5 : Int) (h : Heap) (K : Out → Nat → List V → Heap → Prop) : (codeP Try.Y (Try.Y.loc 24) 100 ((flat (loopB (post (flat (bodyOf Try.f24)))))) ⟨mk 153 (([2, 3, 5, 7, 9, 11, 13, 16] : List Nat).zip [V.lb [V.b b2_0, V.b b2_1, V.b b2_2, V.i IntKind.i64 x0Place, V.i IntKind.i64 x0Clock, V.s s0Typed, V.ts cs0Lines n0Lines none, V.s s0Fly, V.ts cs0Ages n0Ages none, V.s s0Ready, V.s s0Buffer], V.lb [V.i IntKind.i64 x1Cap, V.ts cs1Places n1Places none], V.i IntKind.i64 x5, V.agg [V.i IntKind.i64 x1Cap, V.ts cs1Places n1Places none], V.b b9, V.rf, V.b b13, V.rf]), [], h⟩ (VQ [2, 3, 4, 5, 7, 9, 11, 13, 16] K)) =
  (If (ltI x5 (↑n0Lines : Int))
  (((0 : Int) ≤ x5 ∧ x5 < (↑n0Lines : Int)) ∧
 ∃ (s : List UInt8),
 takeX 1 (List.drop (x5.toNat * (1 : Nat)) cs0Lines) = some [V.s s] ∧
 ∃ (b : Bool),
 (PCon Try.Y (61 : Nat) [V.s s] fun (v : V) => v = V.b b) ∧
 If (!b)
 (K Out.ret 153
 [V.lb
 [V.b b2_0, V.b b2_1, V.b b2_2, V.i IntKind.i64 x0Place, V.i IntKind.i64 x0Clock, V.s s0Typed,
 V.ts cs0Lines n0Lines none, V.s s0Fly, V.ts cs0Ages n0Ages none, V.s s0Ready, V.s s0Buffer],
 V.lb [V.i IntKind.i64 x1Cap, V.ts cs1Places n1Places none], V.b false, V.i IntKind.i64 x5,
 V.agg [V.i IntKind.i64 x1Cap, V.ts cs1Places n1Places none], V.b b9, V.rf, V.b b13, V.rf]
 h)
 (K Out.normal 153
 [V.lb
 [V.b b2_0, V.b b2_1, V.b b2_2, V.i IntKind.i64 x0Place, V.i IntKind.i64 x0Clock, V.s s0Typed,
 V.ts cs0Lines n0Lines none, V.s s0Fly, V.ts cs0Ages n0Ages none, V.s s0Ready, V.s s0Buffer],
 V.lb [V.i IntKind.i64 x1Cap, V.ts cs1Places n1Places none], V.undef,
 V.i IntKind.i64 (IntKind.i64.wrap (x5 + (1 : Int))),
 V.agg [V.i IntKind.i64 x1Cap, V.ts cs1Places n1Places none], V.b b9, V.rf, V.b b13, V.rf]
 h))
  (K (Out.exit 0) 153
 [V.lb
 [V.b b2_0, V.b b2_1, V.b b2_2, V.i IntKind.i64 x0Place, V.i IntKind.i64 x0Clock, V.s s0Typed,
 V.ts cs0Lines n0Lines none, V.s s0Fly, V.ts cs0Ages n0Ages none, V.s s0Ready, V.s s0Buffer],
 V.lb [V.i IntKind.i64 x1Cap, V.ts cs1Places n1Places none], V.undef, V.i IntKind.i64 x5,
 V.agg [V.i IntKind.i64 x1Cap, V.ts cs1Places n1Places none], V.b b9, V.rf, V.b b13, V.rf]
 h)) := by kernel_rfl
theorem f24_2 (x0Place : Int) (x0Clock : Int) (cs0Lines : List V) (n0Lines : Nat) (cs0Ages : List V) (n0Ages : Nat) (x1Cap : Int) (cs1Places : List V) (n1Places : Nat) (b2_0z2 : Bool) (b2_1z2 : Bool) (b2_2z2 : Bool) (s2_5 : List UInt8) (s2_7 : List UInt8) (s2_9 : List UInt8) (s2_10 : List UInt8) (b9z2 : Bool) (b13z2 : Bool) (h : Heap) (K : Out → Nat → List V → Heap → Prop) : (codeP Try.Y (Try.Y.loc 24) 100 (pre ((post (flat (bodyOf Try.f24))).drop 1)) ⟨mk 153 (([2, 3, 7, 9, 11, 13, 16] : List Nat).zip [V.lb [V.b b2_0z2, V.b b2_1z2, V.b b2_2z2, V.i IntKind.i64 x0Place, V.i IntKind.i64 x0Clock, V.s s2_5, V.ts cs0Lines n0Lines none, V.s s2_7, V.ts cs0Ages n0Ages none, V.s s2_9, V.s s2_10], V.lb [V.i IntKind.i64 x1Cap, V.ts cs1Places n1Places none], V.agg [V.i IntKind.i64 x1Cap, V.ts cs1Places n1Places none], V.b b9z2, V.rf, V.b b13z2, V.rf]), [], h⟩ (VQ [2, 3, 4, 6, 9, 11, 16] K)) =
  (If ((↑n0Ages : Int) != (↑s2_7.length : Int))
  (K Out.ret 153
 [V.lb
 [V.b b2_0z2, V.b b2_1z2, V.b b2_2z2, V.i IntKind.i64 x0Place, V.i IntKind.i64 x0Clock, V.s s2_5,
 V.ts cs0Lines n0Lines none, V.s s2_7, V.ts cs0Ages n0Ages none, V.s s2_9, V.s s2_10],
 V.lb [V.i IntKind.i64 x1Cap, V.ts cs1Places n1Places none], V.b false, V.undef, V.b b9z2, V.rf, V.rf]
 h)
  (∃ (n : Int),
 (PCon Try.Y (62 : Nat)
 [V.agg
 [V.b b2_0z2, V.b b2_1z2, V.b b2_2z2, V.i IntKind.i64 x0Place, V.i IntKind.i64 x0Clock, V.s s2_5,
 V.ts cs0Lines n0Lines none, V.s s2_7, V.ts cs0Ages n0Ages none, V.s s2_9, V.s s2_10],
 V.agg [V.i IntKind.i64 x1Cap, V.ts cs1Places n1Places none]]
 fun (v : V) => v = V.i IntKind.i64 n) ∧
 If (ltI n (0 : Int))
 (K Out.ret 153
 [V.lb
 [V.b b2_0z2, V.b b2_1z2, V.b b2_2z2, V.i IntKind.i64 x0Place, V.i IntKind.i64 x0Clock, V.s s2_5,
 V.ts cs0Lines n0Lines none, V.s s2_7, V.ts cs0Ages n0Ages none, V.s s2_9, V.s s2_10],
 V.lb [V.i IntKind.i64 x1Cap, V.ts cs1Places n1Places none], V.b false, V.undef, V.b b9z2, V.rf, V.rf]
 h)
 (If (ltI (64 : Int) (↑s2_10.length : Int))
 (K Out.ret 153
 [V.lb
 [V.b b2_0z2, V.b b2_1z2, V.b b2_2z2, V.i IntKind.i64 x0Place, V.i IntKind.i64 x0Clock, V.s s2_5,
 V.ts cs0Lines n0Lines none, V.s s2_7, V.ts cs0Ages n0Ages none, V.s s2_9, V.s s2_10],
 V.lb [V.i IntKind.i64 x1Cap, V.ts cs1Places n1Places none], V.b false, V.undef, V.b b9z2, V.rf, V.rf]
 h)
 (K Out.normal 153
 [V.lb
 [V.b b2_0z2, V.b b2_1z2, V.b b2_2z2, V.i IntKind.i64 x0Place, V.i IntKind.i64 x0Clock, V.s s2_5,
 V.ts cs0Lines n0Lines none, V.s s2_7, V.ts cs0Ages n0Ages none, V.s s2_9, V.s s2_10],
 V.lb [V.i IntKind.i64 x1Cap, V.ts cs1Places n1Places none], V.undef, V.i IntKind.i64 (0 : Int), V.b b9z2,
 V.rf, V.rf]
 h)))) := by kernel_rfl
theorem f24_3 (x0Place : Int) (x0Clock : Int) (cs0Lines : List V) (n0Lines : Nat) (cs0Ages : List V) (n0Ages : Nat) (x1Cap : Int) (cs1Places : List V) (n1Places : Nat) (b2_0z3 : Bool) (b2_1z3 : Bool) (b2_2z3 : Bool) (s2_5z2 : List UInt8) (s2_7z2 : List UInt8) (s2_9z2 : List UInt8) (s2_10z2 : List UInt8) (b9z3 : Bool) (x6 : Int) (h : Heap) (K : Out → Nat → List V → Heap → Prop) : (codeP Try.Y (Try.Y.loc 24) 100 ((flat (loopB (post ((post (flat (bodyOf Try.f24))).drop 1))))) ⟨mk 153 (([2, 3, 6, 9, 11, 16] : List Nat).zip [V.lb [V.b b2_0z3, V.b b2_1z3, V.b b2_2z3, V.i IntKind.i64 x0Place, V.i IntKind.i64 x0Clock, V.s s2_5z2, V.ts cs0Lines n0Lines none, V.s s2_7z2, V.ts cs0Ages n0Ages none, V.s s2_9z2, V.s s2_10z2], V.lb [V.i IntKind.i64 x1Cap, V.ts cs1Places n1Places none], V.i IntKind.i64 x6, V.b b9z3, V.rf, V.rf]), [], h⟩ (VQ [2, 3, 4, 6, 9, 11, 16] K)) =
  (If (ltI x6 (↑n0Ages : Int))
  (((0 : Int) ≤ x6 ∧ x6 < (↑n0Ages : Int)) ∧
 ∃ (n : Int),
 takeX 1 (List.drop (x6.toNat * (1 : Nat)) cs0Ages) = some [V.i IntKind.i64 n] ∧
 If (ltI n (0 : Int))
 (K Out.ret 153
 [V.lb
 [V.b b2_0z3, V.b b2_1z3, V.b b2_2z3, V.i IntKind.i64 x0Place, V.i IntKind.i64 x0Clock, V.s s2_5z2,
 V.ts cs0Lines n0Lines none, V.s s2_7z2, V.ts cs0Ages n0Ages none, V.s s2_9z2, V.s s2_10z2],
 V.lb [V.i IntKind.i64 x1Cap, V.ts cs1Places n1Places none], V.b false, V.i IntKind.i64 x6, V.b b9z3, V.rf,
 V.rf]
 h)
 (If (ltI (0 : Int) x6)
 (((0 : Int) ≤ x6 ∧ x6 < (↑n0Ages : Int)) ∧
 ∃ (n : Int),
 takeX 1 (List.drop (x6.toNat * (1 : Nat)) cs0Ages) = some [V.i IntKind.i64 n] ∧
 ((0 : Int) ≤ IntKind.i64.wrap (x6 - (1 : Int)) ∧
 IntKind.i64.wrap (x6 - (1 : Int)) < (↑n0Ages : Int)) ∧
 ∃ (n_1 : Int),
 takeX 1 (List.drop ((IntKind.i64.wrap (x6 - (1 : Int))).toNat * (1 : Nat)) cs0Ages) =
 some [V.i IntKind.i64 n_1] ∧
 If (ltI n_1 n)
 (K Out.ret 153
 [V.lb
 [V.b b2_0z3, V.b b2_1z3, V.b b2_2z3, V.i IntKind.i64 x0Place, V.i IntKind.i64 x0Clock,
 V.s s2_5z2, V.ts cs0Lines n0Lines none, V.s s2_7z2, V.ts cs0Ages n0Ages none,
 V.s s2_9z2, V.s s2_10z2],
 V.lb [V.i IntKind.i64 x1Cap, V.ts cs1Places n1Places none], V.b false, V.i IntKind.i64 x6,
 V.b b9z3, V.rf, V.rf]
 h)
 (K Out.normal 153
 [V.lb
 [V.b b2_0z3, V.b b2_1z3, V.b b2_2z3, V.i IntKind.i64 x0Place, V.i IntKind.i64 x0Clock,
 V.s s2_5z2, V.ts cs0Lines n0Lines none, V.s s2_7z2, V.ts cs0Ages n0Ages none,
 V.s s2_9z2, V.s s2_10z2],
 V.lb [V.i IntKind.i64 x1Cap, V.ts cs1Places n1Places none], V.undef,
 V.i IntKind.i64 (IntKind.i64.wrap (x6 + (1 : Int))), V.b b9z3, V.rf, V.rf]
 h))
 (K Out.normal 153
 [V.lb
 [V.b b2_0z3, V.b b2_1z3, V.b b2_2z3, V.i IntKind.i64 x0Place, V.i IntKind.i64 x0Clock, V.s s2_5z2,
 V.ts cs0Lines n0Lines none, V.s s2_7z2, V.ts cs0Ages n0Ages none, V.s s2_9z2, V.s s2_10z2],
 V.lb [V.i IntKind.i64 x1Cap, V.ts cs1Places n1Places none], V.undef,
 V.i IntKind.i64 (IntKind.i64.wrap (x6 + (1 : Int))), V.b b9z3, V.rf, V.rf]
 h)))
  (K (Out.exit 2) 153
 [V.lb
 [V.b b2_0z3, V.b b2_1z3, V.b b2_2z3, V.i IntKind.i64 x0Place, V.i IntKind.i64 x0Clock, V.s s2_5z2,
 V.ts cs0Lines n0Lines none, V.s s2_7z2, V.ts cs0Ages n0Ages none, V.s s2_9z2, V.s s2_10z2],
 V.lb [V.i IntKind.i64 x1Cap, V.ts cs1Places n1Places none], V.undef, V.i IntKind.i64 x6, V.b b9z3, V.rf, V.rf]
 h)) := by kernel_rfl
theorem f24_4 (x0Place : Int) (x0Clock : Int) (cs0Lines : List V) (n0Lines : Nat) (cs0Ages : List V) (n0Ages : Nat) (x1Cap : Int) (cs1Places : List V) (n1Places : Nat) (x6 : Int) (b2_0z4 : Bool) (b2_1z4 : Bool) (b2_2z4 : Bool) (s2_5z3 : List UInt8) (s2_7z3 : List UInt8) (s2_9z3 : List UInt8) (s2_10z3 : List UInt8) (h : Heap) (K : Out → Nat → List V → Heap → Prop) : (codeP Try.Y (Try.Y.loc 24) 100 (((post ((post (flat (bodyOf Try.f24))).drop 1)).drop 1)) ⟨mk 153 (([2, 3, 6, 11, 16] : List Nat).zip [V.lb [V.b b2_0z4, V.b b2_1z4, V.b b2_2z4, V.i IntKind.i64 x0Place, V.i IntKind.i64 x0Clock, V.s s2_5z3, V.ts cs0Lines n0Lines none, V.s s2_7z3, V.ts cs0Ages n0Ages none, V.s s2_9z3, V.s s2_10z3], V.lb [V.i IntKind.i64 x1Cap, V.ts cs1Places n1Places none], V.i IntKind.i64 x6, V.rf, V.rf]), [], h⟩ (VQ [4] K)) =
  (If (!b2_0z4)
  (∃ (b : Bool),
 (PCon Try.Y (38 : Nat)
 [V.agg
 [V.b b2_0z4, V.b b2_1z4, V.b b2_2z4, V.i IntKind.i64 x0Place, V.i IntKind.i64 x0Clock, V.s s2_5z3,
 V.ts cs0Lines n0Lines none, V.s s2_7z3, V.ts cs0Ages n0Ages none, V.s s2_9z3, V.s s2_10z3],
 V.agg
 [V.b false, V.b false, V.b false, V.i IntKind.i64 (0 : Int), V.i IntKind.i64 (0 : Int), V.s [],
 V.sl none 0 (some 0) 0, V.s [],
 V.sl none 0 (some 0) 0, V.s [], V.s []]]
 fun (v : V) => v = V.b b) ∧
 If (!b) (K Out.ret 153 [V.b false] h)
 (If b2_1z4
 (If (x0Place != (0 : Int)) (K Out.ret 153 [V.b false] h)
 (If (x0Clock != (0 : Int)) (K Out.ret 153 [V.b false] h)
 (If (!s2_5z3 == #[].toList) (K Out.ret 153 [V.b false] h)
 (If (ltI (0 : Int) (↑n0Lines : Int)) (K Out.ret 153 [V.b false] h)
 (If (!b2_2z4) (K Out.ret 153 [V.b true] h)
 (If b2_1z4
 (If (s2_7z3 == #[].toList) (K Out.ret 153 [V.b (s2_9z3 == #[].toList)] h)
 (K Out.ret 153 [V.b false] h))
 (K Out.ret 153 [V.b false] h)))))))
 (If (!b2_2z4) (K Out.ret 153 [V.b true] h)
 (If b2_1z4
 (If (s2_7z3 == #[].toList) (K Out.ret 153 [V.b (s2_9z3 == #[].toList)] h)
 (K Out.ret 153 [V.b false] h))
 (K Out.ret 153 [V.b false] h)))))
  (If b2_1z4
 (If (x0Place != (0 : Int)) (K Out.ret 153 [V.b false] h)
 (If (x0Clock != (0 : Int)) (K Out.ret 153 [V.b false] h)
 (If (!s2_5z3 == #[].toList) (K Out.ret 153 [V.b false] h)
 (If (ltI (0 : Int) (↑n0Lines : Int)) (K Out.ret 153 [V.b false] h)
 (If (!b2_2z4) (K Out.ret 153 [V.b true] h)
 (If b2_1z4
 (If (s2_7z3 == #[].toList) (K Out.ret 153 [V.b (s2_9z3 == #[].toList)] h)
 (K Out.ret 153 [V.b false] h))
 (K Out.ret 153 [V.b false] h)))))))
 (If (!b2_2z4) (K Out.ret 153 [V.b true] h)
 (If b2_1z4
 (If (s2_7z3 == #[].toList) (K Out.ret 153 [V.b (s2_9z3 == #[].toList)] h)
 (K Out.ret 153 [V.b false] h))
 (K Out.ret 153 [V.b false] h))))) := by kernel_rfl
theorem f60_0 (b0On : Bool) (b0Shut : Bool) (b0Eof : Bool) (x0Place : Int) (x0Clock : Int) (s0Typed : List UInt8) (cs0Lines : List V) (n0Lines : Nat) (s0Fly : List UInt8) (cs0Ages : List V) (n0Ages : Nat) (s0Ready : List UInt8) (s0Buffer : List UInt8) (b1On : Bool) (b1Shut : Bool) (b1Eof : Bool) (x1Place : Int) (x1Clock : Int) (s1Typed : List UInt8) (cs1Lines : List V) (n1Lines : Nat) (s1Fly : List UInt8) (cs1Ages : List V) (n1Ages : Nat) (s1Ready : List UInt8) (s1Buffer : List UInt8) (h : Heap) (K : Out → Nat → List V → Heap → Prop) : (codeP Try.Y (Try.Y.loc 60) 100 ((flat (bodyOf Try.f60))) ⟨(V.agg [V.b b0On, V.b b0Shut, V.b b0Eof, V.i IntKind.i64 x0Place, V.i IntKind.i64 x0Clock, V.s s0Typed, V.ts cs0Lines n0Lines none, V.s s0Fly, V.ts cs0Ages n0Ages none, V.s s0Ready, V.s s0Buffer] :: V.agg [V.b b1On, V.b b1Shut, V.b b1Eof, V.i IntKind.i64 x1Place, V.i IntKind.i64 x1Clock, V.s s1Typed, V.ts cs1Lines n1Lines none, V.s s1Fly, V.ts cs1Ages n1Ages none, V.s s1Ready, V.s s1Buffer] :: List.replicate 78 .undef), [], h⟩ (VQ [4] K)) =
  (If (b0On == b1On)
  (If (b0Shut == b1Shut)
 (If (b0Eof == b1Eof)
 (If (x0Place == x1Place)
 (If (x0Clock == x1Clock)
 (If (s0Typed == s1Typed)
 (If (s0Fly == s1Fly)
 (If (s0Ready == s1Ready)
 (If (s0Buffer == s1Buffer)
 (∃ (b : Bool),
 (PCon Try.Y (102 : Nat) [V.ts cs0Lines n0Lines none, V.ts cs1Lines n1Lines none] fun (v : V) =>
 v = V.b b) ∧
 If b
 (∃ (b : Bool),
 (PCon Try.Y (103 : Nat) [V.ts cs0Ages n0Ages none, V.ts cs1Ages n1Ages none] fun (v : V) =>
 v = V.b b) ∧
 K Out.ret 80 [V.b b] h)
 (K Out.ret 80 [V.b false] h))
 (K Out.ret 80 [V.b false] h))
 (K Out.ret 80 [V.b false] h))
 (K Out.ret 80 [V.b false] h))
 (K Out.ret 80 [V.b false] h))
 (K Out.ret 80 [V.b false] h))
 (K Out.ret 80 [V.b false] h))
 (K Out.ret 80 [V.b false] h))
 (K Out.ret 80 [V.b false] h))
  (K Out.ret 80 [V.b false] h)) := by kernel_rfl
theorem f61_0 (s0 : List UInt8) (h : Heap) (K : Out → Nat → List V → Heap → Prop) : (codeP Try.Y (Try.Y.loc 61) 100 (pre (flat (bodyOf Try.f61))) ⟨(V.s s0 :: List.replicate 16 .undef), [], h⟩ (VQ [0, 3] K)) =
  (K Out.normal 17 [V.s s0, V.i IntKind.i64 (0 : Int)] h) := by kernel_rfl
theorem f61_1 (s0 : List UInt8) (x3 : Int) (h : Heap) (K : Out → Nat → List V → Heap → Prop) : (codeP Try.Y (Try.Y.loc 61) 100 ((flat (loopB (post (flat (bodyOf Try.f61)))))) ⟨mk 17 (([0, 3] : List Nat).zip [V.s s0, V.i IntKind.i64 x3]), [], h⟩ (VQ [0, 2, 3] K)) =
  (If (ltI x3 (↑s0.length : Int))
  (∃ (c : UInt8),
 ((0 : Int) ≤ x3 ∧ s0[x3.toNat]? = some c) ∧
 If ((↑c.toNat : Int) == (10 : Int)) (K Out.ret 17 [V.s s0, V.b false, V.i IntKind.i64 x3] h)
 (K Out.normal 17 [V.s s0, V.undef, V.i IntKind.i64 (IntKind.i64.wrap (x3 + (1 : Int)))] h))
  (K (Out.exit 0) 17 [V.s s0, V.undef, V.i IntKind.i64 x3] h)) := by kernel_rfl
theorem f61_2 (s0 : List UInt8) (h : Heap) (K : Out → Nat → List V → Heap → Prop) : (codeP Try.Y (Try.Y.loc 61) 100 (((post (flat (bodyOf Try.f61))).drop 1)) ⟨mk 17 (([0] : List Nat).zip [V.s s0]), [], h⟩ (VQ [2] K)) =
  (K Out.ret 17 [V.b (leI (↑s0.length : Int) (16 : Int))] h) := by kernel_rfl
theorem f62_0 (b0On : Bool) (b0Shut : Bool) (b0Eof : Bool) (x0Place : Int) (x0Clock : Int) (s0Typed : List UInt8) (cs0Lines : List V) (n0Lines : Nat) (s0Fly : List UInt8) (cs0Ages : List V) (n0Ages : Nat) (s0Ready : List UInt8) (s0Buffer : List UInt8) (x1Cap : Int) (cs1Places : List V) (n1Places : Nat) (h : Heap) (K : Out → Nat → List V → Heap → Prop) : (codeP Try.Y (Try.Y.loc 62) 100 ((flat (bodyOf Try.f62))) ⟨(V.agg [V.b b0On, V.b b0Shut, V.b b0Eof, V.i IntKind.i64 x0Place, V.i IntKind.i64 x0Clock, V.s s0Typed, V.ts cs0Lines n0Lines none, V.s s0Fly, V.ts cs0Ages n0Ages none, V.s s0Ready, V.s s0Buffer] :: V.agg [V.i IntKind.i64 x1Cap, V.ts cs1Places n1Places none] :: List.replicate 13 .undef), [], h⟩ (VQ [4] K)) =
  (K Out.ret 15
  [V.i IntKind.i64 (IntKind.i64.wrap (IntKind.i64.wrap (x1Cap - (↑s0Fly.length : Int)) - (↑s0Ready.length : Int)))] h) := by kernel_rfl
theorem f38_0 (b0On : Bool) (b0Shut : Bool) (b0Eof : Bool) (x0Place : Int) (x0Clock : Int) (s0Typed : List UInt8) (cs0Lines : List V) (n0Lines : Nat) (s0Fly : List UInt8) (cs0Ages : List V) (n0Ages : Nat) (s0Ready : List UInt8) (s0Buffer : List UInt8) (b1On : Bool) (b1Shut : Bool) (b1Eof : Bool) (x1Place : Int) (x1Clock : Int) (s1Typed : List UInt8) (cs1Lines : List V) (n1Lines : Nat) (s1Fly : List UInt8) (cs1Ages : List V) (n1Ages : Nat) (s1Ready : List UInt8) (s1Buffer : List UInt8) (h : Heap) (K : Out → Nat → List V → Heap → Prop) : (codeP Try.Y (Try.Y.loc 38) 100 (pre (flat (bodyOf Try.f38))) ⟨(V.agg [V.b b0On, V.b b0Shut, V.b b0Eof, V.i IntKind.i64 x0Place, V.i IntKind.i64 x0Clock, V.s s0Typed, V.ts cs0Lines n0Lines none, V.s s0Fly, V.ts cs0Ages n0Ages none, V.s s0Ready, V.s s0Buffer] :: V.agg [V.b b1On, V.b b1Shut, V.b b1Eof, V.i IntKind.i64 x1Place, V.i IntKind.i64 x1Clock, V.s s1Typed, V.ts cs1Lines n1Lines none, V.s s1Fly, V.ts cs1Ages n1Ages none, V.s s1Ready, V.s s1Buffer] :: List.replicate 120 .undef), [], h⟩ (VQ [2, 3, 4, 5] K)) =
  (If (!b0On == b1On)
  (K Out.ret 122
 [V.lb
 [V.b b0On, V.b b0Shut, V.b b0Eof, V.i IntKind.i64 x0Place, V.i IntKind.i64 x0Clock, V.s s0Typed,
 V.ts cs0Lines n0Lines none, V.s s0Fly, V.ts cs0Ages n0Ages none, V.s s0Ready, V.s s0Buffer],
 V.lb
 [V.b b1On, V.b b1Shut, V.b b1Eof, V.i IntKind.i64 x1Place, V.i IntKind.i64 x1Clock, V.s s1Typed,
 V.ts cs1Lines n1Lines none, V.s s1Fly, V.ts cs1Ages n1Ages none, V.s s1Ready, V.s s1Buffer],
 V.b false, V.undef]
 h)
  (If (!b0Shut == b1Shut)
 (K Out.ret 122
 [V.lb
 [V.b b0On, V.b b0Shut, V.b b0Eof, V.i IntKind.i64 x0Place, V.i IntKind.i64 x0Clock, V.s s0Typed,
 V.ts cs0Lines n0Lines none, V.s s0Fly, V.ts cs0Ages n0Ages none, V.s s0Ready, V.s s0Buffer],
 V.lb
 [V.b b1On, V.b b1Shut, V.b b1Eof, V.i IntKind.i64 x1Place, V.i IntKind.i64 x1Clock, V.s s1Typed,
 V.ts cs1Lines n1Lines none, V.s s1Fly, V.ts cs1Ages n1Ages none, V.s s1Ready, V.s s1Buffer],
 V.b false, V.undef]
 h)
 (If (!b0Eof == b1Eof)
 (K Out.ret 122
 [V.lb
 [V.b b0On, V.b b0Shut, V.b b0Eof, V.i IntKind.i64 x0Place, V.i IntKind.i64 x0Clock, V.s s0Typed,
 V.ts cs0Lines n0Lines none, V.s s0Fly, V.ts cs0Ages n0Ages none, V.s s0Ready, V.s s0Buffer],
 V.lb
 [V.b b1On, V.b b1Shut, V.b b1Eof, V.i IntKind.i64 x1Place, V.i IntKind.i64 x1Clock, V.s s1Typed,
 V.ts cs1Lines n1Lines none, V.s s1Fly, V.ts cs1Ages n1Ages none, V.s s1Ready, V.s s1Buffer],
 V.b false, V.undef]
 h)
 (If (x0Place != x1Place)
 (K Out.ret 122
 [V.lb
 [V.b b0On, V.b b0Shut, V.b b0Eof, V.i IntKind.i64 x0Place, V.i IntKind.i64 x0Clock, V.s s0Typed,
 V.ts cs0Lines n0Lines none, V.s s0Fly, V.ts cs0Ages n0Ages none, V.s s0Ready, V.s s0Buffer],
 V.lb
 [V.b b1On, V.b b1Shut, V.b b1Eof, V.i IntKind.i64 x1Place, V.i IntKind.i64 x1Clock, V.s s1Typed,
 V.ts cs1Lines n1Lines none, V.s s1Fly, V.ts cs1Ages n1Ages none, V.s s1Ready, V.s s1Buffer],
 V.b false, V.undef]
 h)
 (If (x0Clock != x1Clock)
 (K Out.ret 122
 [V.lb
 [V.b b0On, V.b b0Shut, V.b b0Eof, V.i IntKind.i64 x0Place, V.i IntKind.i64 x0Clock, V.s s0Typed,
 V.ts cs0Lines n0Lines none, V.s s0Fly, V.ts cs0Ages n0Ages none, V.s s0Ready, V.s s0Buffer],
 V.lb
 [V.b b1On, V.b b1Shut, V.b b1Eof, V.i IntKind.i64 x1Place, V.i IntKind.i64 x1Clock, V.s s1Typed,
 V.ts cs1Lines n1Lines none, V.s s1Fly, V.ts cs1Ages n1Ages none, V.s s1Ready, V.s s1Buffer],
 V.b false, V.undef]
 h)
 (If (!s0Typed == s1Typed)
 (K Out.ret 122
 [V.lb
 [V.b b0On, V.b b0Shut, V.b b0Eof, V.i IntKind.i64 x0Place, V.i IntKind.i64 x0Clock, V.s s0Typed,
 V.ts cs0Lines n0Lines none, V.s s0Fly, V.ts cs0Ages n0Ages none, V.s s0Ready, V.s s0Buffer],
 V.lb
 [V.b b1On, V.b b1Shut, V.b b1Eof, V.i IntKind.i64 x1Place, V.i IntKind.i64 x1Clock, V.s s1Typed,
 V.ts cs1Lines n1Lines none, V.s s1Fly, V.ts cs1Ages n1Ages none, V.s s1Ready, V.s s1Buffer],
 V.b false, V.undef]
 h)
 (If (!s0Fly == s1Fly)
 (K Out.ret 122
 [V.lb
 [V.b b0On, V.b b0Shut, V.b b0Eof, V.i IntKind.i64 x0Place, V.i IntKind.i64 x0Clock, V.s s0Typed,
 V.ts cs0Lines n0Lines none, V.s s0Fly, V.ts cs0Ages n0Ages none, V.s s0Ready, V.s s0Buffer],
 V.lb
 [V.b b1On, V.b b1Shut, V.b b1Eof, V.i IntKind.i64 x1Place, V.i IntKind.i64 x1Clock, V.s s1Typed,
 V.ts cs1Lines n1Lines none, V.s s1Fly, V.ts cs1Ages n1Ages none, V.s s1Ready, V.s s1Buffer],
 V.b false, V.undef]
 h)
 (If (!s0Ready == s1Ready)
 (K Out.ret 122
 [V.lb
 [V.b b0On, V.b b0Shut, V.b b0Eof, V.i IntKind.i64 x0Place, V.i IntKind.i64 x0Clock, V.s s0Typed,
 V.ts cs0Lines n0Lines none, V.s s0Fly, V.ts cs0Ages n0Ages none, V.s s0Ready, V.s s0Buffer],
 V.lb
 [V.b b1On, V.b b1Shut, V.b b1Eof, V.i IntKind.i64 x1Place, V.i IntKind.i64 x1Clock, V.s s1Typed,
 V.ts cs1Lines n1Lines none, V.s s1Fly, V.ts cs1Ages n1Ages none, V.s s1Ready, V.s s1Buffer],
 V.b false, V.undef]
 h)
 (If (!s0Buffer == s1Buffer)
 (K Out.ret 122
 [V.lb
 [V.b b0On, V.b b0Shut, V.b b0Eof, V.i IntKind.i64 x0Place, V.i IntKind.i64 x0Clock, V.s s0Typed,
 V.ts cs0Lines n0Lines none, V.s s0Fly, V.ts cs0Ages n0Ages none, V.s s0Ready, V.s s0Buffer],
 V.lb
 [V.b b1On, V.b b1Shut, V.b b1Eof, V.i IntKind.i64 x1Place, V.i IntKind.i64 x1Clock, V.s s1Typed,
 V.ts cs1Lines n1Lines none, V.s s1Fly, V.ts cs1Ages n1Ages none, V.s s1Ready, V.s s1Buffer],
 V.b false, V.undef]
 h)
 (If ((↑n0Lines : Int) != (↑n1Lines : Int))
 (K Out.ret 122
 [V.lb
 [V.b b0On, V.b b0Shut, V.b b0Eof, V.i IntKind.i64 x0Place, V.i IntKind.i64 x0Clock,
 V.s s0Typed, V.ts cs0Lines n0Lines none, V.s s0Fly, V.ts cs0Ages n0Ages none, V.s s0Ready,
 V.s s0Buffer],
 V.lb
 [V.b b1On, V.b b1Shut, V.b b1Eof, V.i IntKind.i64 x1Place, V.i IntKind.i64 x1Clock,
 V.s s1Typed, V.ts cs1Lines n1Lines none, V.s s1Fly, V.ts cs1Ages n1Ages none, V.s s1Ready,
 V.s s1Buffer],
 V.b false, V.undef]
 h)
 (If ((↑n0Ages : Int) != (↑n1Ages : Int))
 (K Out.ret 122
 [V.lb
 [V.b b0On, V.b b0Shut, V.b b0Eof, V.i IntKind.i64 x0Place, V.i IntKind.i64 x0Clock,
 V.s s0Typed, V.ts cs0Lines n0Lines none, V.s s0Fly, V.ts cs0Ages n0Ages none, V.s s0Ready,
 V.s s0Buffer],
 V.lb
 [V.b b1On, V.b b1Shut, V.b b1Eof, V.i IntKind.i64 x1Place, V.i IntKind.i64 x1Clock,
 V.s s1Typed, V.ts cs1Lines n1Lines none, V.s s1Fly, V.ts cs1Ages n1Ages none, V.s s1Ready,
 V.s s1Buffer],
 V.b false, V.undef]
 h)
 (K Out.normal 122
 [V.lb
 [V.b b0On, V.b b0Shut, V.b b0Eof, V.i IntKind.i64 x0Place, V.i IntKind.i64 x0Clock,
 V.s s0Typed, V.ts cs0Lines n0Lines none, V.s s0Fly, V.ts cs0Ages n0Ages none, V.s s0Ready,
 V.s s0Buffer],
 V.lb
 [V.b b1On, V.b b1Shut, V.b b1Eof, V.i IntKind.i64 x1Place, V.i IntKind.i64 x1Clock,
 V.s s1Typed, V.ts cs1Lines n1Lines none, V.s s1Fly, V.ts cs1Ages n1Ages none, V.s s1Ready,
 V.s s1Buffer],
 V.b false, V.i IntKind.i64 (0 : Int)]
 h)))))))))))) := by kernel_rfl
theorem f38_1 (b0On : Bool) (b0Shut : Bool) (b0Eof : Bool) (x0Place : Int) (x0Clock : Int) (s0Typed : List UInt8) (cs0Lines : List V) (n0Lines : Nat) (s0Fly : List UInt8) (cs0Ages : List V) (n0Ages : Nat) (s0Ready : List UInt8) (s0Buffer : List UInt8) (b1On : Bool) (b1Shut : Bool) (b1Eof : Bool) (x1Place : Int) (x1Clock : Int) (s1Typed : List UInt8) (cs1Lines : List V) (n1Lines : Nat) (s1Fly : List UInt8) (cs1Ages : List V) (n1Ages : Nat) (s1Ready : List UInt8) (s1Buffer : List UInt8) (x5 : Int) (h : Heap) (K : Out → Nat → List V → Heap → Prop) : (codeP Try.Y (Try.Y.loc 38) 100 ((flat (loopB (post (flat (bodyOf Try.f38)))))) ⟨mk 122 (([2, 3, 5] : List Nat).zip [V.lb [V.b b0On, V.b b0Shut, V.b b0Eof, V.i IntKind.i64 x0Place, V.i IntKind.i64 x0Clock, V.s s0Typed, V.ts cs0Lines n0Lines none, V.s s0Fly, V.ts cs0Ages n0Ages none, V.s s0Ready, V.s s0Buffer], V.lb [V.b b1On, V.b b1Shut, V.b b1Eof, V.i IntKind.i64 x1Place, V.i IntKind.i64 x1Clock, V.s s1Typed, V.ts cs1Lines n1Lines none, V.s s1Fly, V.ts cs1Ages n1Ages none, V.s s1Ready, V.s s1Buffer], V.i IntKind.i64 x5]), [], h⟩ (VQ [2, 3, 4, 5] K)) =
  (If (ltI x5 (↑n0Lines : Int))
  (((0 : Int) ≤ x5 ∧ x5 < (↑n0Lines : Int)) ∧
 ∃ (s : List UInt8),
 takeX 1 (List.drop (x5.toNat * (1 : Nat)) cs0Lines) = some [V.s s] ∧
 ((0 : Int) ≤ x5 ∧ x5 < (↑n1Lines : Int)) ∧
 ∃ (s_1 : List UInt8),
 takeX 1 (List.drop (x5.toNat * (1 : Nat)) cs1Lines) = some [V.s s_1] ∧
 If (!s == s_1)
 (K Out.ret 122
 [V.lb
 [V.b b0On, V.b b0Shut, V.b b0Eof, V.i IntKind.i64 x0Place, V.i IntKind.i64 x0Clock, V.s s0Typed,
 V.ts cs0Lines n0Lines none, V.s s0Fly, V.ts cs0Ages n0Ages none, V.s s0Ready, V.s s0Buffer],
 V.lb
 [V.b b1On, V.b b1Shut, V.b b1Eof, V.i IntKind.i64 x1Place, V.i IntKind.i64 x1Clock, V.s s1Typed,
 V.ts cs1Lines n1Lines none, V.s s1Fly, V.ts cs1Ages n1Ages none, V.s s1Ready, V.s s1Buffer],
 V.b false, V.i IntKind.i64 x5]
 h)
 (K Out.normal 122
 [V.lb
 [V.b b0On, V.b b0Shut, V.b b0Eof, V.i IntKind.i64 x0Place, V.i IntKind.i64 x0Clock, V.s s0Typed,
 V.ts cs0Lines n0Lines none, V.s s0Fly, V.ts cs0Ages n0Ages none, V.s s0Ready, V.s s0Buffer],
 V.lb
 [V.b b1On, V.b b1Shut, V.b b1Eof, V.i IntKind.i64 x1Place, V.i IntKind.i64 x1Clock, V.s s1Typed,
 V.ts cs1Lines n1Lines none, V.s s1Fly, V.ts cs1Ages n1Ages none, V.s s1Ready, V.s s1Buffer],
 V.undef, V.i IntKind.i64 (IntKind.i64.wrap (x5 + (1 : Int)))]
 h))
  (K (Out.exit 0) 122
 [V.lb
 [V.b b0On, V.b b0Shut, V.b b0Eof, V.i IntKind.i64 x0Place, V.i IntKind.i64 x0Clock, V.s s0Typed,
 V.ts cs0Lines n0Lines none, V.s s0Fly, V.ts cs0Ages n0Ages none, V.s s0Ready, V.s s0Buffer],
 V.lb
 [V.b b1On, V.b b1Shut, V.b b1Eof, V.i IntKind.i64 x1Place, V.i IntKind.i64 x1Clock, V.s s1Typed,
 V.ts cs1Lines n1Lines none, V.s s1Fly, V.ts cs1Ages n1Ages none, V.s s1Ready, V.s s1Buffer],
 V.undef, V.i IntKind.i64 x5]
 h)) := by kernel_rfl
theorem f38_2 (b0On : Bool) (b0Shut : Bool) (b0Eof : Bool) (x0Place : Int) (x0Clock : Int) (cs0Lines : List V) (n0Lines : Nat) (cs0Ages : List V) (n0Ages : Nat) (b1On : Bool) (b1Shut : Bool) (b1Eof : Bool) (x1Place : Int) (x1Clock : Int) (cs1Lines : List V) (n1Lines : Nat) (cs1Ages : List V) (n1Ages : Nat) (s2_5 : List UInt8) (s2_7 : List UInt8) (s2_9 : List UInt8) (s2_10 : List UInt8) (s3_5 : List UInt8) (s3_7 : List UInt8) (s3_9 : List UInt8) (s3_10 : List UInt8) (h : Heap) (K : Out → Nat → List V → Heap → Prop) : (codeP Try.Y (Try.Y.loc 38) 100 (pre ((post (flat (bodyOf Try.f38))).drop 1)) ⟨mk 122 (([2, 3] : List Nat).zip [V.lb [V.b b0On, V.b b0Shut, V.b b0Eof, V.i IntKind.i64 x0Place, V.i IntKind.i64 x0Clock, V.s s2_5, V.ts cs0Lines n0Lines none, V.s s2_7, V.ts cs0Ages n0Ages none, V.s s2_9, V.s s2_10], V.lb [V.b b1On, V.b b1Shut, V.b b1Eof, V.i IntKind.i64 x1Place, V.i IntKind.i64 x1Clock, V.s s3_5, V.ts cs1Lines n1Lines none, V.s s3_7, V.ts cs1Ages n1Ages none, V.s s3_9, V.s s3_10]]), [], h⟩ (VQ [2, 3, 6] K)) =
  (K Out.normal 122
  [V.lb
 [V.b b0On, V.b b0Shut, V.b b0Eof, V.i IntKind.i64 x0Place, V.i IntKind.i64 x0Clock, V.s s2_5,
 V.ts cs0Lines n0Lines none, V.s s2_7, V.ts cs0Ages n0Ages none, V.s s2_9, V.s s2_10],
 V.lb
 [V.b b1On, V.b b1Shut, V.b b1Eof, V.i IntKind.i64 x1Place, V.i IntKind.i64 x1Clock, V.s s3_5,
 V.ts cs1Lines n1Lines none, V.s s3_7, V.ts cs1Ages n1Ages none, V.s s3_9, V.s s3_10],
 V.i IntKind.i64 (0 : Int)]
  h) := by kernel_rfl
theorem f38_3 (b0On : Bool) (b0Shut : Bool) (b0Eof : Bool) (x0Place : Int) (x0Clock : Int) (cs0Lines : List V) (n0Lines : Nat) (cs0Ages : List V) (n0Ages : Nat) (b1On : Bool) (b1Shut : Bool) (b1Eof : Bool) (x1Place : Int) (x1Clock : Int) (cs1Lines : List V) (n1Lines : Nat) (cs1Ages : List V) (n1Ages : Nat) (s2_5z2 : List UInt8) (s2_7z2 : List UInt8) (s2_9z2 : List UInt8) (s2_10z2 : List UInt8) (s3_5z2 : List UInt8) (s3_7z2 : List UInt8) (s3_9z2 : List UInt8) (s3_10z2 : List UInt8) (x6 : Int) (h : Heap) (K : Out → Nat → List V → Heap → Prop) : (codeP Try.Y (Try.Y.loc 38) 100 ((flat (loopB (post ((post (flat (bodyOf Try.f38))).drop 1))))) ⟨mk 122 (([2, 3, 6] : List Nat).zip [V.lb [V.b b0On, V.b b0Shut, V.b b0Eof, V.i IntKind.i64 x0Place, V.i IntKind.i64 x0Clock, V.s s2_5z2, V.ts cs0Lines n0Lines none, V.s s2_7z2, V.ts cs0Ages n0Ages none, V.s s2_9z2, V.s s2_10z2], V.lb [V.b b1On, V.b b1Shut, V.b b1Eof, V.i IntKind.i64 x1Place, V.i IntKind.i64 x1Clock, V.s s3_5z2, V.ts cs1Lines n1Lines none, V.s s3_7z2, V.ts cs1Ages n1Ages none, V.s s3_9z2, V.s s3_10z2], V.i IntKind.i64 x6]), [], h⟩ (VQ [2, 3, 4, 6] K)) =
  (If (ltI x6 (↑n0Ages : Int))
  (((0 : Int) ≤ x6 ∧ x6 < (↑n0Ages : Int)) ∧
 ∃ (n : Int),
 takeX 1 (List.drop (x6.toNat * (1 : Nat)) cs0Ages) = some [V.i IntKind.i64 n] ∧
 ((0 : Int) ≤ x6 ∧ x6 < (↑n1Ages : Int)) ∧
 ∃ (n_1 : Int),
 takeX 1 (List.drop (x6.toNat * (1 : Nat)) cs1Ages) = some [V.i IntKind.i64 n_1] ∧
 If (n != n_1)
 (K Out.ret 122
 [V.lb
 [V.b b0On, V.b b0Shut, V.b b0Eof, V.i IntKind.i64 x0Place, V.i IntKind.i64 x0Clock, V.s s2_5z2,
 V.ts cs0Lines n0Lines none, V.s s2_7z2, V.ts cs0Ages n0Ages none, V.s s2_9z2, V.s s2_10z2],
 V.lb
 [V.b b1On, V.b b1Shut, V.b b1Eof, V.i IntKind.i64 x1Place, V.i IntKind.i64 x1Clock, V.s s3_5z2,
 V.ts cs1Lines n1Lines none, V.s s3_7z2, V.ts cs1Ages n1Ages none, V.s s3_9z2, V.s s3_10z2],
 V.b false, V.i IntKind.i64 x6]
 h)
 (K Out.normal 122
 [V.lb
 [V.b b0On, V.b b0Shut, V.b b0Eof, V.i IntKind.i64 x0Place, V.i IntKind.i64 x0Clock, V.s s2_5z2,
 V.ts cs0Lines n0Lines none, V.s s2_7z2, V.ts cs0Ages n0Ages none, V.s s2_9z2, V.s s2_10z2],
 V.lb
 [V.b b1On, V.b b1Shut, V.b b1Eof, V.i IntKind.i64 x1Place, V.i IntKind.i64 x1Clock, V.s s3_5z2,
 V.ts cs1Lines n1Lines none, V.s s3_7z2, V.ts cs1Ages n1Ages none, V.s s3_9z2, V.s s3_10z2],
 V.undef, V.i IntKind.i64 (IntKind.i64.wrap (x6 + (1 : Int)))]
 h))
  (K (Out.exit 2) 122
 [V.lb
 [V.b b0On, V.b b0Shut, V.b b0Eof, V.i IntKind.i64 x0Place, V.i IntKind.i64 x0Clock, V.s s2_5z2,
 V.ts cs0Lines n0Lines none, V.s s2_7z2, V.ts cs0Ages n0Ages none, V.s s2_9z2, V.s s2_10z2],
 V.lb
 [V.b b1On, V.b b1Shut, V.b b1Eof, V.i IntKind.i64 x1Place, V.i IntKind.i64 x1Clock, V.s s3_5z2,
 V.ts cs1Lines n1Lines none, V.s s3_7z2, V.ts cs1Ages n1Ages none, V.s s3_9z2, V.s s3_10z2],
 V.undef, V.i IntKind.i64 x6]
 h)) := by kernel_rfl
theorem f38_4  (h : Heap) (K : Out → Nat → List V → Heap → Prop) : (codeP Try.Y (Try.Y.loc 38) 100 (((post ((post (flat (bodyOf Try.f38))).drop 1)).drop 1)) ⟨mk 122 (([] : List Nat).zip []), [], h⟩ (VQ [4] K)) =
  (K Out.ret 122 [V.b true] h) := by kernel_rfl
theorem f57_0 (cs0 : List V) (n0 : Nat) (v1 : V) (h : Heap) (K : Out → Nat → List V → Heap → Prop) : (codeP Try.Y (Try.Y.loc 57) 100 ((flat (bodyOf Try.f57))) ⟨(V.ts cs0 n0 none :: v1 :: List.replicate 7 .undef), [], h⟩ (VQ [4] K)) =
  (Con Try.Y (101 : Nat)
  [V.ts cs0 n0 none,
 ev
 ((((V.ts cs0 n0 none :: v1 :: List.replicate (7 : Nat) V.undef).set (4 : Nat)
 (ev (V.ts cs0 n0 none :: v1 :: List.replicate (7 : Nat) V.undef)
 (Operand.const (Value.bool false)))).set
 (5 : Nat)
 (ev
 ((V.ts cs0 n0 none :: v1 :: List.replicate (7 : Nat) V.undef).set (4 : Nat)
 (ev (V.ts cs0 n0 none :: v1 :: List.replicate (7 : Nat) V.undef) (Operand.const (Value.bool false))))
 (Operand.tmp (0 : Nat)))).set
 (6 : Nat)
 (ev
 (((V.ts cs0 n0 none :: v1 :: List.replicate (7 : Nat) V.undef).set (4 : Nat)
 (ev (V.ts cs0 n0 none :: v1 :: List.replicate (7 : Nat) V.undef)
 (Operand.const (Value.bool false)))).set
 (5 : Nat)
 (ev
 ((V.ts cs0 n0 none :: v1 :: List.replicate (7 : Nat) V.undef).set (4 : Nat)
 (ev (V.ts cs0 n0 none :: v1 :: List.replicate (7 : Nat) V.undef) (Operand.const (Value.bool false))))
 (Operand.tmp (0 : Nat))))
 (Operand.tmp (1 : Nat))))
 (Operand.tmp (6 : Nat))]
  h fun (v : V) (h' : Heap) => ∃ (n : Int), v = V.i IntKind.i64 n ∧ K Out.ret 9 [V.b (leI (0 : Int) n)] h') := by kernel_rfl
theorem f101_0 (cs0 : List V) (n0 : Nat) (v1 : V) (h : Heap) (K : Out → Nat → List V → Heap → Prop) : (codeP Try.Y (Try.Y.loc 101) 100 (pre (flat (bodyOf Try.f101))) ⟨(V.ts cs0 n0 none :: v1 :: List.replicate 17 .undef), [], h⟩ (VQ [0, 1, 7, 8] K)) =
  (K Out.normal 19 [V.ts cs0 n0 none, v1, V.i IntKind.i64 (↑n0 : Int), V.i IntKind.i64 (0 : Int)] h) := by kernel_rfl
theorem f102_0 (cs0 : List V) (n0 : Nat) (cs1 : List V) (n1 : Nat) (h : Heap) (K : Out → Nat → List V → Heap → Prop) : (codeP Try.Y (Try.Y.loc 102) 100 (pre (flat (bodyOf Try.f102))) ⟨(V.ts cs0 n0 none :: V.ts cs1 n1 none :: List.replicate 24 .undef), [], h⟩ (VQ [0, 1, 4, 12, 13] K)) =
  (If ((↑n0 : Int) != (↑n1 : Int))
  (K Out.ret 26 [V.ts cs0 n0 none, V.ts cs1 n1 none, V.b false, V.undef, V.undef] h)
  (K Out.normal 26
 [V.ts cs0 n0 none, V.ts cs1 n1 none, V.b false, V.i IntKind.i64 (↑n0 : Int), V.i IntKind.i64 (0 : Int)] h)) := by kernel_rfl
theorem f102_1 (cs0 : List V) (n0 : Nat) (cs1 : List V) (n1 : Nat) (x13 : Int) (h : Heap) (K : Out → Nat → List V → Heap → Prop) : (codeP Try.Y (Try.Y.loc 102) 100 ((flat (loopB (post (flat (bodyOf Try.f102)))))) ⟨mk 26 (([0, 1, 12, 13] : List Nat).zip [V.ts cs0 n0 none, V.ts cs1 n1 none, V.i IntKind.i64 (↑n0 : Int), V.i IntKind.i64 x13]), [], h⟩ (VQ [0, 1, 4, 12, 13] K)) =
  (If (ltI x13 (↑n0 : Int))
  (((0 : Int) ≤ x13 ∧ x13 < (↑n0 : Int)) ∧
 ∃ (s : List UInt8),
 takeX 1 (List.drop (x13.toNat * (1 : Nat)) cs0) = some [V.s s] ∧
 ((0 : Int) ≤ x13 ∧ x13 < (↑n1 : Int)) ∧
 ∃ (s_1 : List UInt8),
 takeX 1 (List.drop (x13.toNat * (1 : Nat)) cs1) = some [V.s s_1] ∧
 If (!s == s_1)
 (K Out.ret 26
 [V.ts cs0 n0 none, V.ts cs1 n1 none, V.b false, V.i IntKind.i64 (↑n0 : Int), V.i IntKind.i64 x13] h)
 (K Out.normal 26
 [V.ts cs0 n0 none, V.ts cs1 n1 none, V.undef, V.i IntKind.i64 (↑n0 : Int),
 V.i IntKind.i64 (IntKind.i64.wrap (x13 + (1 : Int)))]
 h))
  (K (Out.exit 0) 26
 [V.ts cs0 n0 none, V.ts cs1 n1 none, V.undef, V.i IntKind.i64 (↑n0 : Int), V.i IntKind.i64 x13] h)) := by kernel_rfl
theorem f102_2  (h : Heap) (K : Out → Nat → List V → Heap → Prop) : (codeP Try.Y (Try.Y.loc 102) 100 (((post (flat (bodyOf Try.f102))).drop 1)) ⟨mk 26 (([] : List Nat).zip []), [], h⟩ (VQ [4] K)) =
  (K Out.ret 26 [V.b true] h) := by kernel_rfl
theorem f103_0 (cs0 : List V) (n0 : Nat) (cs1 : List V) (n1 : Nat) (h : Heap) (K : Out → Nat → List V → Heap → Prop) : (codeP Try.Y (Try.Y.loc 103) 100 (pre (flat (bodyOf Try.f103))) ⟨(V.ts cs0 n0 none :: V.ts cs1 n1 none :: List.replicate 24 .undef), [], h⟩ (VQ [0, 1, 4, 12, 13] K)) =
  (If ((↑n0 : Int) != (↑n1 : Int))
  (K Out.ret 26 [V.ts cs0 n0 none, V.ts cs1 n1 none, V.b false, V.undef, V.undef] h)
  (K Out.normal 26
 [V.ts cs0 n0 none, V.ts cs1 n1 none, V.b false, V.i IntKind.i64 (↑n0 : Int), V.i IntKind.i64 (0 : Int)] h)) := by kernel_rfl
theorem f103_1 (cs0 : List V) (n0 : Nat) (cs1 : List V) (n1 : Nat) (x13 : Int) (h : Heap) (K : Out → Nat → List V → Heap → Prop) : (codeP Try.Y (Try.Y.loc 103) 100 ((flat (loopB (post (flat (bodyOf Try.f103)))))) ⟨mk 26 (([0, 1, 12, 13] : List Nat).zip [V.ts cs0 n0 none, V.ts cs1 n1 none, V.i IntKind.i64 (↑n0 : Int), V.i IntKind.i64 x13]), [], h⟩ (VQ [0, 1, 4, 12, 13] K)) =
  (If (ltI x13 (↑n0 : Int))
  (((0 : Int) ≤ x13 ∧ x13 < (↑n0 : Int)) ∧
 ∃ (n : Int),
 takeX 1 (List.drop (x13.toNat * (1 : Nat)) cs0) = some [V.i IntKind.i64 n] ∧
 ((0 : Int) ≤ x13 ∧ x13 < (↑n1 : Int)) ∧
 ∃ (n_1 : Int),
 takeX 1 (List.drop (x13.toNat * (1 : Nat)) cs1) = some [V.i IntKind.i64 n_1] ∧
 If (n != n_1)
 (K Out.ret 26
 [V.ts cs0 n0 none, V.ts cs1 n1 none, V.b false, V.i IntKind.i64 (↑n0 : Int), V.i IntKind.i64 x13] h)
 (K Out.normal 26
 [V.ts cs0 n0 none, V.ts cs1 n1 none, V.undef, V.i IntKind.i64 (↑n0 : Int),
 V.i IntKind.i64 (IntKind.i64.wrap (x13 + (1 : Int)))]
 h))
  (K (Out.exit 0) 26
 [V.ts cs0 n0 none, V.ts cs1 n1 none, V.undef, V.i IntKind.i64 (↑n0 : Int), V.i IntKind.i64 x13] h)) := by kernel_rfl
theorem f103_2  (h : Heap) (K : Out → Nat → List V → Heap → Prop) : (codeP Try.Y (Try.Y.loc 103) 100 (((post (flat (bodyOf Try.f103))).drop 1)) ⟨mk 26 (([] : List Nat).zip []), [], h⟩ (VQ [4] K)) =
  (K Out.ret 26 [V.b true] h) := by kernel_rfl
theorem f56_0 (s0 : List UInt8) (h : Heap) (K : Out → Nat → List V → Heap → Prop) : (codeP Try.Y (Try.Y.loc 56) 100 ((flat (bodyOf Try.f56))) ⟨(V.s s0 :: List.replicate 10 .undef), [], h⟩ (VQ [2] K)) =
  (If (leI (↑s0.length : Int) (16 : Int))
  (∃ (n : Int),
 (PCon Try.Y (100 : Nat) [V.s s0, V.i IntKind.u8 (10 : Int)] fun (v : V) => v = V.i IntKind.i64 n) ∧
 K Out.ret 11 [V.b (ltI n (0 : Int))] h)
  (K Out.ret 11 [V.b false] h)) := by kernel_rfl
theorem f58_0 (s0 : List UInt8) (h : Heap) (K : Out → Nat → List V → Heap → Prop) : (codeP Try.Y (Try.Y.loc 58) 100 ((flat (bodyOf Try.f58))) ⟨(V.s s0 :: List.replicate 5 .undef), [], h⟩ (VQ [2] K)) =
  (∃ (b : Bool), (PCon Try.Y (56 : Nat) [V.s s0] fun (v : V) => v = V.b b) ∧ K Out.ret 6 [V.b !b] h) := by kernel_rfl
theorem f59_0 (b0On : Bool) (b0Shut : Bool) (b0Eof : Bool) (x0Place : Int) (x0Clock : Int) (s0Typed : List UInt8) (cs0Lines : List V) (n0Lines : Nat) (s0Fly : List UInt8) (cs0Ages : List V) (n0Ages : Nat) (s0Ready : List UInt8) (s0Buffer : List UInt8) (h : Heap) (K : Out → Nat → List V → Heap → Prop) : (codeP Try.Y (Try.Y.loc 59) 100 (pre (flat (bodyOf Try.f59))) ⟨(V.agg [V.b b0On, V.b b0Shut, V.b b0Eof, V.i IntKind.i64 x0Place, V.i IntKind.i64 x0Clock, V.s s0Typed, V.ts cs0Lines n0Lines none, V.s s0Fly, V.ts cs0Ages n0Ages none, V.s s0Ready, V.s s0Buffer] :: List.replicate 36 .undef), [], h⟩ (VQ [1, 2, 5, 13, 14, 15] K)) =
  (If ((↑n0Ages : Int) != (↑s0Fly.length : Int))
  (K Out.ret 37
 [V.lb
 [V.b b0On, V.b b0Shut, V.b b0Eof, V.i IntKind.i64 x0Place, V.i IntKind.i64 x0Clock, V.s s0Typed,
 V.ts cs0Lines n0Lines none, V.s s0Fly, V.ts cs0Ages n0Ages none, V.s s0Ready, V.s s0Buffer],
 V.b false, V.rf, V.undef, V.undef, V.undef]
 h)
  (K Out.normal 37
 [V.lb
 [V.b b0On, V.b b0Shut, V.b b0Eof, V.i IntKind.i64 x0Place, V.i IntKind.i64 x0Clock, V.s s0Typed,
 V.ts cs0Lines n0Lines none, V.s s0Fly, V.ts cs0Ages n0Ages none, V.s s0Ready, V.s s0Buffer],
 V.b false, V.rf, V.ts cs0Ages n0Ages none, V.i IntKind.i64 (↑n0Ages : Int), V.i IntKind.i64 (0 : Int)]
 h)) := by kernel_rfl
theorem f59_1 (b0On : Bool) (b0Shut : Bool) (b0Eof : Bool) (x0Place : Int) (x0Clock : Int) (s0Typed : List UInt8) (cs0Lines : List V) (n0Lines : Nat) (s0Fly : List UInt8) (cs0Ages : List V) (n0Ages : Nat) (s0Ready : List UInt8) (s0Buffer : List UInt8) (x15 : Int) (h : Heap) (K : Out → Nat → List V → Heap → Prop) : (codeP Try.Y (Try.Y.loc 59) 100 ((flat (loopB (post (flat (bodyOf Try.f59)))))) ⟨mk 37 (([1, 2, 5, 13, 14, 15] : List Nat).zip [V.lb [V.b b0On, V.b b0Shut, V.b b0Eof, V.i IntKind.i64 x0Place, V.i IntKind.i64 x0Clock, V.s s0Typed, V.ts cs0Lines n0Lines none, V.s s0Fly, V.ts cs0Ages n0Ages none, V.s s0Ready, V.s s0Buffer], V.b false, V.rf, V.ts cs0Ages n0Ages none, V.i IntKind.i64 (↑n0Ages : Int), V.i IntKind.i64 x15]), [], h⟩ (VQ [1, 2, 5, 13, 14, 15] K)) =
  (If (ltI x15 (↑n0Ages : Int))
  (((0 : Int) ≤ x15 ∧ x15 < (↑n0Ages : Int)) ∧
 ∃ (n : Int),
 takeX 1 (List.drop (x15.toNat * (1 : Nat)) cs0Ages) = some [V.i IntKind.i64 n] ∧
 If (ltI n (0 : Int))
 (K Out.ret 37
 [V.lb
 [V.b b0On, V.b b0Shut, V.b b0Eof, V.i IntKind.i64 x0Place, V.i IntKind.i64 x0Clock, V.s s0Typed,
 V.ts cs0Lines n0Lines none, V.s s0Fly, V.ts cs0Ages n0Ages none, V.s s0Ready, V.s s0Buffer],
 V.b false, V.rf, V.ts cs0Ages n0Ages none, V.i IntKind.i64 (↑n0Ages : Int), V.i IntKind.i64 x15]
 h)
 (If (ltI (0 : Int) x15)
 (((0 : Int) ≤ IntKind.i64.wrap (x15 - (1 : Int)) ∧ IntKind.i64.wrap (x15 - (1 : Int)) < (↑n0Ages : Int)) ∧
 ∃ (n_1 : Int),
 takeX 1 (List.drop ((IntKind.i64.wrap (x15 - (1 : Int))).toNat * (1 : Nat)) cs0Ages) =
 some [V.i IntKind.i64 n_1] ∧
 If (ltI n_1 n)
 (K Out.ret 37
 [V.lb
 [V.b b0On, V.b b0Shut, V.b b0Eof, V.i IntKind.i64 x0Place, V.i IntKind.i64 x0Clock,
 V.s s0Typed, V.ts cs0Lines n0Lines none, V.s s0Fly, V.ts cs0Ages n0Ages none, V.s s0Ready,
 V.s s0Buffer],
 V.b false, V.rf, V.ts cs0Ages n0Ages none, V.i IntKind.i64 (↑n0Ages : Int), V.i IntKind.i64 x15]
 h)
 (K Out.normal 37
 [V.lb
 [V.b b0On, V.b b0Shut, V.b b0Eof, V.i IntKind.i64 x0Place, V.i IntKind.i64 x0Clock,
 V.s s0Typed, V.ts cs0Lines n0Lines none, V.s s0Fly, V.ts cs0Ages n0Ages none, V.s s0Ready,
 V.s s0Buffer],
 V.b false, V.rf, V.ts cs0Ages n0Ages none, V.i IntKind.i64 (↑n0Ages : Int),
 V.i IntKind.i64 (IntKind.i64.wrap (x15 + (1 : Int)))]
 h))
 (K Out.normal 37
 [V.lb
 [V.b b0On, V.b b0Shut, V.b b0Eof, V.i IntKind.i64 x0Place, V.i IntKind.i64 x0Clock, V.s s0Typed,
 V.ts cs0Lines n0Lines none, V.s s0Fly, V.ts cs0Ages n0Ages none, V.s s0Ready, V.s s0Buffer],
 V.b false, V.rf, V.ts cs0Ages n0Ages none, V.i IntKind.i64 (↑n0Ages : Int),
 V.i IntKind.i64 (IntKind.i64.wrap (x15 + (1 : Int)))]
 h)))
  (K (Out.exit 0) 37
 [V.lb
 [V.b b0On, V.b b0Shut, V.b b0Eof, V.i IntKind.i64 x0Place, V.i IntKind.i64 x0Clock, V.s s0Typed,
 V.ts cs0Lines n0Lines none, V.s s0Fly, V.ts cs0Ages n0Ages none, V.s s0Ready, V.s s0Buffer],
 V.b false, V.rf, V.ts cs0Ages n0Ages none, V.i IntKind.i64 (↑n0Ages : Int), V.i IntKind.i64 x15]
 h)) := by kernel_rfl
theorem f59_2  (h : Heap) (K : Out → Nat → List V → Heap → Prop) : (codeP Try.Y (Try.Y.loc 59) 100 (((post (flat (bodyOf Try.f59))).drop 1)) ⟨mk 37 (([] : List Nat).zip []), [], h⟩ (VQ [2] K)) =
  (K Out.ret 37 [V.b true] h) := by kernel_rfl
theorem f52_0 (b0On : Bool) (b0Shut : Bool) (b0Eof : Bool) (x0Place : Int) (x0Clock : Int) (s0Typed : List UInt8) (cs0Lines : List V) (n0Lines : Nat) (s0Fly : List UInt8) (cs0Ages : List V) (n0Ages : Nat) (s0Ready : List UInt8) (s0Buffer : List UInt8) (x1Cap : Int) (cs1Places : List V) (n1Places : Nat) (h : Heap) (K : Out → Nat → List V → Heap → Prop) : (codeP Try.Y (Try.Y.loc 52) 100 ((flat (bodyOf Try.f52))) ⟨(V.agg [V.b b0On, V.b b0Shut, V.b b0Eof, V.i IntKind.i64 x0Place, V.i IntKind.i64 x0Clock, V.s s0Typed, V.ts cs0Lines n0Lines none, V.s s0Fly, V.ts cs0Ages n0Ages none, V.s s0Ready, V.s s0Buffer] :: V.agg [V.i IntKind.i64 x1Cap, V.ts cs1Places n1Places none] :: List.replicate 13 .undef), [], h⟩ (VQ [4] K)) =
  (K Out.ret 15
  [V.i IntKind.i64 (IntKind.i64.wrap (IntKind.i64.wrap (x1Cap - (↑s0Fly.length : Int)) - (↑s0Ready.length : Int)))] h) := by kernel_rfl
theorem f57s_0 (cs0 : List V) (n0 : Nat) (h : Heap) (K : Out → Nat → List V → Heap → Prop) : (codeP Try.Y (Try.Y.loc 57) 100 ((flat (bodyOf Try.f57))) ⟨(V.ts cs0 n0 none :: V.fn (Fn.func 58) [] [] :: List.replicate 7 .undef), [], h⟩ (VQ [4] K)) =
  (Con Try.Y (101 : Nat) [V.ts cs0 n0 none, V.fn (Fn.func 58) [] []] h fun (v : V) (h' : Heap) =>
  ∃ (n : Int), v = V.i IntKind.i64 n ∧ K Out.ret 9 [V.b (leI (0 : Int) n)] h') := by kernel_rfl
theorem f101s_0 (cs0 : List V) (n0 : Nat) (h : Heap) (K : Out → Nat → List V → Heap → Prop) : (codeP Try.Y (Try.Y.loc 101) 100 (pre (flat (bodyOf Try.f101))) ⟨(V.ts cs0 n0 none :: V.fn (Fn.func 58) [] [] :: List.replicate 17 .undef), [], h⟩ (VQ [0, 1, 7, 8] K)) =
  (K Out.normal 19
  [V.ts cs0 n0 none, V.fn (Fn.func 58) [] [], V.i IntKind.i64 (↑n0 : Int), V.i IntKind.i64 (0 : Int)] h) := by kernel_rfl
theorem f101s_1 (cs0 : List V) (n0 : Nat) (x8 : Int) (h : Heap) (K : Out → Nat → List V → Heap → Prop) : (codeP Try.Y (Try.Y.loc 101) 100 ((flat (loopB (post (flat (bodyOf Try.f101)))))) ⟨mk 19 (([0, 1, 7, 8] : List Nat).zip [V.ts cs0 n0 none, V.fn (Fn.func 58) [] [], V.i IntKind.i64 (↑n0 : Int), V.i IntKind.i64 x8]), [], h⟩ (VQ [0, 1, 4, 7, 8] K)) =
  (If (ltI x8 (↑n0 : Int))
  (((0 : Int) ≤ x8 ∧ x8 < (↑n0 : Int)) ∧
 ∃ (s : List UInt8),
 takeX 1 (List.drop (x8.toNat * (1 : Nat)) cs0) = some [V.s s] ∧
 ∃ (b : Bool),
 (PCon Try.Y 58 [V.s s] fun (v : V) => v = V.b b) ∧
 If b
 (K Out.ret 19
 [V.ts cs0 n0 none, V.fn (Fn.func 58) [] [], V.i IntKind.i64 x8, V.i IntKind.i64 (↑n0 : Int),
 V.i IntKind.i64 x8]
 h)
 (K Out.normal 19
 [V.ts cs0 n0 none, V.fn (Fn.func 58) [] [], V.undef, V.i IntKind.i64 (↑n0 : Int),
 V.i IntKind.i64 (IntKind.i64.wrap (x8 + (1 : Int)))]
 h))
  (K (Out.exit 0) 19
 [V.ts cs0 n0 none, V.fn (Fn.func 58) [] [], V.undef, V.i IntKind.i64 (↑n0 : Int), V.i IntKind.i64 x8] h)) := by kernel_rfl
theorem f101s_2  (h : Heap) (K : Out → Nat → List V → Heap → Prop) : (codeP Try.Y (Try.Y.loc 101) 100 (((post (flat (bodyOf Try.f101))).drop 1)) ⟨mk 19 (([] : List Nat).zip []), [], h⟩ (VQ [4] K)) =
  (K Out.ret 19 [V.i IntKind.i64 (-1 : Int)] h) := by kernel_rfl
end Go.Y
