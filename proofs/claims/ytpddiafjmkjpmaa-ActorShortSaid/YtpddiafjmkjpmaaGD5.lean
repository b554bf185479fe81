/- What the pieces of functions come to: printed by program. -/
import Derived.Test.YtpddiafjmkjpmaaYTryP
import Derived.Test.YtpddiafjmkjpmaaYLoop
namespace Go.Y
open Go.Proofs
set_option maxRecDepth 100000
set_option maxHeartbeats 0
theorem f108_0 (id : Nat) (s1 : List UInt8) (h : Heap) (K : Out → Nat → List V → Heap → Prop) : (codeP Try.Y (Try.Y.loc 108) 100 ((flat (bodyOf Try.f108))) ⟨(V.p (some (id, 0)) :: V.s s1 :: List.replicate 31 .undef), [], h⟩ (VQ [] K)) =
  (∃ (cs : List V),
  ∃ (l : Nat),
 ∃ (c : Option Nat),
 hcells h id 12 1 = some [V.ts cs l c] ∧
 ∃ (n : Int),
 hcells h id 3 1 = some [V.i IntKind.i64 n] ∧
 ((0 : Int) ≤ n ∧ n < (↑l : Int)) ∧
 ∃ (b : Bool),
 takeX 1 (List.drop (1 : Nat) (List.drop (n.toNat * (3 : Nat)) cs)) = some [V.b b] ∧
 If b
 (∃ (b : Bool),
 ∃ (b_1 : Bool),
 ∃ (b_2 : Bool),
 ∃ (n : Int),
 ∃ (n_1 : Int),
 ∃ (s : List UInt8),
 ∃ (cs : List V),
 ∃ (l : Nat),
 ∃ (c : Option Nat),
 ∃ (s_1 : List UInt8),
 ∃ (cs_1 : List V),
 ∃ (l_1 : Nat),
 ∃ (c_1 : Option Nat),
 ∃ (s_2 : List UInt8),
 ∃ (s_3 : List UInt8),
 hcells h id 0 11 =
 some
 [V.b b, V.b b_1, V.b b_2, V.i IntKind.i64 n,
 V.i IntKind.i64 n_1, V.s s, V.ts cs l c, V.s s_1,
 V.ts cs_1 l_1 c_1, V.s s_2, V.s s_3] ∧
 ∃ (n_2 : Int),
 ∃ (cs_2 : List V),
 ∃ (l_2 : Nat),
 ∃ (c_2 : Option Nat),
 hcells h id 11 2 =
 some [V.i IntKind.i64 n_2, V.ts cs_2 l_2 c_2] ∧
 ∃ (b_3 : Bool),
 ∃ (b_4 : Bool),
 ∃ (b_5 : Bool),
 ∃ (n_3 : Int),
 ∃ (n_4 : Int),
 ∃ (s_4 : List UInt8),
 ∃ (cs_3 : List V),
 ∃ (l_3 : Nat),
 ∃ (c_3 : Option Nat),
 ∃ (s_5 : List UInt8),
 ∃ (cs_4 : List V),
 ∃ (l_4 : Nat),
 ∃ (c_4 : Option Nat),
 ∃ (s_6 : List UInt8),
 ∃ (s_7 : List UInt8),
 ∃ (b_6 : Bool),
 (PCon Try.Y (22 : Nat)
 [V.agg
 [V.b b, V.b b_1,
 V.b b_2,
 V.i IntKind.i64
 n,
 V.i IntKind.i64
 n_1,
 V.s s,
 V.ts cs l c,
 V.s s_1,
 V.ts cs_1 l_1
 c_1,
 V.s s_2,
 V.s s_3],
 V.agg
 [V.i IntKind.i64
 n_2,
 V.ts cs_2 l_2
 c_2],
 V.s s1]
 fun (v : V) =>
 v =
 V.tup
 [V.agg
 [V.b b_3,
 V.b b_4,
 V.b b_5,
 V.i
 IntKind.i64
 n_3,
 V.i
 IntKind.i64
 n_4,
 V.s s_4,
 V.ts cs_3
 l_3 c_3,
 V.s s_5,
 V.ts cs_4
 l_4 c_4,
 V.s s_6,
 V.s s_7],
 V.b b_6]) ∧
 ∃ (h_1 : Heap),
 hstore h id
 0
 [V.b b_3,
 V.b b_4,
 V.b b_5,
 V.i
 IntKind.i64
 n_3,
 V.i
 IntKind.i64
 n_4,
 V.s s_4,
 V.ts cs_3 l_3
 c_3,
 V.s s_5,
 V.ts cs_4 l_4
 c_4,
 V.s s_6,
 V.s s_7] =
 some h_1 ∧
 K Out.normal
 33 []
 h_1)
 (K Out.normal 33 [] h)) := by kernel_rfl
theorem f77_0 (x1 : Int) (t : Tr) (k : Nat) (lo : Nat) (tg : List (Nat × TypeId)) (K : Out → Nat → List V → Heap → Prop) : (codeP Try.Y (Try.Y.loc 77) 100 ((flat (bodyOf Try.f77))) ⟨(V.p (some (0, 0)) :: V.i IntKind.u8 x1 :: List.replicate 66 .undef), [], ⟨t, k + 1, lo, tg⟩⟩ (VQ [4] K)) =
  (If (x1 == (10 : Int))
  (∃ (cs : List V),
 ∃ (l : Nat),
 ∃ (c : Option Nat),
 hcells (Heap.mk t (k + (1 : Nat)) lo tg) 0 6 1 =
 some [V.ts cs l c] ∧
 If (leI (2 : Int) (↑l : Int))
 (K Out.ret 68 [V.i IntKind.i64 (9 : Int)] (Heap.mk t (k + (1 : Nat)) lo tg))
 (If (x1 == (10 : Int))
 (∃ (cs : List V),
 ∃ (l : Nat),
 ∃ (c : Option Nat),
 hcells (Heap.mk t (k + (1 : Nat)) lo tg) 0 6 1 =
 some [V.ts cs l c] ∧
 ((∃ (a : Option (Nat × Nat)),
 ∃ (l_1 : Nat),
 ∃ (c_1 : Option Nat),
 ∃ (k_1 : Nat),
 ∃ (x : YObj),
 (Con Try.Y (79 : Nat) [V.ts cs l c]
 (Heap.mk t (k + (1 : Nat)) lo tg) fun (v : V) (h' : Heap) =>
 v = V.sl a l_1 c_1 k_1 ∧
 h' = (Heap.mk t (k + (1 : Nat)) lo tg).push x) ∧
 ∃ (s : List UInt8),
 hcells
 ((Heap.mk t (k + (1 : Nat)) lo tg).putAt (k + (1 : Nat))
 x)
 0 5 1 =
 some [V.s s] ∧
 ∃ (a_1 : Option (Nat × Nat)),
 ∃ (l : Nat),
 ∃ (c : Option Nat),
 ∃ (k_2 : Nat),
 ∃ (h : Heap),
 appendH Try.Y
 ((Heap.mk t (k + (1 : Nat)) lo tg).putAt
 (k + (1 : Nat)) x)
 34 34 (V.sl a l_1 c_1 k_1)
 (V.ts [V.s s] 1 (some 1)) =
 some (V.sl a_1 l c k_2, h) ∧
 ∃ (h_1 : Heap),
 hstore h 0 6 [V.sl a_1 l c k_2] = some h_1 ∧
 ∃ (h : Heap),
 hstore h_1 0 5 [V.s #[].toList] = some h ∧
 Con Try.Y (108 : Nat)
 [V.p (some (0, 0)),
 V.s #[(13 : UInt8), (10 : UInt8)].toList]
 h fun (v : V) (h' : Heap) =>
 v = V.tup [] ∧
 K Out.ret 68 [V.i IntKind.i64 (0 : Int)] h') ∨
 ∃ (cs_1 : List V),
 ∃ (l_1 : Nat),
 ∃ (c_1 : Option Nat),
 (PCon Try.Y (79 : Nat) [V.ts cs l c] fun (v : V) => v = V.ts cs_1 l_1 c_1) ∧
 ∃ (s : List UInt8),
 hcells (Heap.mk t (k + (1 : Nat)) lo tg) 0 5
 1 =
 some [V.s s] ∧
 ((∃ (a : Option (Nat × Nat)),
 ∃ (l : Nat),
 ∃ (c : Option Nat),
 ∃ (k_1 : Nat),
 ∃ (h : Heap),
 appendH Try.Y (Heap.mk t (k + (1 : Nat)) lo tg)
 34 34 (V.ts cs_1 l_1 c_1)
 (V.ts [V.s s] 1 (some 1)) =
 some (V.sl a l c k_1, h) ∧
 ∃ (h_1 : Heap),
 hstore h 0 6 [V.sl a l c k_1] = some h_1 ∧
 ∃ (h : Heap),
 hstore h_1 0 5 [V.s #[].toList] = some h ∧
 Con Try.Y (108 : Nat)
 [V.p (some (0, 0)),
 V.s #[(13 : UInt8), (10 : UInt8)].toList]
 h fun (v : V) (h' : Heap) =>
 v = V.tup [] ∧
 K Out.ret 68 [V.i IntKind.i64 (0 : Int)] h') ∨
 appendH Try.Y (Heap.mk t (k + (1 : Nat)) lo tg) 34
 34 (V.ts cs_1 l_1 c_1)
 (V.ts [V.s s] 1 (some 1)) =
 some
 (V.ts cs_1 l_1 c_1, (Heap.mk t (k + (1 : Nat)) lo tg)) ∧
 ∃ (h : Heap),
 hstore (Heap.mk t (k + (1 : Nat)) lo tg) 0
 6 [V.ts cs_1 l_1 c_1] =
 some h ∧
 ∃ (h_1 : Heap),
 hstore h 0 5 [V.s #[].toList] = some h_1 ∧
 Con Try.Y (108 : Nat)
 [V.p (some (0, 0)),
 V.s #[(13 : UInt8), (10 : UInt8)].toList]
 h_1 fun (v : V) (h' : Heap) =>
 v = V.tup [] ∧
 K Out.ret 68 [V.i IntKind.i64 (0 : Int)] h')))
 (∃ (s : List UInt8),
 hcells (Heap.mk t (k + (1 : Nat)) lo tg) 0 5 1 =
 some [V.s s] ∧
 If (ltI (↑s.length : Int) (16 : Int))
 (∃ (s : List UInt8),
 hcells (Heap.mk t (k + (1 : Nat)) lo tg) 0 5 1 =
 some [V.s s] ∧
 ∃ (l : List UInt8),
 some (Q.val (V.s ((fun (x : List UInt8) => UInt8.ofNat x1.toNat :: x) []))) =
 some (Q.val (V.s l)) ∧
 s.length + l.length ≤ 1152921504606846976 ∧
 ∃ (h : Heap),
 hstore (Heap.mk t (k + (1 : Nat)) lo tg) 0 5
 [V.s (s ++ l)] =
 some h ∧
 ∃ (l : List UInt8),
 some (Q.val (V.s ((fun (x : List UInt8) => UInt8.ofNat x1.toNat :: x) []))) =
 some (Q.val (V.s l)) ∧
 Con Try.Y (108 : Nat) [V.p (some (0, 0)), V.s l] h
 fun (v : V) (h' : Heap) =>
 v = V.tup [] ∧ K Out.ret 68 [V.i IntKind.i64 (0 : Int)] h')
 (K Out.ret 68 [V.i IntKind.i64 (0 : Int)]
 (Heap.mk t (k + (1 : Nat)) lo tg)))))
  (If (x1 == (10 : Int))
 (∃ (cs : List V),
 ∃ (l : Nat),
 ∃ (c : Option Nat),
 hcells (Heap.mk t (k + (1 : Nat)) lo tg) 0 6 1 =
 some [V.ts cs l c] ∧
 ((∃ (a : Option (Nat × Nat)),
 ∃ (l_1 : Nat),
 ∃ (c_1 : Option Nat),
 ∃ (k_1 : Nat),
 ∃ (x : YObj),
 (Con Try.Y (79 : Nat) [V.ts cs l c] (Heap.mk t (k + (1 : Nat)) lo tg)
 fun (v : V) (h' : Heap) =>
 v = V.sl a l_1 c_1 k_1 ∧ h' = (Heap.mk t (k + (1 : Nat)) lo tg).push x) ∧
 ∃ (s : List UInt8),
 hcells ((Heap.mk t (k + (1 : Nat)) lo tg).putAt (k + (1 : Nat)) x)
 0 5 1 =
 some [V.s s] ∧
 ∃ (a_1 : Option (Nat × Nat)),
 ∃ (l : Nat),
 ∃ (c : Option Nat),
 ∃ (k_2 : Nat),
 ∃ (h : Heap),
 appendH Try.Y
 ((Heap.mk t (k + (1 : Nat)) lo tg).putAt (k + (1 : Nat))
 x)
 34 34 (V.sl a l_1 c_1 k_1)
 (V.ts [V.s s] 1 (some 1)) =
 some (V.sl a_1 l c k_2, h) ∧
 ∃ (h_1 : Heap),
 hstore h 0 6 [V.sl a_1 l c k_2] = some h_1 ∧
 ∃ (h : Heap),
 hstore h_1 0 5 [V.s #[].toList] = some h ∧
 Con Try.Y (108 : Nat)
 [V.p (some (0, 0)),
 V.s #[(13 : UInt8), (10 : UInt8)].toList]
 h fun (v : V) (h' : Heap) =>
 v = V.tup [] ∧
 K Out.ret 68 [V.i IntKind.i64 (0 : Int)] h') ∨
 ∃ (cs_1 : List V),
 ∃ (l_1 : Nat),
 ∃ (c_1 : Option Nat),
 (PCon Try.Y (79 : Nat) [V.ts cs l c] fun (v : V) => v = V.ts cs_1 l_1 c_1) ∧
 ∃ (s : List UInt8),
 hcells (Heap.mk t (k + (1 : Nat)) lo tg) 0 5 1 =
 some [V.s s] ∧
 ((∃ (a : Option (Nat × Nat)),
 ∃ (l : Nat),
 ∃ (c : Option Nat),
 ∃ (k_1 : Nat),
 ∃ (h : Heap),
 appendH Try.Y (Heap.mk t (k + (1 : Nat)) lo tg) 34
 34 (V.ts cs_1 l_1 c_1)
 (V.ts [V.s s] 1 (some 1)) =
 some (V.sl a l c k_1, h) ∧
 ∃ (h_1 : Heap),
 hstore h 0 6 [V.sl a l c k_1] = some h_1 ∧
 ∃ (h : Heap),
 hstore h_1 0 5 [V.s #[].toList] = some h ∧
 Con Try.Y (108 : Nat)
 [V.p (some (0, 0)),
 V.s #[(13 : UInt8), (10 : UInt8)].toList]
 h fun (v : V) (h' : Heap) =>
 v = V.tup [] ∧
 K Out.ret 68 [V.i IntKind.i64 (0 : Int)] h') ∨
 appendH Try.Y (Heap.mk t (k + (1 : Nat)) lo tg) 34 34
 (V.ts cs_1 l_1 c_1) (V.ts [V.s s] 1 (some 1)) =
 some (V.ts cs_1 l_1 c_1, (Heap.mk t (k + (1 : Nat)) lo tg)) ∧
 ∃ (h : Heap),
 hstore (Heap.mk t (k + (1 : Nat)) lo tg) 0 6
 [V.ts cs_1 l_1 c_1] =
 some h ∧
 ∃ (h_1 : Heap),
 hstore h 0 5 [V.s #[].toList] = some h_1 ∧
 Con Try.Y (108 : Nat)
 [V.p (some (0, 0)), V.s #[(13 : UInt8), (10 : UInt8)].toList]
 h_1 fun (v : V) (h' : Heap) =>
 v = V.tup [] ∧ K Out.ret 68 [V.i IntKind.i64 (0 : Int)] h')))
 (∃ (s : List UInt8),
 hcells (Heap.mk t (k + (1 : Nat)) lo tg) 0 5 1 = some [V.s s] ∧
 If (ltI (↑s.length : Int) (16 : Int))
 (∃ (s : List UInt8),
 hcells (Heap.mk t (k + (1 : Nat)) lo tg) 0 5 1 =
 some [V.s s] ∧
 ∃ (l : List UInt8),
 some (Q.val (V.s ((fun (x : List UInt8) => UInt8.ofNat x1.toNat :: x) []))) = some (Q.val (V.s l)) ∧
 s.length + l.length ≤ 1152921504606846976 ∧
 ∃ (h : Heap),
 hstore (Heap.mk t (k + (1 : Nat)) lo tg) 0 5
 [V.s (s ++ l)] =
 some h ∧
 ∃ (l : List UInt8),
 some (Q.val (V.s ((fun (x : List UInt8) => UInt8.ofNat x1.toNat :: x) []))) =
 some (Q.val (V.s l)) ∧
 Con Try.Y (108 : Nat) [V.p (some (0, 0)), V.s l] h
 fun (v : V) (h' : Heap) =>
 v = V.tup [] ∧ K Out.ret 68 [V.i IntKind.i64 (0 : Int)] h')
 (K Out.ret 68 [V.i IntKind.i64 (0 : Int)] (Heap.mk t (k + (1 : Nat)) lo tg))))) := by kernel_rfl
theorem f33_0 (b0On : Bool) (b0Shut : Bool) (b0Eof : Bool) (x0Place : Int) (x0Clock : Int) (s0Typed : List UInt8) (cs0Lines : List V) (n0Lines : Nat) (s0Fly : List UInt8) (cs0Ages : List V) (n0Ages : Nat) (s0Ready : List UInt8) (s0Buffer : List UInt8) (x1Cap : Int) (cs1Places : List V) (n1Places : Nat) (s2 : List UInt8) (h : Heap) (K : Out → Nat → List V → Heap → Prop) : (codeP Try.Y (Try.Y.loc 33) 100 (pre (flat (bodyOf Try.f33))) ⟨(V.agg [V.b b0On, V.b b0Shut, V.b b0Eof, V.i IntKind.i64 x0Place, V.i IntKind.i64 x0Clock, V.s s0Typed, V.ts cs0Lines n0Lines none, V.s s0Fly, V.ts cs0Ages n0Ages none, V.s s0Ready, V.s s0Buffer] :: V.agg [V.i IntKind.i64 x1Cap, V.ts cs1Places n1Places none] :: V.s s2 :: List.replicate 46 .undef), [], h⟩ (VQ [2, 6, 7, 8, 31, 32] K)) =
  (∃ (b : Bool),
  (PCon Try.Y (23 : Nat)
 [V.agg
 [V.b b0On, V.b b0Shut, V.b b0Eof, V.i IntKind.i64 x0Place, V.i IntKind.i64 x0Clock, V.s s0Typed,
 V.ts cs0Lines n0Lines none, V.s s0Fly, V.ts cs0Ages n0Ages none, V.s s0Ready, V.s s0Buffer],
 V.agg [V.i IntKind.i64 x1Cap, V.ts cs1Places n1Places none]]
 fun (v : V) => v = V.b b) ∧
 If (!b)
 (K Out.ret 49
 [V.s s2,
 V.lb
 [V.b false, V.b false, V.b false, V.i IntKind.i64 (0 : Int), V.i IntKind.i64 (0 : Int), V.s [],
 V.sl none 0 (some 0) 0, V.s [],
 V.sl none 0 (some 0) 0, V.s [], V.s []],
 V.i IntKind.i64 (5 : Int), V.undef, V.undef, V.undef]
 h)
 (If (!b0On)
 (K Out.ret 49
 [V.s s2,
 V.lb
 [V.b false, V.b false, V.b false, V.i IntKind.i64 (0 : Int), V.i IntKind.i64 (0 : Int), V.s [],
 V.sl none 0 (some 0) 0, V.s [],
 V.sl none 0 (some 0) 0, V.s [], V.s []],
 V.i IntKind.i64 (11 : Int), V.undef, V.undef, V.undef]
 h)
 (If b0Shut
 (K Out.ret 49
 [V.s s2,
 V.lb
 [V.b false, V.b false, V.b false, V.i IntKind.i64 (0 : Int), V.i IntKind.i64 (0 : Int), V.s [],
 V.sl none 0 (some 0) 0, V.s [],
 V.sl none 0 (some 0) 0, V.s [], V.s []],
 V.i IntKind.i64 (13 : Int), V.undef, V.undef, V.undef]
 h)
 (K Out.normal 49
 [V.s s2,
 V.lb
 [V.b false, V.b false, V.b false, V.i IntKind.i64 (0 : Int), V.i IntKind.i64 (0 : Int), V.s [],
 V.sl none 0 (some 0) 0, V.s [],
 V.sl none 0 (some 0) 0, V.s [], V.s []],
 V.i IntKind.i64 (0 : Int), V.p (some (h.nx, 0)), V.i IntKind.i64 (↑s2.length : Int),
 V.i IntKind.i64 (0 : Int)]
 (h.push
 (YObj.arr
 [V.b b0On, V.b b0Shut, V.b b0Eof, V.i IntKind.i64 x0Place, V.i IntKind.i64 x0Clock, V.s s0Typed,
 V.ts cs0Lines n0Lines none, V.s s0Fly, V.ts cs0Ages n0Ages none, V.s s0Ready, V.s s0Buffer,
 V.i IntKind.i64 x1Cap, V.ts cs1Places n1Places none]
 true)))))) := by kernel_rfl
theorem f33_1 (s2 : List UInt8) (b6_0 : Bool) (b6_1 : Bool) (b6_2 : Bool) (id8 : Nat) (x32 : Int) (h : Heap) (K : Out → Nat → List V → Heap → Prop) : (codeP Try.Y (Try.Y.loc 33) 100 ((flat (loopB (post (flat (bodyOf Try.f33)))))) ⟨mk 49 (([2, 6, 8, 31, 32] : List Nat).zip [V.s s2, V.lb [V.b b6_0, V.b b6_1, V.b b6_2, V.i IntKind.i64 0, V.i IntKind.i64 0, V.s [], V.sl none 0 (some 0) 0, V.s [], V.sl none 0 (some 0) 0, V.s [], V.s []], V.p (some (id8, 0)), V.i IntKind.i64 (↑s2.length : Int), V.i IntKind.i64 x32]), [], h⟩ (VQ [2, 6, 7, 8, 31, 32] K)) =
  (If (ltI x32 (↑s2.length : Int))
  (∃ (c : UInt8),
 ((0 : Int) ≤ x32 ∧ s2[x32.toNat]? = some c) ∧
 Con Try.Y (77 : Nat) [V.p (some (id8, 0)), V.i IntKind.u8 (↑c.toNat : Int)] h fun (v : V) (h' : Heap) =>
 ∃ (n : Int),
 v = V.i IntKind.i64 n ∧
 If (n != (0 : Int))
 (K Out.ret 49
 [V.s s2,
 V.lb
 [V.b false, V.b false, V.b false, V.i IntKind.i64 (0 : Int), V.i IntKind.i64 (0 : Int), V.s [],
 V.sl none 0 (some 0) 0, V.s [],
 V.sl none 0 (some 0) 0, V.s [], V.s []],
 V.i IntKind.i64 n, V.p (some (id8, 0)), V.i IntKind.i64 (↑s2.length : Int),
 V.i IntKind.i64 x32]
 h')
 (K Out.normal 49
 [V.s s2,
 V.lb
 [V.b b6_0, V.b b6_1, V.b b6_2, V.i IntKind.i64 (0 : Int), V.i IntKind.i64 (0 : Int), V.s [],
 V.sl none 0 (some 0) 0, V.s [],
 V.sl none 0 (some 0) 0, V.s [], V.s []],
 V.undef, V.p (some (id8, 0)), V.i IntKind.i64 (↑s2.length : Int),
 V.i IntKind.i64 (IntKind.i64.wrap (x32 + (1 : Int)))]
 h'))
  (K (Out.exit 1) 49
 [V.s s2,
 V.lb
 [V.b b6_0, V.b b6_1, V.b b6_2, V.i IntKind.i64 (0 : Int), V.i IntKind.i64 (0 : Int), V.s [],
 V.sl none 0 (some 0) 0, V.s [],
 V.sl none 0 (some 0) 0, V.s [], V.s []],
 V.undef, V.p (some (id8, 0)), V.i IntKind.i64 (↑s2.length : Int), V.i IntKind.i64 x32]
 h)) := by kernel_rfl
theorem f33_2 (id8 : Nat) (b6_0z2 : Bool) (b6_1z2 : Bool) (b6_2z2 : Bool) (h : Heap) (K : Out → Nat → List V → Heap → Prop) : (codeP Try.Y (Try.Y.loc 33) 100 (((post (flat (bodyOf Try.f33))).drop 1)) ⟨mk 49 (([6, 8] : List Nat).zip [V.lb [V.b b6_0z2, V.b b6_1z2, V.b b6_2z2, V.i IntKind.i64 0, V.i IntKind.i64 0, V.s [], V.sl none 0 (some 0) 0, V.s [], V.sl none 0 (some 0) 0, V.s [], V.s []], V.p (some (id8, 0))]), [], h⟩ (VQ [6, 7] K)) =
  (∃ (b : Bool),
  ∃ (b_1 : Bool),
 ∃ (b_2 : Bool),
 ∃ (n : Int),
 ∃ (n_1 : Int),
 ∃ (s : List UInt8),
 ∃ (cs : List V),
 ∃ (l : Nat),
 ∃ (c : Option Nat),
 ∃ (s_1 : List UInt8),
 ∃ (cs_1 : List V),
 ∃ (l_1 : Nat),
 ∃ (c_1 : Option Nat),
 ∃ (s_2 : List UInt8),
 ∃ (s_3 : List UInt8),
 hcells h id8 0 11 =
 some
 [V.b b, V.b b_1, V.b b_2, V.i IntKind.i64 n, V.i IntKind.i64 n_1, V.s s,
 V.ts cs l c, V.s s_1, V.ts cs_1 l_1 c_1, V.s s_2, V.s s_3] ∧
 K Out.ret 49
 [V.lb
 [V.b b, V.b b_1, V.b b_2, V.i IntKind.i64 n, V.i IntKind.i64 n_1, V.s s,
 V.ts cs l c, V.s s_1, V.ts cs_1 l_1 c_1, V.s s_2, V.s s_3],
 V.i IntKind.i64 (0 : Int)]
 h) := by kernel_rfl
end Go.Y
