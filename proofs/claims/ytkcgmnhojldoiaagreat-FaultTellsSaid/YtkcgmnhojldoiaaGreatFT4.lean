/- What the pieces of functions come to: printed by program. -/
import Derived.Test.YtkcgmnhojldoiaaGreatYTryzP
import Derived.Test.YtkcgmnhojldoiaaGreatYLoop
namespace Go.Y
open Go.Proofs
set_option maxRecDepth 1000000
set_option maxHeartbeats 0
theorem ZDh (d : List V) (e : Nat) (f : List V) (g : Nat) (j : List V) (m : Nat) (o p q : Int) (r : List V) (t : Nat) (u w x y z A B C D E : List UInt8) (F : List V) (G : Nat) (a H I J L : Int) (M : List V) (N : Nat) (O : List V) (P : Nat) (Q : List V) (R : Nat) (h : Heap) (K : KT) : (Zc UY (UY.loc 39) 100 ((flat (Za Tryz.f39))) ⟨(V.agg (vMD d e f g j m o p) :: V.agg (vCF q r t u w x y z A B C D E F G a H I J L M N O P Q R) :: List.replicate 39 .undef), [], h⟩ (VQ [4, 5] K)) =
 (∃ (b : Bool),
 (PCon UY 82
 [V.agg
 (vMD d e f g j m o p),
 V.agg
 (vCF q r t u w x y z A B C D E F G a H I J L M N O P Q R)]
 fun v => v = V.b b) ∧
 If (!b) (K .ret 41 [.i .i64 0, .i .i64 (-1)] h)
 (If (a == (3 : Int)) (K .ret 41 [.i .i64 4, .i .i64 (-1)] h)
 (If (a != (1 : Int)) (K .ret 41 [.i .i64 0, .i .i64 (-1)] h)
 (∃ (cs : List V) (l : Nat) (c : Option Nat) (cs_1 : List V) (l_1 : Nat) (c_1 : Option Nat) (cs_2 : List V) (l_2 : Nat) (c_2 : Option Nat) (n n_1 n_2 : Int) (cs_3 : List V) (l_3 : Nat) (c_3 : Option Nat) (s s_1 s_2 s_3 s_4 s_5 s_6 s_7 s_8 s_9 : List UInt8) (cs_4 : List V) (l_4 : Nat) (c_4 : Option Nat) (n_3 n_4 n_5 n_6 n_7 : Int) (cs_5 : List V) (l_5 : Nat) (c_5 : Option Nat) (cs_6 : List V) (l_6 : Nat) (c_6 : Option Nat) (cs_7 : List V) (l_7 : Nat) (c_7 : Option Nat) (cs_8 : List V) (l_8 : Nat) (c_8 : Option Nat) (cs_9 : List V) (l_9 : Nat), ∃ (c_9 :
 Option Nat),
 (PCon UY
 (83 : Nat)
 [V.agg
 [V.ts
 d
 e
 none,
 V.ts
 f
 g
 none,
 V.ts
 j
 m
 none,
 V.i
 IntKind.i64
 o,
 V.i
 IntKind.i64
 p],
 V.agg
 [V.i
 IntKind.i64
 q,
 V.ts
 r
 t
 none,
 V.s
 u,
 V.s
 w,
 V.s
 x,
 V.s
 y,
 V.s
 z,
 V.s
 A,
 V.s
 B,
 V.s
 C,
 V.s
 D,
 V.s
 E,
 V.ts
 F
 G
 none,
 V.i
 IntKind.i64
 a,
 V.i
 IntKind.i64
 H,
 V.i
 IntKind.i64
 I,
 V.i
 IntKind.i64
 J,
 V.i
 IntKind.i64
 L,
 V.ts
 M
 N
 none,
 V.ts
 O
 P
 none,
 V.ts
 Q
 R
 none]]
 fun
 (v :
 V) =>
 v =
 V.agg
 [V.ts
 cs
 l
 c,
 V.ts
 cs_1
 l_1
 c_1,
 V.ts
 cs_2
 l_2
 c_2,
 V.i
 IntKind.i64
 n,
 V.i
 IntKind.i64
 n_1,
 V.i
 IntKind.i64
 n_2,
 V.ts
 cs_3
 l_3
 c_3,
 V.s
 s,
 V.s
 s_1,
 V.s
 s_2,
 V.s
 s_3,
 V.s
 s_4,
 V.s
 s_5,
 V.s
 s_6,
 V.s
 s_7,
 V.s
 s_8,
 V.s
 s_9,
 V.ts
 cs_4
 l_4
 c_4,
 V.i
 IntKind.i64
 n_3,
 V.i
 IntKind.i64
 n_4,
 V.i
 IntKind.i64
 n_5,
 V.i
 IntKind.i64
 n_6,
 V.i
 IntKind.i64
 n_7,
 V.ts
 cs_5
 l_5
 c_5,
 V.ts
 cs_6
 l_6
 c_6,
 V.ts
 cs_7
 l_7
 c_7,
 V.ts
 cs_8
 l_8
 c_8,
 V.ts
 cs_9
 l_9
 c_9]) ∧
 Con UY
 (84 : Nat)
 [V.agg
 [V.ts
 cs
 l
 c,
 V.ts
 cs_1
 l_1
 c_1,
 V.ts
 cs_2
 l_2
 c_2,
 V.i
 IntKind.i64
 n,
 V.i
 IntKind.i64
 n_1,
 V.i
 IntKind.i64
 n_2,
 V.ts
 cs_3
 l_3
 c_3,
 V.s
 s,
 V.s
 s_1,
 V.s
 s_2,
 V.s
 s_3,
 V.s
 s_4,
 V.s
 s_5,
 V.s
 s_6,
 V.s
 s_7,
 V.s
 s_8,
 V.s
 s_9,
 V.ts
 cs_4
 l_4
 c_4,
 V.i
 IntKind.i64
 n_3,
 V.i
 IntKind.i64
 n_4,
 V.i
 IntKind.i64
 n_5,
 V.i
 IntKind.i64
 n_6,
 V.i
 IntKind.i64
 n_7,
 V.ts
 cs_5
 l_5
 c_5,
 V.ts
 cs_6
 l_6
 c_6,
 V.ts
 cs_7
 l_7
 c_7,
 V.ts
 cs_8
 l_8
 c_8,
 V.ts
 cs_9
 l_9
 c_9],
 V.fn
 (Fn.func
 (85 :
 Nat))
 [V.agg
 [V.ts
 cs
 l
 c,
 V.ts
 cs_1
 l_1
 c_1,
 V.ts
 cs_2
 l_2
 c_2,
 V.i
 IntKind.i64
 n,
 V.i
 IntKind.i64
 n_1,
 V.i
 IntKind.i64
 n_2,
 V.ts
 cs_3
 l_3
 c_3,
 V.s
 s,
 V.s
 s_1,
 V.s
 s_2,
 V.s
 s_3,
 V.s
 s_4,
 V.s
 s_5,
 V.s
 s_6,
 V.s
 s_7,
 V.s
 s_8,
 V.s
 s_9,
 V.ts
 cs_4
 l_4
 c_4,
 V.i
 IntKind.i64
 n_3,
 V.i
 IntKind.i64
 n_4,
 V.i
 IntKind.i64
 n_5,
 V.i
 IntKind.i64
 n_6,
 V.i
 IntKind.i64
 n_7,
 V.ts
 cs_5
 l_5
 c_5,
 V.ts
 cs_6
 l_6
 c_6,
 V.ts
 cs_7
 l_7
 c_7,
 V.ts
 cs_8
 l_8
 c_8,
 V.ts
 cs_9
 l_9
 c_9]]
 []]
 h
 fun
 (v : V)
 (h' :
 Heap) =>
 ∃ (n_8 :
 Int),
 v =
 V.i
 IntKind.i64
 n_8 ∧
 If
 (leI
 (0 :
 Int)
 n_8)
 (K
 Out.ret
 41
 [V.i
 IntKind.i64
 (2 :
 Int),
 V.i
 IntKind.i64
 n_8]
 h')
 (Con
 UY
 (84 :
 Nat)
 [V.agg
 [V.ts
 cs
 l
 c,
 V.ts
 cs_1
 l_1
 c_1,
 V.ts
 cs_2
 l_2
 c_2,
 V.i
 IntKind.i64
 n,
 V.i
 IntKind.i64
 n_1,
 V.i
 IntKind.i64
 n_2,
 V.ts
 cs_3
 l_3
 c_3,
 V.s
 s,
 V.s
 s_1,
 V.s
 s_2,
 V.s
 s_3,
 V.s
 s_4,
 V.s
 s_5,
 V.s
 s_6,
 V.s
 s_7,
 V.s
 s_8,
 V.s
 s_9,
 V.ts
 cs_4
 l_4
 c_4,
 V.i
 IntKind.i64
 n_3,
 V.i
 IntKind.i64
 n_4,
 V.i
 IntKind.i64
 n_5,
 V.i
 IntKind.i64
 n_6,
 V.i
 IntKind.i64
 n_7,
 V.ts
 cs_5
 l_5
 c_5,
 V.ts
 cs_6
 l_6
 c_6,
 V.ts
 cs_7
 l_7
 c_7,
 V.ts
 cs_8
 l_8
 c_8,
 V.ts
 cs_9
 l_9
 c_9],
 V.fn
 (Fn.func
 (86 :
 Nat))
 [V.agg
 [V.ts
 cs
 l
 c,
 V.ts
 cs_1
 l_1
 c_1,
 V.ts
 cs_2
 l_2
 c_2,
 V.i
 IntKind.i64
 n,
 V.i
 IntKind.i64
 n_1,
 V.i
 IntKind.i64
 n_2,
 V.ts
 cs_3
 l_3
 c_3,
 V.s
 s,
 V.s
 s_1,
 V.s
 s_2,
 V.s
 s_3,
 V.s
 s_4,
 V.s
 s_5,
 V.s
 s_6,
 V.s
 s_7,
 V.s
 s_8,
 V.s
 s_9,
 V.ts
 cs_4
 l_4
 c_4,
 V.i
 IntKind.i64
 n_3,
 V.i
 IntKind.i64
 n_4,
 V.i
 IntKind.i64
 n_5,
 V.i
 IntKind.i64
 n_6,
 V.i
 IntKind.i64
 n_7,
 V.ts
 cs_5
 l_5
 c_5,
 V.ts
 cs_6
 l_6
 c_6,
 V.ts
 cs_7
 l_7
 c_7,
 V.ts
 cs_8
 l_8
 c_8,
 V.ts
 cs_9
 l_9
 c_9]]
 []]
 h'
 fun
 (v :
 V)
 (h' :
 Heap) =>
 ∃
 (n_9
 :
 Int),
 v =
 V.i
 IntKind.i64
 n_9 ∧
 If
 (leI
 (0 :
 Int)
 n_9)
 (K
 Out.ret
 41
 [V.i
 IntKind.i64
 (3 :
 Int),
 V.i
 IntKind.i64
 n_9]
 h')
 (∃
 (b
 :
 Bool),
 (PCon
 UY
 (87 :
 Nat)
 [V.agg
 [V.ts
 cs
 l
 c,
 V.ts
 cs_1
 l_1
 c_1,
 V.ts
 cs_2
 l_2
 c_2,
 V.i
 IntKind.i64
 n,
 V.i
 IntKind.i64
 n_1,
 V.i
 IntKind.i64
 n_2,
 V.ts
 cs_3
 l_3
 c_3,
 V.s
 s,
 V.s
 s_1,
 V.s
 s_2,
 V.s
 s_3,
 V.s
 s_4,
 V.s
 s_5,
 V.s
 s_6,
 V.s
 s_7,
 V.s
 s_8,
 V.s
 s_9,
 V.ts
 cs_4
 l_4
 c_4,
 V.i
 IntKind.i64
 n_3,
 V.i
 IntKind.i64
 n_4,
 V.i
 IntKind.i64
 n_5,
 V.i
 IntKind.i64
 n_6,
 V.i
 IntKind.i64
 n_7,
 V.ts
 cs_5
 l_5
 c_5,
 V.ts
 cs_6
 l_6
 c_6,
 V.ts
 cs_7
 l_7
 c_7,
 V.ts
 cs_8
 l_8
 c_8,
 V.ts
 cs_9
 l_9
 c_9]]
 fun
 (v :
 V) =>
 v =
 V.b
 b) ∧
 If
 b
 (K
 Out.ret
 41
 [V.i
 IntKind.i64
 (1 :
 Int),
 V.i
 IntKind.i64
 (-1 :
 Int)]
 h')
 (K
 Out.ret
 41
 [V.i
 IntKind.i64
 (0 :
 Int),
 V.i
 IntKind.i64
 (-1 :
 Int)]
 h'))))))) := by kernel_rfl
theorem ZDi (a : List V) (b : Nat) (d : List V) (e : Nat) (g : List V) (j : Nat) (m n o : Int) (p : List V) (q : Nat) (r t u w x y z A B C : List UInt8) (D : List V) (E : Nat) (F G f H I : Int) (J : List V) (L : Nat) (M : List V) (N : Nat) (O : List V) (P : Nat) (h : Heap) (K : KT) : (Zc UY (UY.loc 83) 100 ((flat (Za Tryz.f83))) ⟨(V.agg (vMD a b d e g j m n) :: V.agg (vCF o p q r t u w x y z A B C D E F G f H I J L M N O P) :: List.replicate 17 .undef), [], h⟩ (VQ [4] K)) =
 (∃ (cs : List V) (l : Nat) (c : Option Nat), (PCon UY 40
 [V.agg
 (vMD a b d e g j m n),
 V.agg
 (vCF o p q r t u w x y z A B C D E F G f H I J L M N O P)]
 fun v => v = V.ts cs l c) ∧
 ∃ (cs_1 : List V) (l_1 : Nat) (c_1 : Option Nat), (PCon UY 129
 [V.agg [V.ts a b none, V.ts d e none], V.ts cs l c,
 V.i .i64 f]
 fun v => v = V.ts cs_1 l_1 c_1) ∧
 K .ret 19
 [.lb
 [.ts a b none, .ts d e none,
 .ts g j none, .i .i64 m, .i .i64 n,
 .i .i64 o, .ts p q none, .s r, .s t, .s u,
 .s w, .s x, .s y, .s z, .s A, .s B,
 .s C, .ts D E none, .i .i64 F, .i .i64 G,
 .i .i64 f, .i .i64 H, .i .i64 I,
 .ts J L none, .ts M N none, .ts O P none,
 .ts cs l c, .ts cs_1 l_1 c_1]]
 h) := by kernel_rfl
theorem ZDj (f : List V) (g : Nat) (j : List V) (m : Nat) (o : List V) (p : Nat) (q a r : Int) (t : List V) (u : Nat) (w x y z A B C D E F : List UInt8) (G : List V) (H : Nat) (I J L M N : Int) (O : List V) (P : Nat) (Q : List V) (R : Nat) (d : List V) (e : Nat) (S : List V) (T : Nat) (U : List V) (W : Nat) (x1 : Int) (h : Heap) (K : KT) : (Zc UY (UY.loc 85) 100 ((flat (Za Tryz.f85))) ⟨(V.agg (vVW f g j m o p q a r t u w x y z A B C D E F G H I J L M N O P Q R d e S T U W) :: V.i .i64 x1 :: List.replicate 13 .undef), [], h⟩ (VQ [4] K)) =
 ((0 ≤ x1 ∧ x1 < e) ∧
 ∃ (b b_1 b_2 : Bool) (n n_1 : Int) (s : List UInt8) (cs : List V) (l : Nat) (c : Option Nat) (s_1 : List UInt8) (cs_1 : List V) (l_1 : Nat) (c_1 : Option Nat) (s_2 s_3 : List UInt8), Zh 11 (List.drop (x1.toNat * 11) d) =
 some
 (vSD b b_1 b_2 n n_1 s cs l c s_1 cs_1 l_1 c_1 s_2 s_3) ∧
 ∃ (b_3 : Bool),
 (PCon UY 130
 [V.agg
 (vSD b b_1 b_2 n n_1 s cs l c s_1 cs_1 l_1 c_1 s_2 s_3),
 V.i .i64 a]
 fun v => v = V.b b_3) ∧
 K .ret 15 [.b b_3] h) := by kernel_rfl
theorem ZDk (a : List V) (c : Nat) (d : List V) (e : Nat) (n : List V) (o : Nat) (p q r : Int) (t : List V) (u : Nat) (w x y z A B C D E F : List UInt8) (G : List V) (H : Nat) (I J f L M : Int) (N : List V) (O : Nat) (P : List V) (Q : Nat) (g : List V) (j : Nat) (l : List V) (m : Nat) (R : List V) (S : Nat) (x1 : Int) (h : Heap) (K : KT) : (Zc UY (UY.loc 86) 100 ((flat (Za Tryz.f86))) ⟨(V.agg (vVW a c d e n o p q r t u w x y z A B C D E F G H I J f L M N O P Q g j l m R S) :: V.i .i64 x1 :: List.replicate 23 .undef), [], h⟩ (VQ [4] K)) =
 ((0 ≤ x1 ∧ x1 < j) ∧
 ∃ (b : Bool),
 Zh 1 (List.drop 2 (List.drop (x1.toNat * 11) g)) = some [V.b b] ∧
 If b
 (∃ (b : Bool),
 (PCon UY 131
 [V.agg [V.ts a c none, V.ts d e none],
 V.ts l m none, V.i .i64 x1, V.i .i64 f]
 fun v => v = V.b b) ∧
 K .ret 25 [.b !b] h)
 (K .ret 25 [.b false] h)) := by kernel_rfl
theorem ZDl (d : List V) (e : Nat) (f : List V) (g : Nat) (j : List V) (l : Nat) (m o p : Int) (q : List V) (r : Nat) (t u w x y z A B C D : List UInt8) (E : List V) (F : Nat) (G H I a J : Int) (L : List V) (M : Nat) (N : List V) (O : Nat) (P : List V) (c : Nat) (Q : List V) (R : Nat) (S : List V) (T : Nat) (h : Heap) (K : KT) : (Zc UY (UY.loc 87) 100 (pre (flat (Za Tryz.f87))) ⟨(V.agg (vVW d e f g j l m o p q r t u w x y z A B C D E F G H I a J L M N O P c Q R S T) :: List.replicate 25 .undef), [], h⟩ (VQ [1, 2, 18, 19] K)) =
 (If (leI 0 a)
 (K .ret 26
 [.lb
 (vVW d e f g j l m o p q r t u w x y z A B C D E F G H I a J L M N O P c Q R S T),
 .b false, .undef, .undef]
 h)
 (Con UY 84
 [V.agg
 (vVW d e f g j l m o p q r t u w x y z A B C D E F G H I a J L M N O P c Q R S T),
 V.fn (Fn.func (132 : Nat))
 [V.agg
 (vVW d e f g j l m o p q r t u w x y z A B C D E F G H I a J L M N O P c Q R S T)]
 []]
 h fun (v : V) (h' : Heap) =>
 ∃ (n : Int),
 v = V.i .i64 n ∧
 If (leI 0 n)
 (K .ret 26
 [.lb
 (vVW d e f g j l m o p q r t u w x y z A B C D E F G H I a J L M N O P c Q R S T),
 .b false, .undef, .undef]
 h')
 (K .normal 26
 [.lb
 (vVW d e f g j l m o p q r t u w x y z A B C D E F G H I a J L M N O P c Q R S T),
 .b false, .i .i64 (c : Int), .i .i64 0]
 h'))) := by kernel_rfl
theorem ZDm (d : List V) (e : Nat) (f : List V) (g : Nat) (j : List V) (l : Nat) (m n o : Int) (p : List V) (q : Nat) (r t u w x y z A B C : List UInt8) (D : List V) (E : Nat) (F G H I J : Int) (L : List V) (M : Nat) (N : List V) (O : Nat) (P : List V) (a : Nat) (Q : List V) (R : Nat) (S : List V) (T : Nat) (c : Int) (h : Heap) (K : KT) : (Zc UY (UY.loc 87) 100 ((flat (Zv (post (flat (Za Tryz.f87)))))) ⟨mk 26 (([1, 18, 19] : List Nat).zip [V.lb (vVW d e f g j l m n o p q r t u w x y z A B C D E F G H I J L M N O P a Q R S T), V.i .i64 (a : Int), V.i .i64 c]), [], h⟩ (VQ [1, 2, 18, 19] K)) =
 (If (ltI c a)
 (∃ (b : Bool),
 (PCon UY 133
 [V.agg
 (vVW d e f g j l m n o p q r t u w x y z A B C D E F G H I J L M N O P a Q R S T),
 V.i .i64 c]
 fun v => v = V.b b) ∧
 If b
 (K .ret 26
 [.lb
 (vVW d e f g j l m n o p q r t u w x y z A B C D E F G H I J L M N O P a Q R S T),
 .b false, .i .i64 (a : Int), .i .i64 c]
 h)
 (K .normal 26
 [.lb
 (vVW d e f g j l m n o p q r t u w x y z A B C D E F G H I J L M N O P a Q R S T),
 .undef, .i .i64 (a : Int), .i .i64 (IntKind.i64.wrap (c + (1 : Int)))]
 h))
 (K (.exit 0) 26
 [.lb
 (vVW d e f g j l m n o p q r t u w x y z A B C D E F G H I J L M N O P a Q R S T),
 .undef, .i .i64 (a : Int), .i .i64 c]
 h)) := by kernel_rfl
theorem ZDn (h : Heap) (K : KT) : (Zc UY (UY.loc 87) 100 (((post (flat (Za Tryz.f87))).drop 1)) ⟨mk 26 (([] : List Nat).zip []), [], h⟩ (VQ [2] K)) =
 (K .ret 26 [.b true] h) := by kernel_rfl
theorem Zzq (f : List V) (g : Nat) (j : List V) (m : Nat) (o : List V) (p : Nat) (q e r : Int) (t : List V) (u : Nat) (w x y z A B C D E F : List UInt8) (G : List V) (H : Nat) (I J L M N : Int) (O : List V) (P : Nat) (Q : List V) (R : Nat) (a : List V) (d : Nat) (S : List V) (T : Nat) (U : List V) (W : Nat) (x1 : Int) (h : Heap) (K : KT) : (Zc UY (UY.loc 132) 100 ((flat (Za Tryz.f132))) ⟨(V.agg (vVW f g j m o p q e r t u w x y z A B C D E F G H I J L M N O P Q R a d S T U W) :: V.i .i64 x1 :: List.replicate 23 .undef), [], h⟩ (VQ [4] K)) =
 ((0 ≤ x1 ∧ x1 < d) ∧
 ∃ (b b_1 b_2 : Bool) (n n_1 : Int) (s : List UInt8) (cs : List V) (l : Nat) (c : Option Nat) (s_1 : List UInt8) (cs_1 : List V) (l_1 : Nat) (c_1 : Option Nat) (s_2 s_3 : List UInt8), Zh 11 (List.drop (x1.toNat * 11) a) =
 some
 (vSD b b_1 b_2 n n_1 s cs l c s_1 cs_1 l_1 c_1 s_2 s_3) ∧
 ∃ (n_2 : Int),
 (PCon UY 179
 [V.agg
 (vSD b b_1 b_2 n n_1 s cs l c s_1 cs_1 l_1 c_1 s_2 s_3),
 V.i .i64 e]
 fun v => v = V.i .i64 n_2) ∧
 If (ltI 0 n_2) (K .ret 25 [.b true] h)
 ((0 ≤ x1 ∧ x1 < d) ∧
 ∃ (b b_3 b_4 : Bool) (n n_3 : Int) (s : List UInt8) (cs : List V) (l : Nat) (c : Option Nat) (s_4 : List UInt8) (cs_2 : List V) (l_2 : Nat) (c_2 : Option Nat) (s_5 s_6 : List UInt8), Zh 11
 (List.drop (x1.toNat * 11)
 a) =
 some
 (vSD b b_3 b_4 n n_3 s cs l c s_4 cs_2 l_2 c_2 s_5 s_6) ∧
 ∃ (b_5 : Bool),
 (PCon UY 180
 [V.agg
 (vSD b b_3 b_4 n n_3 s cs l c s_4 cs_2 l_2 c_2 s_5 s_6)]
 fun v => v = V.b b_5) ∧
 K .ret 25 [.b b_5] h)) := by kernel_rfl
theorem Zzr (g : List V) (j : Nat) (m : List V) (o : Nat) (a : List V) (d : Nat) (p q r : Int) (t : List V) (u : Nat) (w x y z A B C D E F : List UInt8) (G : List V) (H : Nat) (I J L M N : Int) (O : List V) (P : Nat) (Q : List V) (R : Nat) (e : List V) (f : Nat) (S : List V) (T : Nat) (U : List V) (W : Nat) (x1 : Int) (h : Heap) (K : KT) : (Zc UY (UY.loc 133) 100 ((flat (Za Tryz.f133))) ⟨(V.agg (vVW g j m o a d p q r t u w x y z A B C D E F G H I J L M N O P Q R e f S T U W) :: V.i .i64 x1 :: List.replicate 32 .undef), [], h⟩ (VQ [4] K)) =
 ((0 ≤ x1 ∧ x1 < f) ∧
 ∃ (b b_1 b_2 : Bool) (n n_1 : Int) (s : List UInt8) (cs : List V) (l : Nat) (c : Option Nat) (s_1 : List UInt8) (cs_1 : List V) (l_1 : Nat) (c_1 : Option Nat) (s_2 s_3 : List UInt8), Zh 11 (List.drop (x1.toNat * 11) e) =
 some
 (vSD b b_1 b_2 n n_1 s cs l c s_1 cs_1 l_1 c_1 s_2 s_3) ∧
 (0 ≤ x1 ∧ x1 < d) ∧
 ∃ (n_2 : Int) (cs_2 : List V) (l_2 : Nat) (c_2 : Option Nat), Zh 2 (List.drop (x1.toNat * 2) a) =
 some [V.i .i64 n_2, V.ts cs_2 l_2 c_2] ∧
 If (!s_1 == ([] : List UInt8)) (K .ret 34 [.b true] h)
 (∃ (cs_3 : List V) (l_3 : Nat) (c_3 : Option Nat), (PCon UY 181
 [V.agg
 (vSD b b_1 b_2 n n_1 s cs l c s_1 cs_1 l_1 c_1 s_2 s_3),
 V.agg [V.i .i64 n_2, V.ts cs_2 l_2 c_2]]
 fun v => v = V.ts cs_3 l_3 c_3) ∧
 If (ltI 0 l_3)
 (K .ret 34 [.b true] h)
 (∃ (b_3 : Bool),
 (PCon UY 182
 [V.agg
 (vSD b b_1 b_2 n n_1 s cs l c s_1 cs_1 l_1 c_1 s_2 s_3),
 V.agg [V.i .i64 n_2, V.ts cs_2 l_2 c_2]]
 fun v => v = V.b b_3) ∧
 K .ret 34 [.b b_3] h))) := by kernel_rfl
theorem ZDo (d : List V) (e : Nat) (b : List V) (a : Nat) (f : List V) (g : Nat) (j m o : Int) (p : List V) (q : Nat) (r t u w x y z A B C : List UInt8) (D : List V) (E : Nat) (F G H I J : Int) (L : List V) (M : Nat) (N : List V) (O : Nat) (P : List V) (Q : Nat) (h : Heap) (K : KT) : (Zc UY (UY.loc 11) 100 ((flat (Za Tryz.f11))) ⟨(V.agg (vMD d e b a f g j m) :: V.agg (vCF o p q r t u w x y z A B C D E F G H I J L M N O P Q) :: List.replicate 48 .undef), [], h⟩ (VQ [4, 5] K)) =
 (∃ (n n_1 : Int), (PCon UY 39
 [V.agg
 (vMD d e b a f g j m),
 V.agg
 (vCF o p q r t u w x y z A B C D E F G H I J L M N O P Q)]
 fun v => v = V.tup [V.i .i64 n, V.i .i64 n_1]) ∧
 If (n == (0 : Int)) (K .ret 50 [.i .i64 (-1), .i .i64 (-1)] h)
 (∃ (cs : List V) (l : Nat) (c : Option Nat), (PCon UY 40
 [V.agg
 (vMD d e b a f g j m),
 V.agg
 (vCF o p q r t u w x y z A B C D E F G H I J L M N O P Q)]
 fun v => v = V.ts cs l c) ∧
 If ((↑l : Int) == (0 : Int))
 (K .ret 50 [.i .i64 n_1, .i .i64 (-1)] h)
 (((0 : Int) ≤ (0 : Int) ∧ (0 : Int) < (l : Int)) ∧
 ∃ (n : Int),
 Zh 1 cs = some [V.i .i64 n] ∧
 If (ltI n 0)
 (K .ret 50 [.i .i64 n_1, .i .i64 (-1)] h)
 (((0 : Int) ≤ (0 : Int) ∧ (0 : Int) < (l : Int)) ∧
 ∃ (n : Int),
 Zh 1 cs = some [V.i .i64 n] ∧
 If (leI a n)
 (K .ret 50 [.i .i64 n_1, .i .i64 (-1)] h)
 (((0 : Int) ≤ (0 : Int) ∧ (0 : Int) < (l : Int)) ∧
 ∃ (n : Int),
 Zh 1 cs = some [V.i .i64 n] ∧
 (0 ≤ n ∧ n < a) ∧
 ∃ (n_2 : Int),
 Zh 1
 (List.drop 6
 (List.drop (n.toNat * 7) b)) =
 some [V.i .i64 n_2] ∧
 K .ret 50 [.i .i64 n_1, .i .i64 n_2] h))))) := by kernel_rfl
theorem ZDp (a : List V) (b : Nat) (c : List V) (d : Nat) (e : List V) (f : Nat) (g j l : Int) (m : List V) (o : Nat) (p q r t u w x y z A : List UInt8) (B : List V) (C : Nat) (D E F G H : Int) (I : List V) (J : Nat) (L : List V) (M : Nat) (N : List V) (O : Nat) (h : Heap) (K : KT) : (Zc UY (UY.loc 12) 100 ((flat (Za Tryz.f12))) ⟨(V.agg (vMD a b c d e f g j) :: V.agg (vCF l m o p q r t u w x y z A B C D E F G H I J L M N O) :: List.replicate 12 .undef), [], h⟩ (VQ [4] K)) =
 (∃ (n n_1 : Int), (PCon UY 39
 [V.agg
 (vMD a b c d e f g j),
 V.agg
 (vCF l m o p q r t u w x y z A B C D E F G H I J L M N O)]
 fun v => v = V.tup [V.i .i64 n, V.i .i64 n_1]) ∧
 K .ret 14 [.i .i64 n] h) := by kernel_rfl
theorem Zzs (a : List V) (b : Nat) (c : List V) (d : Nat) (e : List V) (n1 : Nat) (h : Heap) (K : KT) : (Zc UY (UY.loc 175) 100 ((flat (Za Tryz.f175))) ⟨(V.agg [V.ts a b none, V.ts c d none] :: V.ts e n1 none :: List.replicate 4 .undef), [], h⟩ (VQ [4] K)) =
 (K .ret 6
 [.fn (Fn.func (217 : Nat)) [] [.p (some (h.nx + (1 : Nat), 0)), .p (some (h.nx, 0))]]
 ((h.push (YObj.arr [V.ts a b none, V.ts c d none] true)).push
 (YObj.arr [V.ts e n1 none] true))) := by kernel_rfl
theorem ZDq (a : List V) (n0 : Nat) (h : Heap) (K : KT) : (Zc UY (UY.loc 89) 100 (pre (flat (Za Tryz.f89))) ⟨(V.ts a n0 none :: List.replicate 35 .undef), [], h⟩ (VQ [0, 3, 9, 10, 11] K)) =
 (K .normal 36
 [.ts a n0 none, .i .i64 0, .ts a n0 none, .i .i64 (n0 : Int),
 .i .i64 0]
 h) := by kernel_rfl
theorem ZDr (a : List V) (n0 : Nat) (x3 b : Int) (h : Heap) (K : KT) : (Zc UY (UY.loc 89) 100 ((flat (Zv (post (flat (Za Tryz.f89)))))) ⟨mk 36 (([0, 3, 9, 10, 11] : List Nat).zip [V.ts a n0 none, V.i .i64 x3, V.ts a n0 none, V.i .i64 (n0 : Int), V.i .i64 b]), [], h⟩ (VQ [0, 3, 9, 10, 11] K)) =
 (If (ltI b n0)
 ((0 ≤ b ∧ b < n0) ∧
 ∃ (cs : List V) (l : Nat) (c : Option Nat), Zh 1 (List.drop (b.toNat * 1) a) = some [V.ts cs l c] ∧
 If (ltI (IntKind.i64.wrap (x3 + (l : Int))) (0 : Int)) False
 (K .normal 36
 [.ts a n0 none, .i .i64 (IntKind.i64.wrap (x3 + (l : Int))), .ts a n0 none,
 .i .i64 (n0 : Int), .i .i64 (IntKind.i64.wrap (b + (1 : Int)))]
 h))
 (K (.exit 0) 36
 [.ts a n0 none, .i .i64 x3, .ts a n0 none, .i .i64 (n0 : Int), .i .i64 b] h)) := by kernel_rfl
theorem ZDs (b : List V) (n0 : Nat) (x3 : Int) (h : Heap) (K : KT) : (Zc UY (UY.loc 89) 100 (pre ((post (flat (Za Tryz.f89))).drop 1)) ⟨mk 36 (([0, 3] : List Nat).zip [V.ts b n0 none, V.i .i64 x3]), [], h⟩ (VQ [6, 25, 26, 27] K)) =
 (Con UY 134 [V.sl none 0 (some 0) 0, V.i .i64 x3] h
 fun (v : V) (h' : Heap) =>
 ∃ (a : Option (Nat × Nat)) (l : Nat) (c : Option Nat) (k : Nat), v = V.sl a l c k ∧
 K .normal 36
 [.sl a l c k, .ts b n0 none, .i .i64 (n0 : Int), .i .i64 0] h') := by kernel_rfl
theorem ZDt (d : List V) (n0 : Nat) (a6 : Option (Nat × Nat)) (l6 : Nat) (c6 : Option Nat) (k6 : Nat) (b : Int) (h : Heap) (K : KT) : (Zc UY (UY.loc 89) 100 ((flat (Zv (post ((post (flat (Za Tryz.f89))).drop 1))))) ⟨mk 36 (([6, 25, 26, 27] : List Nat).zip [V.sl a6 l6 c6 k6, V.ts d n0 none, V.i .i64 (n0 : Int), V.i .i64 b]), [], h⟩ (VQ [6, 25, 26, 27] K)) =
 (If (ltI b n0)
 ((0 ≤ b ∧ b < n0) ∧
 ∃ (cs : List V) (l : Nat) (c : Option Nat), Zh 1 (List.drop (b.toNat * 1) d) = some [V.ts cs l c] ∧
 ∃ (a : Option (Nat × Nat)) (l_1 : Nat) (c_1 : Option Nat) (k : Nat) (h_1 : Heap), Zk UY h 31 31 (V.sl a6 l6 c6 k6) (V.ts cs l c) =
 some (V.sl a l_1 c_1 k, h_1) ∧
 K .normal 36
 [.sl a l_1 c_1 k, .ts d n0 none, .i .i64 (n0 : Int),
 .i .i64 (IntKind.i64.wrap (b + (1 : Int)))]
 h_1)
 (K (.exit 2) 36
 [.sl a6 l6 c6 k6, .ts d n0 none, .i .i64 (n0 : Int), .i .i64 b] h)) := by kernel_rfl
theorem ZDu (a6 : Option (Nat × Nat)) (l6 : Nat) (c6 : Option Nat) (k6 : Nat) (h : Heap) (K : KT) : (Zc UY (UY.loc 89) 100 (((post ((post (flat (Za Tryz.f89))).drop 1)).drop 1)) ⟨mk 36 (([6] : List Nat).zip [V.sl a6 l6 c6 k6]), [], h⟩ (VQ [2] K)) =
 (K .ret 36 [.sl a6 l6 c6 k6] h) := by kernel_rfl
end Go.Y
