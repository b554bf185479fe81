/- What the pieces of the laws' Small come to: printed by program. -/
import Derived.Test.YtkcgmnhojldoiaaGreatYTryzP
import Derived.Test.YtkcgmnhojldoiaaGreatYLoop
import Derived.Test.YtkcgmnhojldoiaaGreatFC20
import Derived.Test.YtkcgmnhojldoiaaGreatGRef03b
namespace Go.Y
open Go.Proofs
set_option maxRecDepth 1000000
set_option maxHeartbeats 0
theorem ZDz (c : List V) (a : Nat) (d : List V) (e : Nat) (q : List V) (f : Nat) (r t u : Int) (g : List V) (j : Nat) (w x y z A B C D E F : List UInt8) (G : List V) (l : Nat) (H I J L m : Int) (M : List V) (n : Nat) (N : List V) (o : Nat) (O : List V) (p : Nat) (h : Heap) (K : KT) : (Zc UY (UY.loc 6) 100 (pre (flat (Za Tryz.f6))) ⟨(V.agg (vMD c a d e q f r t) :: V.agg (vCF u g j w x y z A B C D E F G l H I J L m M n N o O p) :: List.replicate 154 .undef), [], h⟩ (VQ [2, 3, 4, 10, 16, 67, 68, 69] K)) =
 (If (ltI 40 a)
 (K .ret 156
 [.lb
 (vMD c a d e q f r t),
 .lb
 (vCF u g j w x y z A B C D E F G l H I J L m M n N o O p),
 .b false, .undef, .rf, .undef, .undef, .undef]
 h)
 (If (ltI 9 f)
 (K .ret 156
 [.lb
 (vMD c a d e q f r t),
 .lb
 (vCF u g j w x y z A B C D E F G l H I J L m M n N o O p),
 .b false, .undef, .rf, .undef, .undef, .undef]
 h)
 (∃ (b : Bool),
 (PCon UY 14
 [V.agg [V.ts c a none, V.ts d e none],
 V.sl none 0 (some 0) 0]
 fun v => v = V.b b) ∧
 If (!b)
 (K .ret 156
 [.lb
 (vMD c a d e q f r t),
 .lb
 (vCF u g j w x y z A B C D E F G l H I J L m M n N o O p),
 .b false, .undef, .rf, .undef, .undef, .undef]
 h)
 (∃ (b : Bool),
 (PCon UY 15 [V.ts g j none] fun v => v = V.b b) ∧
 If (!b)
 (K .ret 156
 [.lb
 (vMD c a d e q f r t),
 .lb
 (vCF u g j w x y z A B C D E F G l H I J L m M n N o O p),
 .b false, .undef, .rf, .undef, .undef, .undef]
 h)
 (If (ltI 9 p)
 (K .ret 156
 [.lb
 (vMD c a d e q f r t),
 .lb
 (vCF u g j w x y z A B C D E F G l H I J L m M n N o O p),
 .b false, .undef, .rf, .undef, .undef, .undef]
 h)
 (If (ltI 9 l)
 (K .ret 156
 [.lb
 (vMD c a d e q f r t),
 .lb
 (vCF u g j w x y z A B C D E F G l H I J L m M n N o O p),
 .b false, .undef, .rf, .undef, .undef, .undef]
 h)
 (If (ltI 20 (IntKind.i64.wrap ((↑n : Int) + (o : Int))))
 (K .ret 156
 [.lb
 (vMD c a d e q f r t),
 .lb
 (vCF u g j w x y z A B C D E F G l H I J L m M n N o O p),
 .b false, .undef, .rf, .undef, .undef, .undef]
 h)
 (If (ltI 1152921504606846976 m)
 (K .ret 156
 [.lb
 (vMD c a d e q f r t),
 .lb
 (vCF u g j w x y z A B C D E F G l H I J L m M n N o O p),
 .b false, .undef, .rf, .undef, .undef, .undef]
 h)
 (K .normal 156
 [.lb
 (vMD c a d e q f r t),
 .lb
 (vCF u g j w x y z A B C D E F G l H I J L m M n N o O p),
 .b false, .undef, .rf, .ts c a none,
 .i .i64 (a : Int), .i .i64 0]
 h))))))))) := by kernel_rfl
theorem ZD0 (c : List V) (a : Nat) (e : List V) (f : Nat) (g : List V) (j : Nat) (l m n : Int) (o : List V) (p : Nat) (q r t u v w x y z A : List UInt8) (B : List V) (C : Nat) (D E F G H : Int) (I : List V) (J : Nat) (L : List V) (M : Nat) (N : List V) (O : Nat) (b4 : Bool) (P : V) (d : Int) (h : Heap) (K : KT) : (Zc UY (UY.loc 6) 100 (pre (flat (Zv (post (flat (Za Tryz.f6)))))) ⟨mk 156 (([2, 3, 4, 10, 16, 67, 68, 69] : List Nat).zip [V.lb (vMD c a e f g j l m), V.lb (vCF n o p q r t u v w x y z A B C D E F G H I J L M N O), V.b b4, P, V.rf, V.ts c a none, V.i .i64 (a : Int), V.i .i64 d]), [], h⟩ (VQ [2, 3, 4, 10, 16, 67, 68, 69] K)) =
 (If (ltI d a)
 (K .normal 156
 [.lb
 (vMD c a e f g j l m),
 .lb
 (vCF n o p q r t u v w x y z A B C D E F G H I J L M N O),
 .b b4, P, .rf, .ts c a none, .i .i64 (a : Int),
 .i .i64 d]
 h)
 (K (.exit 0) 156
 [.lb
 (vMD c a e f g j l m),
 .lb
 (vCF n o p q r t u v w x y z A B C D E F G H I J L M N O),
 .b b4, P, .rf, .ts c a none, .i .i64 (a : Int),
 .i .i64 d]
 h)) := by kernel_rfl
theorem ZD1 (d : List V) (a : Nat) (f : List V) (g : Nat) (j : List V) (m : Nat) (o p q : Int) (r : List V) (t : Nat) (u v w x y z A B C D : List UInt8) (E : List V) (F : Nat) (G H I J L : Int) (M : List V) (N : Nat) (O : List V) (P : Nat) (Q : List V) (R : Nat) (b4 : Bool) (S : V) (e : Int) (h : Heap) (K : KT) : (Zc UY (UY.loc 6) 100 (pre (flat (Xx (post (flat (Zv (post (flat (Za Tryz.f6))))))))) ⟨mk 156 (([2, 3, 4, 10, 16, 67, 68, 69] : List Nat).zip [V.lb (vMD d a f g j m o p), V.lb (vCF q r t u v w x y z A B C D E F G H I J L M N O P Q R), V.b b4, S, V.rf, V.ts d a none, V.i .i64 (a : Int), V.i .i64 e]), [], h⟩ (VQ [2, 3, 4, 6, 10, 16, 67, 68, 69, 98, 99, 100] K)) =
 ((0 ≤ e ∧ e < a) ∧
 ∃ (n n_1 : Int) (s : List UInt8) (n_2 : Int) (cs : List V) (l : Nat) (c : Option Nat) (n_3 n_4 : Int) (s_1 s_2 : List UInt8) (cs_1 : List V) (l_1 : Nat) (c_1 : Option Nat) (cs_2 : List V) (l_2 : Nat) (c_2 : Option Nat), Zh 11 (List.drop (e.toNat * 11) d) =
 some
 [V.i .i64 n, V.i .i64 n_1, V.s s, V.i .i64 n_2,
 V.ts cs l c, V.i .i64 n_3, V.i .i64 n_4, V.s s_1, V.s s_2,
 V.ts cs_1 l_1 c_1, V.ts cs_2 l_2 c_2] ∧
 If (ltI 6 l)
 (K .ret 156
 [.lb
 (vMD d a f g j m o p),
 .lb
 (vCF q r t u v w x y z A B C D E F G H I J L M N O P Q R),
 .b false,
 .lb
 [.i .i64 n, .i .i64 n_1, .s s, .i .i64 n_2,
 .ts cs l c, .i .i64 n_3, .i .i64 n_4, .s s_1, .s s_2,
 .ts cs_1 l_1 c_1, .ts cs_2 l_2 c_2],
 S, .rf, .ts d a none,
 .i .i64 (a : Int), .i .i64 e, .undef,
 .undef, .undef]
 h)
 (If (ltI 12 l_2)
 (K .ret 156
 [.lb
 (vMD d a f g j m o p),
 .lb
 (vCF q r t u v w x y z A B C D E F G H I J L M N O P Q R),
 .b false,
 .lb
 [.i .i64 n, .i .i64 n_1, .s s, .i .i64 n_2,
 .ts cs l c, .i .i64 n_3, .i .i64 n_4, .s s_1,
 .s s_2, .ts cs_1 l_1 c_1, .ts cs_2 l_2 c_2],
 S, .rf, .ts d a none,
 .i .i64 (a : Int), .i .i64 e, .undef,
 .undef, .undef]
 h)
 (If (ltI 60 (↑s.length : Int))
 (K .ret 156
 [.lb
 (vMD d a f g j m o p),
 .lb
 (vCF q r t u v w x y z A B C D E F G H I J L M N O P Q R),
 .b false,
 .lb
 [.i .i64 n, .i .i64 n_1, .s s, .i .i64 n_2,
 .ts cs l c, .i .i64 n_3, .i .i64 n_4, .s s_1,
 .s s_2, .ts cs_1 l_1 c_1, .ts cs_2 l_2 c_2],
 S, .rf, .ts d a none,
 .i .i64 (a : Int), .i .i64 e, .undef,
 .undef, .undef]
 h)
 (If (ltI 2 l_1)
 (K .ret 156
 [.lb
 (vMD d a f g j m o p),
 .lb
 (vCF q r t u v w x y z A B C D E F G H I J L M N O P Q R),
 .b false,
 .lb
 [.i .i64 n, .i .i64 n_1, .s s, .i .i64 n_2,
 .ts cs l c, .i .i64 n_3, .i .i64 n_4, .s s_1,
 .s s_2, .ts cs_1 l_1 c_1, .ts cs_2 l_2 c_2],
 S, .rf, .ts d a none,
 .i .i64 (a : Int), .i .i64 e, .undef,
 .undef, .undef]
 h)
 (K .normal 156
 [.lb
 (vMD d a f g j m o p),
 .lb
 (vCF q r t u v w x y z A B C D E F G H I J L M N O P Q R),
 .b b4,
 .lb
 [.i .i64 n, .i .i64 n_1, .s s, .i .i64 n_2,
 .ts cs l c, .i .i64 n_3, .i .i64 n_4, .s s_1,
 .s s_2, .ts cs_1 l_1 c_1, .ts cs_2 l_2 c_2],
 S, .rf, .ts d a none,
 .i .i64 (a : Int), .i .i64 e,
 .ts cs_1 l_1 c_1, .i .i64 (l_1 : Int),
 .i .i64 0]
 h))))) := by kernel_rfl
theorem ZD2 (d : List V) (a : Nat) (m : List V) (o : Nat) (p : List V) (q : Nat) (r t u : Int) (v : List V) (w : Nat) (x : List V) (y : Nat) (z A B C D : Int) (E : List V) (F : Nat) (G : List V) (H : Nat) (I : List V) (J : Nat) (b4 : Bool) (L : V) (M : Int) (N O P Q R S T U W X : List UInt8) (Z a0 : Int) (a1 : List UInt8) (a2 : Int) (a3 : Option Nat) (a4 : List V) (a5 : Nat) (a6 a7 : Int) (a8 a9 : List UInt8) (b0 : Option Nat) (b1 : List V) (b2 : Nat) (b3 : Option Nat) (b5 : List V) (b6 : Nat) (b7 : Option Nat) (f : List V) (g : Nat) (j e : Int) (h : Heap) (K : KT) : (Zc UY (UY.loc 6) 100 ((flat (Zv (post (flat (Xx (post (flat (Zv (post (flat (Za Tryz.f6)))))))))))) ⟨mk 156 (([2, 3, 4, 6, 10, 16, 67, 68, 69, 98, 99, 100] : List Nat).zip [V.lb (vMD d a m o p q r t), V.lb (vCF u v w N O P Q R S T U W X x y z A B C D E F G H I J), V.b b4, V.lb [V.i .i64 Z, V.i .i64 a0, V.s a1, V.i .i64 a2, V.ts a4 a5 a3, V.i .i64 a6, V.i .i64 a7, V.s a8, V.s a9, V.ts b1 b2 b0, V.ts b5 b6 b3], L, V.rf, V.ts d a none, V.i .i64 (a : Int), V.i .i64 M, V.ts f g b7, V.i .i64 j, V.i .i64 e]), [], h⟩ (VQ [2, 3, 4, 6, 10, 16, 67, 68, 69, 98, 99, 100] K)) =
 (If (ltI e j)
 ((0 ≤ e ∧ e < g) ∧
 ∃ (n n_1 : Int) (s s_1 : List UInt8) (cs : List V) (l : Nat) (c : Option Nat), Zh 5 (List.drop (e.toNat * 5) f) =
 some [V.i .i64 n, V.i .i64 n_1, V.s s, V.s s_1, V.ts cs l c] ∧
 If (ltI 0 l)
 (K .ret 156
 [.lb
 (vMD d a m o p q r t),
 .lb
 (vCF u v w N O P Q R S T U W X x y z A B C D E F G H I J),
 .b false,
 .lb
 [.i .i64 Z, .i .i64 a0, .s a1, .i .i64 a2,
 .ts a4 a5 a3, .i .i64 a6, .i .i64 a7, .s a8,
 .s a9, .ts b1 b2 b0, .ts b5 b6 b3],
 L, .rf, .ts d a none, .i .i64 (a : Int),
 .i .i64 M, .ts f g b7, .i .i64 j, .i .i64 e]
 h)
 (K .normal 156
 [.lb
 (vMD d a m o p q r t),
 .lb
 (vCF u v w N O P Q R S T U W X x y z A B C D E F G H I J),
 .b b4,
 .lb
 [.i .i64 Z, .i .i64 a0, .s a1, .i .i64 a2,
 .ts a4 a5 a3, .i .i64 a6, .i .i64 a7, .s a8,
 .s a9, .ts b1 b2 b0, .ts b5 b6 b3],
 L, .rf, .ts d a none, .i .i64 (a : Int),
 .i .i64 M, .ts f g b7, .i .i64 j,
 .i .i64 (IntKind.i64.wrap (e + (1 : Int)))]
 h))
 (K (.exit 2) 156
 [.lb
 (vMD d a m o p q r t),
 .lb
 (vCF u v w N O P Q R S T U W X x y z A B C D E F G H I J),
 .b b4,
 .lb
 [.i .i64 Z, .i .i64 a0, .s a1, .i .i64 a2, .ts a4 a5 a3,
 .i .i64 a6, .i .i64 a7, .s a8, .s a9, .ts b1 b2 b0,
 .ts b5 b6 b3],
 L, .rf, .ts d a none, .i .i64 (a : Int), .i .i64 M,
 .ts f g b7, .i .i64 j, .i .i64 e]
 h)) := by kernel_rfl
theorem ZD3 (c : List V) (a : Nat) (e : List V) (f : Nat) (g : List V) (j : Nat) (l m n : Int) (o : List V) (p : Nat) (q : List V) (r : Nat) (t u v w x : Int) (y : List V) (z : Nat) (A : List V) (B : Nat) (C : List V) (D : Nat) (b4 : Bool) (E : V) (F T U W : Int) (G : Option Nat) (H : List V) (d : Nat) (X Z : Int) (a0 : Option Nat) (a1 : List V) (a2 : Nat) (a3 : Option Nat) (a4 : List V) (a5 : Nat) (I J L M N O P Q R S a6 a7 a8 : List UInt8) (h : Heap) (K : KT) : (Zc UY (UY.loc 6) 100 (pre ((post (flat (Xx (post (flat (Zv (post (flat (Za Tryz.f6))))))))).drop 1)) ⟨mk 156 (([2, 3, 4, 6, 10, 16, 67, 68, 69] : List Nat).zip [V.lb (vMD c a e f g j l m), V.lb (vCF n o p I J L M N O P Q R S q r t u v w x y z A B C D), V.b b4, V.lb [V.i .i64 T, V.i .i64 U, V.s a6, V.i .i64 W, V.ts H d G, V.i .i64 X, V.i .i64 Z, V.s a7, V.s a8, V.ts a1 a2 a0, V.ts a4 a5 a3], E, V.rf, V.ts c a none, V.i .i64 (a : Int), V.i .i64 F]), [], h⟩ (VQ [2, 3, 4, 10, 16, 67, 68, 69, 110, 111, 112] K)) =
 (K .normal 156
 [.lb
 (vMD c a e f g j l m),
 .lb
 (vCF n o p I J L M N O P Q R S q r t u v w x y z A B C D),
 .b b4, E, .rf, .ts c a none, .i .i64 (a : Int),
 .i .i64 F, .ts H d G, .i .i64 (d : Int), .i .i64 0]
 h) := by kernel_rfl
theorem ZD4 (d : List V) (a : Nat) (g : List V) (j : Nat) (l : List V) (m : Nat) (n o p : Int) (q : List V) (r : Nat) (t : List V) (u : Nat) (v w x y z : Int) (A : List V) (B : Nat) (C : List V) (D : Nat) (E : List V) (F : Nat) (b4 : Bool) (T : V) (G : Int) (H : Option Nat) (f : List V) (c : Nat) (I J L M N O P Q R S : List UInt8) (e : Int) (h : Heap) (K : KT) : (Zc UY (UY.loc 6) 100 ((flat (Zv (post ((post (flat (Xx (post (flat (Zv (post (flat (Za Tryz.f6))))))))).drop 1))))) ⟨mk 156 (([2, 3, 4, 10, 16, 67, 68, 69, 110, 111, 112] : List Nat).zip [V.lb (vMD d a g j l m n o), V.lb (vCF p q r I J L M N O P Q R S t u v w x y z A B C D E F), V.b b4, T, V.rf, V.ts d a none, V.i .i64 (a : Int), V.i .i64 G, V.ts f c H, V.i .i64 (c : Int), V.i .i64 e]), [], h⟩ (VQ [2, 3, 4, 10, 16, 67, 68, 69, 110, 111, 112] K)) =
 (If (ltI e c)
 ((0 ≤ e ∧ e < c) ∧
 ∃ (s s_1 : List UInt8), Zh 2 (List.drop (e.toNat * 2) f) = some [V.s s, V.s s_1] ∧
 If (ltI 60 (↑s.length : Int))
 (K .ret 156
 [.lb
 (vMD d a g j l m n o),
 .lb
 (vCF p q r I J L M N O P Q R S t u v w x y z A B C D E F),
 .b false, .lb [.s s, .s s_1], .rf, .ts d a none,
 .i .i64 (a : Int), .i .i64 G, .ts f c H,
 .i .i64 (c : Int), .i .i64 e]
 h)
 (If (ltI 60 (↑s_1.length : Int))
 (K .ret 156
 [.lb
 (vMD d a g j l m n o),
 .lb
 (vCF p q r I J L M N O P Q R S t u v w x y z A B C D E F),
 .b false, .lb [.s s, .s s_1], .rf, .ts d a none,
 .i .i64 (a : Int), .i .i64 G, .ts f c H,
 .i .i64 (c : Int), .i .i64 e]
 h)
 (K .normal 156
 [.lb
 (vMD d a g j l m n o),
 .lb
 (vCF p q r I J L M N O P Q R S t u v w x y z A B C D E F),
 .b b4, .lb [.s s, .s s_1], .rf, .ts d a none,
 .i .i64 (a : Int), .i .i64 G, .ts f c H,
 .i .i64 (c : Int), .i .i64 (IntKind.i64.wrap (e + (1 : Int)))]
 h)))
 (K (.exit 4) 156
 [.lb
 (vMD d a g j l m n o),
 .lb
 (vCF p q r I J L M N O P Q R S t u v w x y z A B C D E F),
 .b b4, T, .rf, .ts d a none, .i .i64 (a : Int),
 .i .i64 G, .ts f c H, .i .i64 (c : Int), .i .i64 e]
 h)) := by kernel_rfl
theorem ZD5 (c : List V) (a : Nat) (d : List V) (e : Nat) (f : List V) (g : Nat) (j l m : Int) (n : List V) (o : Nat) (p : List V) (q : Nat) (r t u v w : Int) (x : List V) (y : Nat) (z : List V) (A : Nat) (B : List V) (C : Nat) (b4 : Bool) (D : V) (E : Int) (F G H I J L M N O P : List UInt8) (h : Heap) (K : KT) : (Zc UY (UY.loc 6) 100 (((post (flat (Zv (post (flat (Za Tryz.f6)))))).drop 1)) ⟨mk 156 (([2, 3, 4, 10, 16, 67, 68, 69] : List Nat).zip [V.lb (vMD c a d e f g j l), V.lb (vCF m n o F G H I J L M N O P p q r t u v w x y z A B C), V.b b4, D, V.rf, V.ts c a none, V.i .i64 (a : Int), V.i .i64 E]), [], h⟩ (VQ [2, 3, 4, 10, 16, 67, 68, 69] K)) =
 (K .normal 156
 [.lb
 (vMD c a d e f g j l),
 .lb
 (vCF m n o F G H I J L M N O P p q r t u v w x y z A B C),
 .b b4, D, .rf, .ts c a none, .i .i64 (a : Int),
 .i .i64 (IntKind.i64.wrap (E + (1 : Int)))]
 h) := by kernel_rfl
theorem ZD6 (G : List V) (H : Nat) (I : List V) (J : Nat) (b : List V) (a : Nat) (L M c : Int) (d : List V) (e : Nat) (f : List V) (g : Nat) (j l m n o : Int) (p : List V) (q : Nat) (r : List V) (t : Nat) (u : List V) (v : Nat) (w x y z A B C D E F : List UInt8) (h : Heap) (K : KT) : (Zc UY (UY.loc 6) 100 (pre ((post (flat (Za Tryz.f6))).drop 1)) ⟨mk 156 (([2, 3] : List Nat).zip [V.lb (vMD G H I J b a L M), V.lb (vCF c d e w x y z A B C D E F f g j l m n o p q r t u v)]), [], h⟩ (VQ [3, 129, 130, 131] K)) =
 (K .normal 156
 [.lb
 (vCF c d e w x y z A B C D E F f g j l m n o p q r t u v),
 .ts b a none, .i .i64 (a : Int), .i .i64 0]
 h) := by kernel_rfl
theorem ZD7 (e : List V) (a : Nat) (f : Int) (g : List V) (j : Nat) (m : List V) (o : Nat) (p q r t u : Int) (w : List V) (x : Nat) (y : List V) (z : Nat) (A : List V) (B : Nat) (C D E F G H I J L M : List UInt8) (d : Int) (h : Heap) (K : KT) : (Zc UY (UY.loc 6) 100 ((flat (Zv (post ((post (flat (Za Tryz.f6))).drop 1))))) ⟨mk 156 (([3, 129, 130, 131] : List Nat).zip [V.lb (vCF f g j C D E F G H I J L M m o p q r t u w x y z A B), V.ts e a none, V.i .i64 (a : Int), V.i .i64 d]), [], h⟩ (VQ [3, 4, 129, 130, 131] K)) =
 (If (ltI d a)
 ((0 ≤ d ∧ d < a) ∧
 ∃ (n : Int) (cs : List V) (l : Nat) (c : Option Nat), Zh 2 (List.drop (d.toNat * 2) e) = some [V.i .i64 n, V.ts cs l c] ∧
 ∃ (b : Bool),
 (PCon UY 16 [V.agg [V.i .i64 n, V.ts cs l c]] fun v => v = V.b b) ∧
 If (!b)
 (K .ret 156
 [.lb
 (vCF f g j C D E F G H I J L M m o p q r t u w x y z A B),
 .b false, .ts e a none, .i .i64 (a : Int), .i .i64 d]
 h)
 (K .normal 156
 [.lb
 (vCF f g j C D E F G H I J L M m o p q r t u w x y z A B),
 .undef, .ts e a none, .i .i64 (a : Int),
 .i .i64 (IntKind.i64.wrap (d + (1 : Int)))]
 h))
 (K (.exit 6) 156
 [.lb
 (vCF f g j C D E F G H I J L M m o p q r t u w x y z A B),
 .undef, .ts e a none, .i .i64 (a : Int), .i .i64 d]
 h)) := by kernel_rfl
theorem ZD8 (c : Int) (d : List V) (e : Nat) (f : List V) (g : Nat) (j l m n o : Int) (p : List V) (q : Nat) (r : List V) (t : Nat) (b : List V) (a : Nat) (u v w x y z A B C D : List UInt8) (h : Heap) (K : KT) : (Zc UY (UY.loc 6) 100 (pre ((post ((post (flat (Za Tryz.f6))).drop 1)).drop 1)) ⟨mk 156 (([3] : List Nat).zip [V.lb (vCF c d e u v w x y z A B C D f g j l m n o p q r t b a)]), [], h⟩ (VQ [3, 140, 141, 142] K)) =
 (K .normal 156
 [.lb
 (vCF c d e u v w x y z A B C D f g j l m n o p q r t b a),
 .ts b a none, .i .i64 (a : Int), .i .i64 0]
 h) := by kernel_rfl
theorem Zz7 (f : Int) (g : List V) (j : Nat) (m : List V) (o : Nat) (p q r t u : Int) (w : List V) (x : Nat) (y : List V) (z : Nat) (d : List V) (a : Nat) (A B C D E F G H I J : List UInt8) (e : Int) (h : Heap) (K : KT) : (Zc UY (UY.loc 6) 100 ((flat (Zv (post ((post ((post (flat (Za Tryz.f6))).drop 1)).drop 1))))) ⟨mk 156 (([3, 140, 141, 142] : List Nat).zip [V.lb (vCF f g j A B C D E F G H I J m o p q r t u w x y z d a), V.ts d a none, V.i .i64 (a : Int), V.i .i64 e]), [], h⟩ (VQ [3, 4, 140, 141, 142] K)) =
 (If (ltI e a)
 ((0 ≤ e ∧ e < a) ∧
 ∃ (b b_1 b_2 : Bool) (n n_1 : Int) (s : List UInt8) (cs : List V) (l : Nat) (c : Option Nat) (s_1 : List UInt8) (cs_1 : List V) (l_1 : Nat) (c_1 : Option Nat) (s_2 s_3 : List UInt8), Zh 11 (List.drop (e.toNat * 11) d) =
 some
 (vSD b b_1 b_2 n n_1 s cs l c s_1 cs_1 l_1 c_1 s_2 s_3) ∧
 ∃ (b_3 : Bool),
 (PCon UY 17
 [V.agg
 (vSD b b_1 b_2 n n_1 s cs l c s_1 cs_1 l_1 c_1 s_2 s_3)]
 fun v => v = V.b b_3) ∧
 If (!b_3)
 (K .ret 156
 [.lb
 (vCF f g j A B C D E F G H I J m o p q r t u w x y z d a),
 .b false, .ts d a none, .i .i64 (a : Int),
 .i .i64 e]
 h)
 (If (ltI 70 (↑s_3.length : Int))
 (K .ret 156
 [.lb
 (vCF f g j A B C D E F G H I J m o p q r t u w x y z d a),
 .b false, .ts d a none, .i .i64 (a : Int),
 .i .i64 e]
 h)
 (K .normal 156
 [.lb
 (vCF f g j A B C D E F G H I J m o p q r t u w x y z d a),
 .undef, .ts d a none, .i .i64 (a : Int),
 .i .i64 (IntKind.i64.wrap (e + (1 : Int)))]
 h)))
 (K (.exit 8) 156
 [.lb
 (vCF f g j A B C D E F G H I J m o p q r t u w x y z d a),
 .undef, .ts d a none, .i .i64 (a : Int), .i .i64 e]
 h)) := by kernel_rfl
theorem Zz8 (h : Heap) (K : KT) : (Zc UY (UY.loc 6) 100 (((post ((post ((post (flat (Za Tryz.f6))).drop 1)).drop 1)).drop 1)) ⟨mk 156 (([] : List Nat).zip []), [], h⟩ (VQ [4] K)) =
 (K .ret 156 [.b true] h) := by kernel_rfl
theorem Zz9 (a : List V) (n0 : Nat) (h : Heap) (K : KT) : (Zc UY (UY.loc 15) 100 (pre (flat (Za Tryz.f15))) ⟨(V.ts a n0 none :: List.replicate 24 .undef), [], h⟩ (VQ [2, 8, 9, 10] K)) =
 (If (ltI 20 n0) (K .ret 25 [.b false, .undef, .undef, .undef] h)
 (K .normal 25 [.b false, .ts a n0 none, .i .i64 (n0 : Int), .i .i64 0] h)) := by kernel_rfl
theorem ZAa (c : List V) (n0 : Nat) (a : Int) (h : Heap) (K : KT) : (Zc UY (UY.loc 15) 100 ((flat (Zv (post (flat (Za Tryz.f15)))))) ⟨mk 25 (([8, 9, 10] : List Nat).zip [V.ts c n0 none, V.i .i64 (n0 : Int), V.i .i64 a]), [], h⟩ (VQ [2, 8, 9, 10] K)) =
 (If (ltI a n0)
 ((0 ≤ a ∧ a < n0) ∧
 ∃ (s s_1 : List UInt8), Zh 2 (List.drop (a.toNat * 2) c) = some [V.s s, V.s s_1] ∧
 If (ltI 60 (↑s.length : Int))
 (K .ret 25 [.b false, .ts c n0 none, .i .i64 (n0 : Int), .i .i64 a] h)
 (If (ltI 60 (↑s_1.length : Int))
 (K .ret 25 [.b false, .ts c n0 none, .i .i64 (n0 : Int), .i .i64 a] h)
 (K .normal 25
 [.undef, .ts c n0 none, .i .i64 (n0 : Int),
 .i .i64 (IntKind.i64.wrap (a + (1 : Int)))]
 h)))
 (K (.exit 0) 25 [.undef, .ts c n0 none, .i .i64 (n0 : Int), .i .i64 a]
 h)) := by kernel_rfl
theorem ZAb (h : Heap) (K : KT) : (Zc UY (UY.loc 15) 100 (((post (flat (Za Tryz.f15))).drop 1)) ⟨mk 25 (([] : List Nat).zip []), [], h⟩ (VQ [2] K)) =
 (K .ret 25 [.b true] h) := by kernel_rfl
/-! ### law20.Small, without sides -/
def Vl (w : Wat) : Bool := decide (w.text.length ≤ 40)
def JW (ws : List Wat) : Bool := decide (ws.length ≤ 12) && ws.all Vl

theorem Zuo (ins : List Ins) (ws : List Wat) : PCon UY 14 [.agg (XX ins ws), .ts [] 0 none] (· = .b (JW ws)) := by
 refine Zt UK (fn := Tryz.f14) (by kernel_rfl) (by kernel_rfl) rfl ?_
 refine ZH UK (n := 42) (loc := UY.loc 14) 100 [1, 4, 19, 20, 21] (by kernel_rfl) ?_
 refine Eq.mpr (ZBq (row ZC ins) ins.length (row ZD ws) ws.length [] 0 .empty _) ?_
 have no : ∀ (vs : List V) (h : Heap) (so : List Nat), JW ws = false → resV UY Tryz.f14 (so.zip vs) = some (.b false) → AtV so (FinS UY Tryz.f14 fun v h => ∃ r, Frz h v r ∧ r = .b (JW ws)) .ret 42 vs h := fun vs h so hne hv =>
  Zl (.inr rfl) hv ⟨_, .b _, by rw [hne]⟩
 refine Zw (fun h12 => no _ _ _ (by simp [JW, show ¬ ws.length ≤ 12 by omega]) rfl) (fun h12 => Zw (fun h9 => absurd h9 (by decide)) (fun _ => ?_))
 have h12 : ws.length ≤ 12 := by omega
 refine ⟨rfl, ZK [1, 19, 20, 21] [1, 4, 19, 20, 21] rfl (by kernel_rfl) (fun m vs _ => ∃ i : Nat, vs = [.ts [] 0 none, lst ZD ws, .i .i64 ws.length, .i .i64 (i : Nat)] ∧ i ≤ ws.length ∧ m = ws.length - i ∧ (ws.take i).all Vl = true) ws.length Zu ⟨0, rfl, by omega, by omega, by simp⟩ ?_⟩
 rintro m vs h ⟨i, rfl, hi, rfl, hp⟩
 refine ZI UK (loc := UY.loc 14) 100 [1, 4, 19, 20, 21] ?_
 refine Eq.mpr (ZBr (row ZD ws) ws.length [] 0 (i : Nat) h _) ?_
 refine Zg (fun hlt => ?_) (fun hge => ?_)
 ·refine ⟨bnd_nat hlt, _, _, _, _, _, _, _, by rw [Int.toNat_natCast]; exact Zr (f := ZD) (k := 7) QU hlt, Zw (fun h40 => no _ _ _ ?_ rfl) (fun h40 => ?_)⟩
  ·have : ws.all Vl = false := QT (p := Vl) hlt (by unfold Vl; simp; omega)
   simp [JW, this]
  ·exact ⟨rfl, ws.length - (i + 1), by omega, i + 1, by rw [Zf (by omega)]; rfl, by omega, rfl, Xo (p := Vl) hlt hp (by unfold Vl; simp; omega)⟩
 ·refine Ze [1] (by kernel_rfl) rfl rfl ?_
  rw [List.take_of_length_le hge] at hp
  refine ZH UK (n := 42) (loc := UY.loc 14) 100 [31, 32, 33] (by kernel_rfl) ?_
  refine Eq.mpr (ZBs [] 0 _ _) ?_
  refine ⟨rfl, ZK [31, 32, 33] [4, 31, 32, 33] rfl (by kernel_rfl) (fun m vs _ => vs = [.ts [] 0 none, .i .i64 ((0 : Nat) : Int), .i .i64 0]) 0 Zu rfl ?_⟩
  rintro m vs h rfl
  refine ZI UK (loc := UY.loc 14) 100 [4, 31, 32, 33] ?_
  refine Eq.mpr (ZBt [] 0 0 h _) ?_
  refine Zw (fun hlt => absurd hlt (by decide)) (fun _ => ?_)
  refine Ze [] (by kernel_rfl) rfl rfl ?_
  refine Zm UK (loc := UY.loc 14) 100 [4] ?_
  refine Eq.mpr (ZBu _ _) ?_
  exact Zs (.inr rfl) rfl (.b _) (by simp [JW, h12, hp])

def Zcw (k : Kid) : Bool := decide (k.len ≤ 0)
def XB (p : List UInt8 × List UInt8) : Bool := decide (p.1.length ≤ 60) && decide (p.2.length ≤ 60)
def JI (x : Ins) : Bool := decide (x.parts.length ≤ 6) && decide (x.list.length ≤ 12) && decide (x.name.length ≤ 60) && decide (x.kids.length ≤ 2) && x.kids.all Zcw && x.parts.all XB

/-! ### law14.Small, law16.Small -/
def memS (l : List (List UInt8 × List UInt8)) : Bool := decide (l.length ≤ 20) && l.all XB
theorem Zup (l : List (List UInt8 × List UInt8)) : PCon UY 15 [lst ZE l] (· = .b (memS l)) := by
 refine Zt UK (fn := Tryz.f15) (by kernel_rfl) (by kernel_rfl) rfl ?_
 refine Zp UK 25 (fun K => Zz9 (row ZE l) l.length .empty K) rfl (by kernel_rfl) ?_
 have no : ∀ (vs : List V) (h : Heap) (so : List Nat), memS l = false → resV UY Tryz.f15 (so.zip vs) = some (.b false) → AtV so (FinS UY Tryz.f15 fun v h => ∃ r, Frz h v r ∧ r = .b (memS l)) .ret 25 vs h := fun vs h so hne hv =>
  Zl (.inr rfl) hv ⟨_, .b _, by rw [hne]⟩
 refine Zw (fun h => no _ _ _ (by simp [memS]; intro; omega) rfl) (fun h20 => ⟨rfl, ZK [8, 9, 10] [2, 8, 9, 10] rfl (by kernel_rfl) (fun m vs _ => ∃ i : Nat, vs = [lst ZE l, .i .i64 l.length, .i .i64 (i : Nat)] ∧ i ≤ l.length ∧ m = l.length - i ∧ (l.take i).all XB = true) l.length Zu ⟨0, rfl, by omega, by omega, by simp⟩ ?_⟩)
 rintro m vs h ⟨i, rfl, hi, rfl, hp⟩
 refine Zq UK (fun K => ZAa (row ZE l) l.length (i : Nat) h K) rfl ?_
 refine Zg (fun hlt => ?_) (fun hge => ?_)
 ·have bad : XB l[i] = false → memS l = false := fun e => by
   have := QT (p := XB) hlt e
   simp [memS, this]
  refine ⟨bnd_nat hlt, _, _, by rw [Int.toNat_natCast]; exact Zr (f := ZE) (k := 2) Wu hlt, Zw (fun g => no _ _ _ (bad (by unfold XB; simp; omega)) rfl) (fun g1 => Zw (fun g => no _ _ _ (bad (by unfold XB; simp; omega)) rfl) (fun g2 => ?_))⟩
  exact ⟨rfl, l.length - (i + 1), by omega, i + 1, by rw [Zf (by omega)]; rfl, by omega, rfl, Xo (p := XB) hlt hp (by unfold XB; simp; omega)⟩
 ·refine Ze [] (by kernel_rfl) rfl rfl ?_
  refine ZB UK (fun K => ZAb h K) rfl ?_
  rw [List.take_of_length_le hge] at hp
  exact Zs (.inr rfl) rfl (.b _) (by simp [memS, hp]; omega)
def Wz (p : Int × List Plc) : Bool := Wt p.2
def Jp (s : Side) : Bool := Xv s && decide (s.buffer.length ≤ 70)
def JJ (m : Mdl) (c : Cfg) : Bool := decide (m.ins.length ≤ 40) && decide (m.ps.length ≤ 9) && JW m.ws && memS c.vars && decide (c.sides.length ≤ 9) && decide (c.stack.length ≤ 9) && !ltI 20 (IntKind.i64.wrap ((c.before.length : Int) + (c.after.length : Int))) && !ltI 1152921504606846976 c.ela
def Qp (m : Mdl) (c : Cfg) : Bool := JJ m c && m.ins.all JI && m.ps.all Wz && c.sides.all Jp
abbrev hd6 (m : Mdl) (c : Cfg) (b : V) (v10 : V) (i : Nat) : List V := [.lb (mdlC m), .lb (cfgC c), b, v10, .rf, lst ZC m.ins, .i .i64 m.ins.length, .i .i64 (i : Nat)]
noncomputable abbrev Q6 (m : Mdl) (c : Cfg) : Out → St → Prop := FinS UY Tryz.f6 fun v h => ∃ r, Frz h v r ∧ r = .b (Qp m c)
def I6 (m : Mdl) (c : Cfg) (k : Nat) (vs : List V) (_ : Heap) : Prop :=
 ∃ (i : Nat) (b : Bool) (v10 : V), vs = hd6 m c (.b b) v10 i ∧ i ≤ m.ins.length ∧ k = m.ins.length - i ∧ (m.ins.take i).all JI = true
theorem no6 {m : Mdl} {c : Cfg} (hne : Qp m c = false) {so : List Nat} {vs : List V} (hv : resV UY Tryz.f6 (so.zip vs) = some (.b false)) (h : Heap) : AtV so (Q6 m c) .ret 156 vs h :=
 Zl (.inr rfl) hv ⟨_, .b _, by rw [hne]⟩

theorem Zlo (m : Mdl) (c : Cfg) : PCon UY 6 [.agg (mdlC m), .agg (cfgC c)] (· = .b (Qp m c)) := by
 refine Zt UK (fn := Tryz.f6) (by kernel_rfl) (by kernel_rfl) rfl ?_
 refine Zp UK 156 (fun K => ZDz (row ZC m.ins) m.ins.length (row ZD m.ws) m.ws.length (row ZF m.ps) m.ps.length m.lat m.mat c.pc (row ZE c.vars) c.vars.length c.c0 c.c1 c.c2 c.c3 c.c4 c.c5 c.c6 c.c7 c.c8 c.c9 (row encI c.stack) c.stack.length c.mode c.err c.use c.tmo c.ela (row encI c.before) c.before.length (row encI c.after) c.after.length (row Zn c.sides) c.sides.length .empty K) rfl (by kernel_rfl) ?_
 have noh : JJ m c = false → Qp m c = false := fun h => by simp [Qp, h]
 refine Zw (fun h => no6 (noh (by simp [JJ, show ¬ m.ins.length ≤ 40 by omega])) rfl _) (fun h40 => ?_)
 refine Zw (fun h => no6 (noh (by simp [JJ, show ¬ m.ps.length ≤ 9 by omega])) rfl _) (fun h9 => ?_)
 have nsc : JW m.ws = false → Qp m c = false := fun h => noh (by simp [JJ, h])
 have nsm : memS c.vars = false → Qp m c = false := fun h => noh (by simp [JJ, h])
 refine ⟨_, (Zuo m.ins m.ws).wk (.agg _ _ _ _ (WkL.refl _) (.one _ _ _ _ (.inr (.inl ⟨_, _, _, rfl, rfl, fun x hx => by cases hx⟩)) .nil)), Zd (fun h => no6 (nsc (by simpa using h)) rfl _) (fun h => ⟨_, Zup c.vars, Zd (fun h => no6 (nsm (by simpa using h)) rfl _) (fun h' => ?_)⟩)⟩
 have hc : JW m.ws = true := by simpa using h
 have hv : memS c.vars = true := by simpa using h'
 refine Zw (fun h => no6 (noh (by simp [JJ, show ¬ c.sides.length ≤ 9 by omega])) rfl _) (fun hs9 => ?_)
 refine Zw (fun h => no6 (noh (by simp [JJ, show ¬ c.stack.length ≤ 9 by omega])) rfl _) (fun hk9 => ?_)
 refine Zd (fun h => no6 (noh (by simp only [JJ, h, Bool.not_true, Bool.and_false, Bool.false_and])) rfl _) (fun hba => ?_)
 refine Zd (fun h => no6 (noh (by simp only [JJ, h, Bool.not_true, Bool.and_false])) rfl _) (fun hel => ?_)
 have hh : JJ m c = true := by
  unfold JJ
  rw [decide_eq_true (show m.ins.length ≤ 40 by omega), decide_eq_true (show m.ps.length ≤ 9 by omega), hc, hv, decide_eq_true (show c.sides.length ≤ 9 by omega), decide_eq_true (show c.stack.length ≤ 9 by omega), hba, hel]
  rfl
 refine ⟨rfl, ZK [2, 3, 4, 10, 16, 67, 68, 69] [2, 3, 4, 10, 16, 67, 68, 69] rfl (by kernel_rfl) (I6 m c) m.ins.length Zu ⟨0, _, _, rfl, by omega, by omega, by simp⟩ ?_⟩
 rintro k vs h1 ⟨i, b, v10, rfl, hi, rfl, hp⟩
 refine Zp UK 156 (fun K => ZD0 (row ZC m.ins) m.ins.length (row ZD m.ws) m.ws.length (row ZF m.ps) m.ps.length m.lat m.mat c.pc (row ZE c.vars) c.vars.length c.c0 c.c1 c.c2 c.c3 c.c4 c.c5 c.c6 c.c7 c.c8 c.c9 (row encI c.stack) c.stack.length c.mode c.err c.use c.tmo c.ela (row encI c.before) c.before.length (row encI c.after) c.after.length (row Zn c.sides) c.sides.length b v10 (i : Nat) h1 K) rfl (by kernel_rfl) ?_
 refine Zg (fun hlt => ?_) (fun hge => ?_)
 ·have out : JI m.ins[i] = false → Qp m c = false := fun e => by
   have := QT (p := JI) hlt e
   simp [Qp, this]
  refine ⟨rfl, Zgm (n := 156) [2, 3, 4, 10, 16, 67, 68, 69] (by kernel_rfl) ?_⟩
  refine Zp UK 156 (fun K => ZD1 (row ZC m.ins) m.ins.length (row ZD m.ws) m.ws.length (row ZF m.ps) m.ps.length m.lat m.mat c.pc (row ZE c.vars) c.vars.length c.c0 c.c1 c.c2 c.c3 c.c4 c.c5 c.c6 c.c7 c.c8 c.c9 (row encI c.stack) c.stack.length c.mode c.err c.use c.tmo c.ela (row encI c.before) c.before.length (row encI c.after) c.after.length (row Zn c.sides) c.sides.length b v10 (i : Nat) h1 K) rfl (by kernel_rfl) ?_
  refine ⟨bnd_nat hlt, _, _, _, _, _, _, _, _, _, _, _, _, _, _, _, _, _,  by rw [Int.toNat_natCast]; exact Zr (f := ZC) (k := 11) Zb8 hlt, ?_⟩
  generalize hx : m.ins[i] = x at *
  refine Zw (fun g => ZR rfl (ZR rfl (no6 (out (by simp [JI, show ¬ x.parts.length ≤ 6 by omega])) rfl _))) (fun g6 => ?_)
  refine Zw (fun g => ZR rfl (ZR rfl (no6 (out (by simp [JI, show ¬ x.list.length ≤ 12 by omega])) rfl _))) (fun g12 => ?_)
  refine Zw (fun g => ZR rfl (ZR rfl (no6 (out (by simp [JI, show ¬ x.name.length ≤ 60 by omega])) rfl _))) (fun g60 => ?_)
  refine Zw (fun g => ZR rfl (ZR rfl (no6 (out (by simp [JI, show ¬ x.kids.length ≤ 2 by omega])) rfl _))) (fun g2 => ?_)
  refine ⟨rfl, ZK [2, 3, 4, 6, 10, 16, 67, 68, 69, 98, 99, 100] [2, 3, 4, 6, 10, 16, 67, 68, 69, 98, 99, 100] rfl (by kernel_rfl) (fun k vs _ => ∃ (j : Nat) (b : Bool) (v10 : V), vs = [.lb (mdlC m), .lb (cfgC c), .b b, .lb (ZC x), v10, .rf, lst ZC m.ins, .i .i64 m.ins.length, .i .i64 (i : Nat), lst encK x.kids, .i .i64 x.kids.length, .i .i64 (j : Nat)] ∧ j ≤ x.kids.length ∧ k = x.kids.length - j ∧ (x.kids.take j).all Zcw = true) x.kids.length Zu ⟨0, _, _, rfl, by omega, by omega, by simp⟩ ?_⟩
  rintro k vs h2 ⟨j, b, v10, rfl, hj, rfl, hk⟩
  refine Zq UK (fun K => ZD2 (row ZC m.ins) m.ins.length (row ZD m.ws) m.ws.length (row ZF m.ps) m.ps.length m.lat m.mat c.pc (row ZE c.vars) c.vars.length (row encI c.stack) c.stack.length c.mode c.err c.use c.tmo c.ela (row encI c.before) c.before.length (row encI c.after) c.after.length (row Zn c.sides) c.sides.length b v10 (i : Nat) c.c0 c.c1 c.c2 c.c3 c.c4 c.c5 c.c6 c.c7 c.c8 c.c9 x.op x.a x.name x.n none (row ZE x.parts) x.parts.length x.ck x.cn x.cname x.cop none (row encK x.kids) x.kids.length none (row encI x.list) x.list.length none (row encK x.kids) x.kids.length x.kids.length (j : Nat) h2 K) rfl ?_
  refine Zg (fun hjl => ?_) (fun hjg => ?_)
  ·refine ⟨bnd_nat hjl, _, _, _, _, _, _, _,  by rw [Int.toNat_natCast]; exact Zr (f := encK) (k := 5) Zqc hjl, Zw (fun g => ?_) (fun g => ?_)⟩
   ·refine ZR rfl (ZR rfl (no6 (out ?_) rfl _))
    have : x.kids.all Zcw = false := QT (p := Zcw) hjl (by unfold Zcw; simp; omega)
    simp [JI, this]
   ·exact ⟨rfl, x.kids.length - (j + 1), by omega, j + 1, _, _, by rw [Zf (by omega)]; rfl, by omega, rfl, Xo (p := Zcw) hjl hk (by unfold Zcw; simp; omega)⟩
  ·rw [List.take_of_length_le hjg] at hk
   refine Ze [2, 3, 4, 6, 10, 16, 67, 68, 69] (by kernel_rfl) rfl rfl ?_
   refine Zp UK 156 (fun K => ZD3 (row ZC m.ins) m.ins.length (row ZD m.ws) m.ws.length (row ZF m.ps) m.ps.length m.lat m.mat c.pc (row ZE c.vars) c.vars.length (row encI c.stack) c.stack.length c.mode c.err c.use c.tmo c.ela (row encI c.before) c.before.length (row encI c.after) c.after.length (row Zn c.sides) c.sides.length b v10 (i : Nat) x.op x.a x.n none (row ZE x.parts) x.parts.length x.ck x.cn none (row encK x.kids) x.kids.length none (row encI x.list) x.list.length c.c0 c.c1 c.c2 c.c3 c.c4 c.c5 c.c6 c.c7 c.c8 c.c9 x.name x.cname x.cop h2 K) rfl (by kernel_rfl) ?_
   refine ⟨rfl, Zne [2, 3, 4, 10, 16, 67, 68, 69, 110, 111, 112] [2, 3, 4, 10, 16, 67, 68, 69, 110, 111, 112] rfl (by kernel_rfl) (fun k vs _ => ∃ (j : Nat) (b : Bool) (v10 : V), vs = [.lb (mdlC m), .lb (cfgC c), .b b, v10, .rf, lst ZC m.ins, .i .i64 m.ins.length, .i .i64 (i : Nat), lst ZE x.parts, .i .i64 x.parts.length, .i .i64 (j : Nat)] ∧ j ≤ x.parts.length ∧ k = x.parts.length - j ∧ (x.parts.take j).all XB = true) x.parts.length Zu ⟨0, _, _, rfl, by omega, by omega, by simp⟩ ?_⟩
   rintro k vs h3 ⟨j2, b, v10, rfl, hj2, rfl, hq⟩
   refine Zq UK (fun K => ZD4 (row ZC m.ins) m.ins.length (row ZD m.ws) m.ws.length (row ZF m.ps) m.ps.length m.lat m.mat c.pc (row ZE c.vars) c.vars.length (row encI c.stack) c.stack.length c.mode c.err c.use c.tmo c.ela (row encI c.before) c.before.length (row encI c.after) c.after.length (row Zn c.sides) c.sides.length b v10 (i : Nat) none (row ZE x.parts) x.parts.length c.c0 c.c1 c.c2 c.c3 c.c4 c.c5 c.c6 c.c7 c.c8 c.c9 (j2 : Nat) h3 K) rfl ?_
   refine Zg (fun hjl => ?_) (fun hjg2 => ?_)
   ·have bad : XB x.parts[j2] = false → Qp m c = false := fun e => out (by
     have := QT (p := XB) hjl e
     simp [JI, this])
    refine ⟨bnd_nat hjl, _, _, by rw [Int.toNat_natCast]; exact Zr (f := ZE) (k := 2) Wu hjl, Zw (fun g => ?_) (fun g1 => Zw (fun g => ?_) (fun g3 => ?_))⟩
    ·exact ZR rfl (ZR rfl (no6 (bad (by unfold XB; simp; omega)) rfl _))
    ·exact ZR rfl (ZR rfl (no6 (bad (by unfold XB; simp; omega)) rfl _))
    ·exact ⟨rfl, x.parts.length - (j2 + 1), by omega, j2 + 1, _, _, by rw [Zf (by omega)]; rfl, by omega, rfl, Xo (p := XB) hjl hq (by unfold XB; simp; omega)⟩
   ·rw [List.take_of_length_le hjg2] at hq
    simp only [VC]
    rw [if_pos (by kernel_rfl)]
    refine ZR rfl ?_
    refine ⟨rfl, [2, 3, 4, 10, 16, 67, 68, 69], rfl, ?_⟩
    refine Zq UK (fun K => ZD5 (row ZC m.ins) m.ins.length (row ZD m.ws) m.ws.length (row ZF m.ps) m.ps.length m.lat m.mat c.pc (row ZE c.vars) c.vars.length (row encI c.stack) c.stack.length c.mode c.err c.use c.tmo c.ela (row encI c.before) c.before.length (row encI c.after) c.after.length (row Zn c.sides) c.sides.length b v10 (i : Nat) c.c0 c.c1 c.c2 c.c3 c.c4 c.c5 c.c6 c.c7 c.c8 c.c9 h3 K) rfl ?_
    refine ⟨rfl, m.ins.length - (i + 1), by omega, i + 1, _, _, by rw [Zf (by omega)]; rfl, by omega, rfl, Xo (p := JI) hlt hp ?_⟩
    rw [hx]
    simp [JI, hk, hq, show x.parts.length ≤ 6 by omega, show x.list.length ≤ 12 by omega, show x.name.length ≤ 60 by omega, show x.kids.length ≤ 2 by omega]
 ·rw [List.take_of_length_le hge] at hp
  refine ZR rfl (Ze [2, 3] (by kernel_rfl) rfl rfl ?_)
  refine Zp UK 156 (fun K => ZD6 (row ZC m.ins) m.ins.length (row ZD m.ws) m.ws.length (row ZF m.ps) m.ps.length m.lat m.mat c.pc (row ZE c.vars) c.vars.length (row encI c.stack) c.stack.length c.mode c.err c.use c.tmo c.ela (row encI c.before) c.before.length (row encI c.after) c.after.length (row Zn c.sides) c.sides.length c.c0 c.c1 c.c2 c.c3 c.c4 c.c5 c.c6 c.c7 c.c8 c.c9 h1 K) rfl (by kernel_rfl) ?_
  refine ⟨rfl, ZK [3, 129, 130, 131] [3, 4, 129, 130, 131] rfl (by kernel_rfl) (fun k vs _ => ∃ j : Nat, vs = [.lb (cfgC c), lst ZF m.ps, .i .i64 m.ps.length, .i .i64 (j : Nat)] ∧ j ≤ m.ps.length ∧ k = m.ps.length - j ∧ (m.ps.take j).all Wz = true) m.ps.length Zu ⟨0, rfl, by omega, by omega, by simp⟩ ?_⟩
  rintro k vs h2 ⟨j, rfl, hj, rfl, hr⟩
  refine Zq UK (fun K => ZD7 (row ZF m.ps) m.ps.length c.pc (row ZE c.vars) c.vars.length (row encI c.stack) c.stack.length c.mode c.err c.use c.tmo c.ela (row encI c.before) c.before.length (row encI c.after) c.after.length (row Zn c.sides) c.sides.length c.c0 c.c1 c.c2 c.c3 c.c4 c.c5 c.c6 c.c7 c.c8 c.c9 (j : Nat) h2 K) rfl ?_
  refine Zg (fun hjl => ?_) (fun hjg => ?_)
  ·refine ⟨bnd_nat hjl, _, _, _, _,  by rw [Int.toNat_natCast]; exact Zr (f := ZF) (k := 2) QV hjl, _, Zkv m.ps[j].1 m.ps[j].2, Zd (fun g => ?_) (fun g => ?_)⟩
   ·have g : Wz m.ps[j] = false := by unfold Wz; simpa using g
    have := QT (p := Wz) hjl g
    exact no6 (by simp [Qp, this]) rfl _
   ·have g : Wz m.ps[j] = true := by unfold Wz; simpa using g
    exact ⟨rfl, m.ps.length - (j + 1), by omega, j + 1, by rw [Zf (by omega)]; rfl, by omega, rfl, Xo (p := Wz) hjl hr g⟩
  ·rw [List.take_of_length_le hjg] at hr
   refine Ze [3] (by kernel_rfl) rfl rfl ?_
   refine Zp UK 156 (fun K => ZD8 c.pc (row ZE c.vars) c.vars.length (row encI c.stack) c.stack.length c.mode c.err c.use c.tmo c.ela (row encI c.before) c.before.length (row encI c.after) c.after.length (row Zn c.sides) c.sides.length c.c0 c.c1 c.c2 c.c3 c.c4 c.c5 c.c6 c.c7 c.c8 c.c9 h2 K) rfl (by kernel_rfl) ?_
   refine ⟨rfl, ZK [3, 140, 141, 142] [3, 4, 140, 141, 142] rfl (by kernel_rfl) (fun k vs _ => ∃ j : Nat, vs = [.lb (cfgC c), lst Zn c.sides, .i .i64 c.sides.length, .i .i64 (j : Nat)] ∧ j ≤ c.sides.length ∧ k = c.sides.length - j ∧ (c.sides.take j).all Jp = true) c.sides.length Zu ⟨0, rfl, by omega, by omega, by simp⟩ ?_⟩
   rintro k vs h3 ⟨j, rfl, hj, rfl, ht⟩
   refine Zq UK (fun K => Zz7 c.pc (row ZE c.vars) c.vars.length (row encI c.stack) c.stack.length c.mode c.err c.use c.tmo c.ela (row encI c.before) c.before.length (row encI c.after) c.after.length (row Zn c.sides) c.sides.length c.c0 c.c1 c.c2 c.c3 c.c4 c.c5 c.c6 c.c7 c.c8 c.c9 (j : Nat) h3 K) rfl ?_
   refine Zg (fun hjl => ?_) (fun hjg => ?_)
   ·have bad : Jp c.sides[j] = false → Qp m c = false := fun e => by
     have := QT (p := Jp) hjl e
     simp [Qp, this]
    refine ⟨bnd_nat hjl, _, _, _, _, _, _, _, _, _, _, _, _, _, _, _,  by rw [Int.toNat_natCast]; exact Zr (f := Zn) (k := 11) (fun _ => rfl) hjl, _, Zie c.sides[j], Zd (fun g => ?_) (fun g => Zw (fun g2 => ?_) (fun g2 => ?_))⟩
    ·have g : Xv c.sides[j] = false := by simpa using g
     exact no6 (bad (by unfold Jp; rw [g]; rfl)) rfl _
    ·exact no6 (bad (by unfold Jp; simp; intro; omega)) rfl _
    ·have g : Xv c.sides[j] = true := by simpa using g
     exact ⟨rfl, c.sides.length - (j + 1), by omega, j + 1, by rw [Zf (by omega)]; rfl, by omega, rfl, Xo (p := Jp) hjl ht (by unfold Jp; rw [g]; simp; omega)⟩
   ·rw [List.take_of_length_le hjg] at ht
    refine Ze [] (by kernel_rfl) rfl rfl ?_
    refine ZB UK (fun K => Zz8 h3 K) rfl ?_
    exact Zs (.inr rfl) rfl (.b _) (by simp [Qp, hh, hp, hr, ht])
end Go.Y
