/- What the pieces of functions come to: printed by program. -/
import Derived.Test.YtkcgmnhojldoiaaGreatYTryzP
import Derived.Test.YtkcgmnhojldoiaaGreatYLoop
namespace Go.Y
open Go.Proofs
set_option maxRecDepth 1000000
set_option maxHeartbeats 0
theorem f7_0 (a : List V) (c : Nat) (d : List V) (e : Nat) (f : List V) (g : Nat) (j l m : Int) (o : List V) (p : Nat) (q r t u w x y z A B : List UInt8) (C : List V) (D : Nat) (E F G H I : Int) (J : List V) (L : Nat) (M : List V) (N : Nat) (O : List V) (P : Nat) (h : Heap) (K : KT) : (Zc UY (UY.loc 7) 100 ((flat (Za Tryz.f7))) ⟨(V.agg (vMD a c d e f g j l) :: V.agg (vCF m o p q r t u w x y z A B C D E F G H I J L M N O P) :: List.replicate 40 .undef), [], h⟩ (VQ [4] K)) =
 (∃ (n n_1 : Int), (PCon UY 18
 [V.agg
 (vMD a c d e f g j l),
 V.agg
 (vCF m o p q r t u w x y z A B C D E F G H I J L M N O P)]
 fun v => v = V.tup [V.i .i64 n, V.i .i64 n_1]) ∧
 If (ltI 0 n)
 (∃ (n_2 : Int),
 (PCon UY 19
 [V.agg
 (vMD a c d e f g j l),
 V.agg
 (vCF m o p q r t u w x y z A B C D E F G H I J L M N O P)]
 fun v => v = V.i .i64 n_2) ∧
 ∃ (n_3 n_4 : Int), (PCon UY 11
 [V.agg
 (vMD a c d e f g j l),
 V.agg
 (vCF m o p q r t u w x y z A B C D E F G H I J L M N O P)]
 fun v => v = V.tup [V.i .i64 n_3, V.i .i64 n_4]) ∧
 ∃ (n_5 : Int),
 (PCon UY 12
 [V.agg
 (vMD a c d e f g j l),
 V.agg
 (vCF m o p q r t u w x y z A B C D E F G H I J L M N O P)]
 fun v => v = V.i .i64 n_5) ∧
 If (n_5 == n)
 (If (n_3 == n_1) (K .ret 42 [.b (n_4 == n_2)] h)
 (K .ret 42 [.b false] h))
 (K .ret 42 [.b false] h))
 (∃ (n_2 n_3 : Int), (PCon UY 11
 [V.agg
 (vMD a c d e f g j l),
 V.agg
 (vCF m o p q r t u w x y z A B C D E F G H I J L M N O P)]
 fun v => v = V.tup [V.i .i64 n_2, V.i .i64 n_3]) ∧
 ∃ (n_4 : Int),
 (PCon UY 12
 [V.agg
 (vMD a c d e f g j l),
 V.agg
 (vCF m o p q r t u w x y z A B C D E F G H I J L M N O P)]
 fun v => v = V.i .i64 n_4) ∧
 If (n_4 == n)
 (If (n_2 == n_1) (K .ret 42 [.b (n_3 == (-1 : Int))] h)
 (K .ret 42 [.b false] h))
 (K .ret 42 [.b false] h))) := by kernel_rfl
theorem f3_0 (a : List V) (c : Nat) (d : List V) (e : Nat) (f : List V) (g : Nat) (j l m : Int) (n : List V) (o : Nat) (p q r t u w x y z A : List UInt8) (B : List V) (C : Nat) (D E F G H : Int) (I : List V) (J : Nat) (L : List V) (M : Nat) (N : List V) (O : Nat) (h : Heap) (K : KT) : (Zc UY (UY.loc 3) 100 ((flat (Za Tryz.f3))) ⟨(V.agg (vMD a c d e f g j l) :: V.agg (vCF m n o p q r t u w x y z A B C D E F G H I J L M N O) :: List.replicate 12 .undef), [], h⟩ (VQ [4] K)) =
 (∃ (b : Bool),
 (PCon UY 5 [] fun v => v = V.b b) ∧
 If (!b) (K .ret 14 [.b false] h)
 (∃ (b : Bool),
 (PCon UY 6
 [V.agg
 (vMD a c d e f g j l),
 V.agg
 (vCF m n o p q r t u w x y z A B C D E F G H I J L M N O)]
 fun v => v = V.b b) ∧
 If (!b) (K .ret 14 [.b true] h)
 (∃ (b : Bool),
 (PCon UY 7
 [V.agg
 (vMD a c d e f g j l),
 V.agg
 (vCF m n o p q r t u w x y z A B C D E F G H I J L M N O)]
 fun v => v = V.b b) ∧
 K .ret 14 [.b b] h))) := by kernel_rfl
theorem ZCd (d : List V) (b : Nat) (e : List V) (f : Nat) (g : List V) (j : Nat) (m o a : Int) (p : List V) (q : Nat) (r t u v w x y z A B : List UInt8) (C : List V) (D : Nat) (E F G H I : Int) (J : List V) (L : Nat) (M : List V) (N : Nat) (O : List V) (P : Nat) (h : Heap) (K : KT) : (Zc UY (UY.loc 63) 100 ((flat (Za Tryz.f63))) ⟨(V.agg (vMD d b e f g j m o) :: V.agg (vCF a p q r t u v w x y z A B C D E F G H I J L M N O P) :: List.replicate 23 .undef), [], h⟩ (VQ [4] K)) =
 (If (ltI a 0)
 (K .ret 25
 [.lb
 [.i .i64 0, .i .i64 0, .s [], .i .i64 0,
 .sl none 0 (some 0) 0, .i .i64 0, .i .i64 0,
 .s [], .s [], .sl none 0 (some 0) 0,
 .sl none 0 (some 0) 0]]
 h)
 (If (leI b a)
 (K .ret 25
 [.lb
 [.i .i64 0, .i .i64 0, .s [], .i .i64 0,
 .sl none 0 (some 0) 0, .i .i64 0, .i .i64 0,
 .s [], .s [], .sl none 0 (some 0) 0,
 .sl none 0 (some 0) 0]]
 h)
 ((0 ≤ a ∧ a < b) ∧
 ∃ (n n_1 : Int) (s : List UInt8) (n_2 : Int) (cs : List V) (l : Nat) (c : Option Nat) (n_3 n_4 : Int) (s_1 s_2 : List UInt8) (cs_1 : List V) (l_1 : Nat) (c_1 : Option Nat) (cs_2 : List V) (l_2 : Nat) (c_2 : Option Nat), Zh 11 (List.drop (a.toNat * 11) d) =
 some
 [V.i .i64 n, V.i .i64 n_1, V.s s, V.i .i64 n_2,
 V.ts cs l c, V.i .i64 n_3, V.i .i64 n_4, V.s s_1, V.s s_2,
 V.ts cs_1 l_1 c_1, V.ts cs_2 l_2 c_2] ∧
 K .ret 25
 [.lb
 [.i .i64 n, .i .i64 n_1, .s s, .i .i64 n_2,
 .ts cs l c, .i .i64 n_3, .i .i64 n_4, .s s_1,
 .s s_2, .ts cs_1 l_1 c_1, .ts cs_2 l_2 c_2]]
 h))) := by kernel_rfl
theorem ZCe (d : List V) (b : Nat) (e : List V) (f : Nat) (g : List V) (j : Nat) (m o a : Int) (p : List V) (q : Nat) (r t u v w x y z A B : List UInt8) (C : List V) (D : Nat) (E F G H I : Int) (J : List V) (L : Nat) (M : List V) (N : Nat) (O : List V) (P : Nat) (h : Heap) (K : KT) : (Zc UY (UY.loc 88) 100 ((flat (Za Tryz.f88))) ⟨(V.agg (vMD d b e f g j m o) :: V.agg (vCF a p q r t u v w x y z A B C D E F G H I J L M N O P) :: List.replicate 23 .undef), [], h⟩ (VQ [4] K)) =
 (If (ltI a 0)
 (K .ret 25
 [.lb
 [.i .i64 0, .i .i64 0, .s [], .i .i64 0,
 .sl none 0 (some 0) 0, .i .i64 0, .i .i64 0,
 .s [], .s [], .sl none 0 (some 0) 0,
 .sl none 0 (some 0) 0]]
 h)
 (If (leI b a)
 (K .ret 25
 [.lb
 [.i .i64 0, .i .i64 0, .s [], .i .i64 0,
 .sl none 0 (some 0) 0, .i .i64 0, .i .i64 0,
 .s [], .s [], .sl none 0 (some 0) 0,
 .sl none 0 (some 0) 0]]
 h)
 ((0 ≤ a ∧ a < b) ∧
 ∃ (n n_1 : Int) (s : List UInt8) (n_2 : Int) (cs : List V) (l : Nat) (c : Option Nat) (n_3 n_4 : Int) (s_1 s_2 : List UInt8) (cs_1 : List V) (l_1 : Nat) (c_1 : Option Nat) (cs_2 : List V) (l_2 : Nat) (c_2 : Option Nat), Zh 11 (List.drop (a.toNat * 11) d) =
 some
 [V.i .i64 n, V.i .i64 n_1, V.s s, V.i .i64 n_2,
 V.ts cs l c, V.i .i64 n_3, V.i .i64 n_4, V.s s_1, V.s s_2,
 V.ts cs_1 l_1 c_1, V.ts cs_2 l_2 c_2] ∧
 K .ret 25
 [.lb
 [.i .i64 n, .i .i64 n_1, .s s, .i .i64 n_2,
 .ts cs l c, .i .i64 n_3, .i .i64 n_4, .s s_1,
 .s s_2, .ts cs_1 l_1 c_1, .ts cs_2 l_2 c_2]]
 h))) := by kernel_rfl
theorem ZCf (a : List V) (b : Nat) (d : List V) (e : Nat) (f : List V) (n1 : Nat) (x2 : Int) (h : Heap) (K : KT) : (Zc UY (UY.loc 42) 100 (pre (flat (Za Tryz.f42))) ⟨(V.agg [V.ts a b none, V.ts d e none] :: V.ts f n1 none :: V.i .i64 x2 :: List.replicate 78 .undef), [], h⟩ (VQ [2, 3, 4, 7, 8, 9] K)) =
 (∃ (cs : List V) (l : Nat) (c : Option Nat), (PCon UY 73 [V.agg [V.ts a b none, V.ts d e none], V.ts f n1 none]
 fun v => v = V.ts cs l c) ∧
 K .normal 81
 [.i .i64 x2, .lb [.ts a b none, .ts d e none], .undef,
 .sl none 0 (some 0) 0, .ts cs l c, .i .i64 0]
 h) := by kernel_rfl
theorem ZCg (a : List V) (b : Nat) (c : List V) (d : Nat) (x2 : Int) (c8 : Option Nat) (e : List V) (n8 : Nat) (f : Option (Nat × Nat)) (g : Nat) (j : Option Nat) (l : Nat) (x9 : Int) (h : Heap) (K : KT) : (Zc UY (UY.loc 42) 100 (pre (flat (Zv (post (flat (Za Tryz.f42)))))) ⟨mk 81 (([2, 3, 4, 7, 8, 9] : List Nat).zip [V.i .i64 x2, V.lb [V.ts a b none, V.ts c d none], V.undef, V.sl f g j l, V.ts e n8 c8, V.i .i64 x9]), [], h⟩ (VQ [2, 3, 4, 7, 8, 9] K)) =
 (If (ltI x9 n8)
 (K .normal 81
 [.i .i64 x2, .lb [.ts a b none, .ts c d none], .undef,
 .sl f g j l, .ts e n8 c8, .i .i64 x9]
 h)
 (K (.exit 0) 81
 [.i .i64 x2, .lb [.ts a b none, .ts c d none], .undef,
 .sl f g j l, .ts e n8 c8, .i .i64 x9]
 h)) := by kernel_rfl
theorem ZCh (e : List V) (f : Nat) (a : List V) (c : Nat) (x2 : Int) (c8 : Option Nat) (d : List V) (n8 : Nat) (g : Option (Nat × Nat)) (j : Nat) (l : Option Nat) (m : Nat) (x9 : Int) (h : Heap) (K : KT) : (Zc UY (UY.loc 42) 100 (pre (flat (Xx (post (flat (Zv (post (flat (Za Tryz.f42))))))))) ⟨mk 81 (([2, 3, 4, 7, 8, 9] : List Nat).zip [V.i .i64 x2, V.lb [V.ts e f none, V.ts a c none], V.undef, V.sl g j l m, V.ts d n8 c8, V.i .i64 x9]), [], h⟩ (VQ [2, 3, 4, 7, 8, 9, 11, 12] K)) =
 ((0 ≤ x9 ∧ x9 < n8) ∧
 ∃ (n : Int),
 Zh 1 (List.drop (x9.toNat * 1) d) = some [V.i .i64 n] ∧
 (0 ≤ n ∧ n < c) ∧
 ∃ (n_1 n_2 n_3 : Int) (s : List UInt8) (n_4 : Int) (b : Bool) (n_5 : Int), Zh 7 (List.drop (n.toNat * 7) a) =
 some
 [V.i .i64 n_1, V.i .i64 n_2, V.i .i64 n_3, V.s s, V.i .i64 n_4,
 V.b b, V.i .i64 n_5] ∧
 ∃ (n : Int),
 (PCon UY 91
 [V.agg
 [V.i .i64 n_1, V.i .i64 n_2, V.i .i64 n_3, V.s s,
 V.i .i64 n_4, V.b b, V.i .i64 n_5],
 V.i .i64 x2]
 fun v => v = V.i .i64 n) ∧
 If (n_1 == (2 : Int))
 (K (.exit 1) 81
 [.i .i64 x2,
 .lb [.ts e f none, .ts a c none], .undef,
 .sl g j l m, .ts d n8 c8, .i .i64 x9, .i .i64 n,
 .undef]
 h)
 (If (ltI n 0)
 (K (.exit 1) 81
 [.i .i64 x2,
 .lb [.ts e f none, .ts a c none], .undef,
 .sl g j l m, .ts d n8 c8, .i .i64 x9, .i .i64 n,
 .undef]
 h)
 (K .normal 81
 [.i .i64 x2,
 .lb [.ts e f none, .ts a c none], .undef,
 .sl g j l m, .ts d n8 c8, .i .i64 x9, .i .i64 n,
 .i .i64 0]
 h))) := by kernel_rfl
theorem ZCi (a : List V) (d : Nat) (e : List V) (f : Nat) (g : List V) (n1 : Nat) (x2 x3 : Int) (h : Heap) (K : KT) : (Zc UY (UY.loc 43) 100 (pre (flat (Za Tryz.f43))) ⟨(V.agg [V.ts a d none, V.ts e f none] :: V.ts g n1 none :: V.i .i64 x2 :: V.i .i64 x3 :: List.replicate 64 .undef), [], h⟩ (VQ [1, 2, 3, 4, 5, 9, 10, 11] K)) =
 (∃ (cs : List V) (l : Nat) (c : Option Nat), (PCon UY 42
 [V.agg [V.ts a d none, V.ts e f none], V.ts g n1 none, V.i .i64 x3]
 fun v => v = V.ts cs l c) ∧
 K .normal 68
 [.ts g n1 none, .i .i64 x2, .i .i64 x3,
 .lb [.ts a d none, .ts e f none], .undef, .b false, .ts cs l c,
 .i .i64 0]
 h) := by kernel_rfl
theorem ZCj (e : List V) (f : Nat) (g : List V) (j : Nat) (l : List V) (n1 : Nat) (x2 x3 : Int) (m : Option Nat) (d : List V) (c : Nat) (b9 : Bool) (a : Int) (h : Heap) (K : KT) : (Zc UY (UY.loc 43) 100 ((flat (Zv (post (flat (Za Tryz.f43)))))) ⟨mk 68 (([1, 2, 3, 4, 5, 9, 10, 11] : List Nat).zip [V.ts l n1 none, V.i .i64 x2, V.i .i64 x3, V.lb [V.ts e f none, V.ts g j none], V.undef, V.b b9, V.ts d c m, V.i .i64 a]), [], h⟩ (VQ [1, 2, 3, 4, 5, 9, 10, 11] K)) =
 (If (ltI a c)
 (If b9
 (K .normal 68
 [.ts l n1 none, .i .i64 x2, .i .i64 x3,
 .lb [.ts e f none, .ts g j none], .undef, .b true, .ts d c m,
 .i .i64 (IntKind.i64.wrap (a + (1 : Int)))]
 h)
 ((0 ≤ a ∧ a < c) ∧
 ∃ (n : Int),
 Zh 1 (List.drop (a.toNat * 1) d) = some [V.i .i64 n] ∧
 K .normal 68
 [.ts l n1 none, .i .i64 x2, .i .i64 x3,
 .lb [.ts e f none, .ts g j none], .undef, .b (n == x2),
 .ts d c m, .i .i64 (IntKind.i64.wrap (a + (1 : Int)))]
 h))
 (K (.exit 0) 68
 [.ts l n1 none, .i .i64 x2, .i .i64 x3,
 .lb [.ts e f none, .ts g j none], .undef, .b b9, .ts d c m,
 .i .i64 a]
 h)) := by kernel_rfl
theorem ZCk (a : List V) (d : Nat) (e : List V) (f : Nat) (g : List V) (n1 : Nat) (x2 x3 : Int) (b9 : Bool) (h : Heap) (K : KT) : (Zc UY (UY.loc 43) 100 (pre ((post (flat (Za Tryz.f43))).drop 1)) ⟨mk 68 (([1, 2, 3, 4, 5, 9] : List Nat).zip [V.ts g n1 none, V.i .i64 x2, V.i .i64 x3, V.lb [V.ts a d none, V.ts e f none], V.undef, V.b b9]), [], h⟩ (VQ [1, 2, 3, 4, 5, 9, 10, 12] K)) =
 (∃ (cs : List V) (l : Nat) (c : Option Nat), (PCon UY 73 [V.agg [V.ts a d none, V.ts e f none], V.ts g n1 none]
 fun v => v = V.ts cs l c) ∧
 K .normal 68
 [.ts g n1 none, .i .i64 x2, .i .i64 x3,
 .lb [.ts a d none, .ts e f none], .undef, .b b9, .ts cs l c,
 .i .i64 0]
 h) := by kernel_rfl
theorem ZCl (g : List V) (j : Nat) (d : List V) (e : Nat) (l : List V) (n1 : Nat) (x2 x3 : Int) (b9 : Bool) (m : Option Nat) (f : List V) (c : Nat) (a : Int) (h : Heap) (K : KT) : (Zc UY (UY.loc 43) 100 ((flat (Zv (post ((post (flat (Za Tryz.f43))).drop 1))))) ⟨mk 68 (([1, 2, 3, 4, 5, 9, 10, 12] : List Nat).zip [V.ts l n1 none, V.i .i64 x2, V.i .i64 x3, V.lb [V.ts g j none, V.ts d e none], V.undef, V.b b9, V.ts f c m, V.i .i64 a]), [], h⟩ (VQ [1, 2, 3, 4, 5, 8, 9, 10, 12] K)) =
 (If (ltI a c)
 ((0 ≤ a ∧ a < c) ∧
 ∃ (n : Int),
 Zh 1 (List.drop (a.toNat * 1) f) = some [V.i .i64 n] ∧
 (0 ≤ n ∧ n < e) ∧
 ∃ (n_1 n_2 n_3 : Int) (s : List UInt8) (n_4 : Int) (b : Bool) (n_5 : Int), Zh 7 (List.drop (n.toNat * 7) d) =
 some
 [V.i .i64 n_1, V.i .i64 n_2, V.i .i64 n_3, V.s s,
 V.i .i64 n_4, V.b b, V.i .i64 n_5] ∧
 If b9
 (If (n_1 == (4 : Int))
 (K .ret 68
 [.ts l n1 none, .i .i64 x2, .i .i64 x3,
 .lb [.ts g j none, .ts d e none], .undef,
 .b true, .b b9, .ts f c m, .i .i64 a]
 h)
 (If (n_1 == (3 : Int))
 (∃ (n : Int),
 (PCon UY 91
 [V.agg
 [V.i .i64 n_1, V.i .i64 n_2, V.i .i64 n_3, V.s s,
 V.i .i64 n_4, V.b b, V.i .i64 n_5],
 V.i .i64 x3]
 fun v => v = V.i .i64 n) ∧
 If (n == x2)
 (K .ret 68
 [.ts l n1 none, .i .i64 x2, .i .i64 x3,
 .lb [.ts g j none, .ts d e none], .undef,
 .b true, .b b9, .ts f c m, .i .i64 a]
 h)
 (K .normal 68
 [.ts l n1 none, .i .i64 x2, .i .i64 x3,
 .lb [.ts g j none, .ts d e none], .undef,
 .undef, .b b9, .ts f c m,
 .i .i64 (IntKind.i64.wrap (a + (1 : Int)))]
 h))
 (K .normal 68
 [.ts l n1 none, .i .i64 x2, .i .i64 x3,
 .lb [.ts g j none, .ts d e none], .undef,
 .undef, .b b9, .ts f c m,
 .i .i64 (IntKind.i64.wrap (a + (1 : Int)))]
 h)))
 (K .normal 68
 [.ts l n1 none, .i .i64 x2, .i .i64 x3,
 .lb [.ts g j none, .ts d e none], .undef, .undef,
 .b b9, .ts f c m, .i .i64 (IntKind.i64.wrap (a + (1 : Int)))]
 h))
 (K (.exit 2) 68
 [.ts l n1 none, .i .i64 x2, .i .i64 x3,
 .lb [.ts g j none, .ts d e none], .undef, .undef, .b b9,
 .ts f c m, .i .i64 a]
 h)) := by kernel_rfl
theorem ZCm (h : Heap) (K : KT) : (Zc UY (UY.loc 43) 100 (((post ((post (flat (Za Tryz.f43))).drop 1)).drop 1)) ⟨mk 68 (([] : List Nat).zip []), [], h⟩ (VQ [8] K)) =
 (K .ret 68 [.b false] h) := by kernel_rfl
theorem ZCn (g : List V) (j : Nat) (m : List V) (o : Nat) (p : List V) (q : Nat) (r t u : Int) (w : List V) (x : Nat) (y z A B C D E F G H : List UInt8) (I : List V) (J : Nat) (L M N O P : Int) (e : List V) (f : Nat) (b : List V) (d : Nat) (Q : List V) (R : Nat) (h : Heap) (K : KT) : (Zc UY (UY.loc 29) 100 ((flat (Za Tryz.f29))) ⟨(V.agg (vMD g j m o p q r t) :: V.agg (vCF u w x y z A B C D E F G H I J L M N O P e f b d Q R) :: List.replicate 23 .undef), [], h⟩ (VQ [4] K)) =
 (∃ (n n_1 : Int) (s : List UInt8) (n_2 : Int) (cs : List V) (l : Nat) (c : Option Nat) (n_3 n_4 : Int) (s_1 s_2 : List UInt8) (cs_1 : List V) (l_1 : Nat) (c_1 : Option Nat) (cs_2 : List V) (l_2 : Nat) (c_2 : Option Nat), (PCon UY 63
 [V.agg
 (vMD g j m o p q r t),
 V.agg
 (vCF u w x y z A B C D E F G H I J L M N O P e f b d Q R)]
 fun (v : V) =>
 v =
 V.agg
 [V.i .i64 n, V.i .i64 n_1, V.s s, V.i .i64 n_2,
 V.ts cs l c, V.i .i64 n_3, V.i .i64 n_4, V.s s_1, V.s s_2,
 V.ts cs_1 l_1 c_1, V.ts cs_2 l_2 c_2]) ∧
 If (n != (12 : Int))
 (K .ret 25 [.sl none 0 (some 0) 0] h)
 ((∃ (a : Option (Nat × Nat)) (l : Nat) (c : Option Nat) (k : Nat) (h_1 : Heap), Zk UY h 31 31
 (V.ts [] 0 (some 0))
 (V.ts e f none) =
 some (V.sl a l c k, h_1) ∧
 ∃ (a_1 : Option (Nat × Nat)) (l_3 : Nat) (c_3 : Option Nat) (k_1 : Nat) (h : Heap), Zk UY h_1 31 31
 (V.sl a l c k) (V.ts cs_2 l_2 c_2) =
 some (V.sl a_1 l_3 c_3 k_1, h) ∧
 ∃ (a : Option (Nat × Nat)) (l : Nat) (c : Option Nat) (k : Nat) (h_2 : Heap), Zk UY h 31 31
 (V.sl a_1 l_3 c_3 k_1)
 (V.ts b d none) =
 some (V.sl a l c k, h_2) ∧
 K .ret 25 [.sl a l c k] h_2) ∨
 Zk UY h 31 31
 (V.ts [] 0 (some 0)) (V.ts e f none) =
 some (V.ts [] 0 (some 0), h) ∧
 ((∃ (a : Option (Nat × Nat)) (l : Nat) (c : Option Nat) (k : Nat) (h_1 : Heap), Zk UY h 31 31
 (V.ts [] 0 (some 0))
 (V.ts cs_2 l_2 c_2) =
 some (V.sl a l c k, h_1) ∧
 ∃ (a_1 : Option (Nat × Nat)) (l_3 : Nat) (c_3 : Option Nat) (k_1 : Nat) (h : Heap), Zk UY h_1 31 31
 (V.sl a l c k) (V.ts b d none) =
 some (V.sl a_1 l_3 c_3 k_1, h) ∧
 K .ret 25 [.sl a_1 l_3 c_3 k_1] h) ∨
 Zk UY h 31 31
 (V.ts [] 0 (some 0)) (V.ts cs_2 l_2 c_2) =
 some (V.ts [] 0 (some 0), h) ∧
 ((∃ (a : Option (Nat × Nat)) (l : Nat) (c : Option Nat) (k : Nat) (h_1 : Heap), Zk UY h 31 31
 (V.ts [] 0 (some 0))
 (V.ts b d none) =
 some (V.sl a l c k, h_1) ∧
 K .ret 25 [.sl a l c k] h_1) ∨
 Zk UY h 31 31
 (V.ts [] 0 (some 0))
 (V.ts b d none) =
 some (V.ts [] 0 (some 0), h) ∧
 K .ret 25 [.ts [] 0 (some 0)] h)))) := by kernel_rfl
theorem ZCo (a : List V) (d : Nat) (e : List V) (f : Nat) (j : List V) (m : Nat) (n o q : Int) (r : List V) (t : Nat) (u w x y z A B C D E : List UInt8) (F : List V) (G : Nat) (g H p I J : Int) (L : List V) (M : Nat) (N : List V) (O : Nat) (P : List V) (Q : Nat) (h : Heap) (K : KT) : (Zc UY (UY.loc 18) 100 (pre (flat (Za Tryz.f18))) ⟨(V.agg (vMD a d e f j m n o) :: V.agg (vCF q r t u w x y z A B C D E F G g H p I J L M N O P Q) :: List.replicate 110 .undef), [], h⟩ (VQ [2, 3, 4, 5, 6, 7, 8, 19] K)) =
 (∃ (b : Bool),
 (PCon UY 23
 [V.agg
 (vMD a d e f j m n o)]
 fun v => v = V.b b) ∧
 If (!b)
 (K .ret 112
 [.lb
 (vMD a d e f j m n o),
 .lb
 (vCF q r t u w x y z A B C D E F G g H p I J L M N O P Q),
 .i .i64 0, .i .i64 (-1), .undef, .undef, .undef, .undef]
 h)
 (∃ (b : Bool),
 (PCon UY 24
 [V.agg
 (vMD a d e f j m n o),
 V.agg
 (vCF q r t u w x y z A B C D E F G g H p I J L M N O P Q)]
 fun v => v = V.b b) ∧
 If (!b)
 (K .ret 112
 [.lb
 (vMD a d e f j m n o),
 .lb
 (vCF q r t u w x y z A B C D E F G g H p I J L M N O P Q),
 .i .i64 0, .i .i64 (-1), .undef, .undef, .undef, .undef]
 h)
 (If (g == (3 : Int))
 (K .ret 112
 [.lb
 (vMD a d e f j m n o),
 .lb
 (vCF q r t u w x y z A B C D E F G g H p I J L M N O P Q),
 .i .i64 4, .i .i64 (-1), .undef, .undef, .undef, .rf]
 h)
 (If (g != (1 : Int))
 (K .ret 112
 [.lb
 (vMD a d e f j m n o),
 .lb
 (vCF q r t u w x y z A B C D E F G g H p I J L M N O P Q),
 .i .i64 0, .i .i64 (-1), .undef, .undef, .undef, .rf]
 h)
 (∃ (cs : List V) (l : Nat) (c : Option Nat), (PCon UY 29
 [V.agg
 (vMD a d e f j m n o),
 V.agg
 (vCF q r t u w x y z A B C D E F G g H p I J L M N O P Q)]
 fun v => v = V.ts cs l c) ∧
 ∃ (cs_1 : List V) (l_1 : Nat) (c_1 : Option Nat), (PCon UY 42
 [V.agg [V.ts a d none, V.ts e f none],
 V.ts cs l c, V.i .i64 p]
 fun v => v = V.ts cs_1 l_1 c_1) ∧
 K .normal 112
 [.lb
 (vMD a d e f j m n o),
 .lb
 (vCF q r t u w x y z A B C D E F G g H p I J L M N O P Q),
 .i .i64 0, .i .i64 0, .ts cs l c,
 .ts cs_1 l_1 c_1, .i .i64 0, .rf]
 h))))) := by kernel_rfl
theorem ZCp (f : List V) (g : Nat) (j : List V) (l : Nat) (m : List V) (o : Nat) (p d q : Int) (r : List V) (t : Nat) (u v w x y z A B C D : List UInt8) (E : List V) (F : Nat) (G H I J L : Int) (M : List V) (N : Nat) (O : List V) (P : Nat) (e : List V) (c : Nat) (c6 : Option Nat) (Q : List V) (n6 : Nat) (c7 : Option Nat) (b : List V) (n7 : Nat) (a : Int) (h : Heap) (K : KT) : (Zc UY (UY.loc 18) 100 ((flat (Zv (post (flat (Za Tryz.f18)))))) ⟨mk 112 (([2, 3, 6, 7, 8, 19] : List Nat).zip [V.lb (vMD f g j l m o p d), V.lb (vCF q r t u v w x y z A B C D E F G H I J L M N O P e c), V.ts Q n6 c6, V.ts b n7 c7, V.i .i64 a, V.rf]), [], h⟩ (VQ [2, 3, 4, 5, 6, 7, 8, 19] K)) =
 (If (ltI a n7)
 ((0 ≤ a ∧ a < n7) ∧
 ∃ (n : Int),
 Zh 1 (List.drop (a.toNat * 1) b) = some [V.i .i64 n] ∧
 If (ltI n c)
 ((0 ≤ a ∧ a < n7) ∧
 ∃ (n : Int),
 Zh 1 (List.drop (a.toNat * 1) b) = some [V.i .i64 n] ∧
 (0 ≤ n ∧ n < c) ∧
 ∃ (s : List UInt8),
 Zh 1 (List.drop 10 (List.drop (n.toNat * 11) e)) =
 some [V.s s] ∧
 If (leI d (↑s.length : Int))
 ((0 ≤ a ∧ a < n7) ∧
 ∃ (n : Int),
 Zh 1 (List.drop (a.toNat * 1) b) = some [V.i .i64 n] ∧
 K .ret 112
 [.lb
 (vMD f g j l m o p d),
 .lb
 (vCF q r t u v w x y z A B C D E F G H I J L M N O P e c),
 .i .i64 2, .i .i64 n, .ts Q n6 c6, .ts b n7 c7,
 .i .i64 a, .rf]
 h)
 (K .normal 112
 [.lb
 (vMD f g j l m o p d),
 .lb
 (vCF q r t u v w x y z A B C D E F G H I J L M N O P e c),
 .undef, .undef, .ts Q n6 c6, .ts b n7 c7,
 .i .i64 (IntKind.i64.wrap (a + (1 : Int))), .rf]
 h))
 (K .normal 112
 [.lb
 (vMD f g j l m o p d),
 .lb
 (vCF q r t u v w x y z A B C D E F G H I J L M N O P e c),
 .undef, .undef, .ts Q n6 c6, .ts b n7 c7, .i .i64 (IntKind.i64.wrap (a + (1 : Int))),
 .rf]
 h))
 (K (.exit 0) 112
 [.lb
 (vMD f g j l m o p d),
 .lb
 (vCF q r t u v w x y z A B C D E F G H I J L M N O P e c),
 .undef, .undef, .ts Q n6 c6, .ts b n7 c7, .i .i64 a, .rf]
 h)) := by kernel_rfl
theorem ZCq (a : List V) (b : Nat) (c : List V) (d : Nat) (e : List V) (f : Nat) (g j l : Int) (m : List V) (n : Nat) (o : List V) (p : Nat) (q r t u v : Int) (w : List V) (x : Nat) (y : List V) (z : Nat) (A : List V) (B : Nat) (c6 : Option Nat) (C : List V) (n6 : Nat) (c7 : Option Nat) (D : List V) (n7 : Nat) (E : Int) (F G H I J L M N O P : List UInt8) (h : Heap) (K : KT) : (Zc UY (UY.loc 18) 100 (pre ((post (flat (Za Tryz.f18))).drop 1)) ⟨mk 112 (([2, 3, 6, 7, 8, 19] : List Nat).zip [V.lb (vMD a b c d e f g j), V.lb (vCF l m n F G H I J L M N O P o p q r t u v w x y z A B), V.ts C n6 c6, V.ts D n7 c7, V.i .i64 E, V.rf]), [], h⟩ (VQ [2, 3, 6, 7, 8, 9, 19] K)) =
 (K .normal 112
 [.lb
 (vMD a b c d e f g j),
 .lb
 (vCF l m n F G H I J L M N O P o p q r t u v w x y z A B),
 .ts C n6 c6, .ts D n7 c7, .i .i64 E, .i .i64 0, .rf]
 h) := by kernel_rfl
theorem ZCr (e : List V) (f : Nat) (g : List V) (j : Nat) (p : List V) (q : Nat) (r t u : Int) (w : List V) (x : Nat) (y : List V) (z : Nat) (A B l C D : Int) (E : List V) (F : Nat) (G : List V) (H : Nat) (m : List V) (d : Nat) (c6 : Option Nat) (o : List V) (n6 : Nat) (c7 : Option Nat) (c : List V) (n7 : Nat) (I : Int) (J L M N O P Q R S T : List UInt8) (a : Int) (h : Heap) (K : KT) : (Zc UY (UY.loc 18) 100 ((flat (Zv (post ((post (flat (Za Tryz.f18))).drop 1))))) ⟨mk 112 (([2, 3, 6, 7, 8, 9, 19] : List Nat).zip [V.lb (vMD e f g j p q r t), V.lb (vCF u w x J L M N O P Q R S T y z A B l C D E F G H m d), V.ts o n6 c6, V.ts c n7 c7, V.i .i64 I, V.i .i64 a, V.rf]), [], h⟩ (VQ [2, 3, 4, 5, 6, 7, 8, 9, 19] K)) =
 (If (ltI a n7)
 ((0 ≤ a ∧ a < n7) ∧
 ∃ (n : Int),
 Zh 1 (List.drop (a.toNat * 1) c) = some [V.i .i64 n] ∧
 If (ltI n d)
 ((0 ≤ a ∧ a < n7) ∧
 ∃ (n : Int),
 Zh 1 (List.drop (a.toNat * 1) c) = some [V.i .i64 n] ∧
 (0 ≤ n ∧ n < d) ∧
 ∃ (b : Bool),
 Zh 1 (List.drop 2 (List.drop (n.toNat * 11) m)) = some [V.b b] ∧
 If b
 ((0 ≤ a ∧ a < n7) ∧
 ∃ (n : Int),
 Zh 1 (List.drop (a.toNat * 1) c) = some [V.i .i64 n] ∧
 ∃ (b : Bool),
 (PCon UY 43
 [V.agg
 [V.ts e f none, V.ts g j none],
 V.ts o n6 c6, V.i .i64 n, V.i .i64 l]
 fun v => v = V.b b) ∧
 If (!b)
 ((0 ≤ a ∧ a < n7) ∧
 ∃ (n : Int),
 Zh 1 (List.drop (a.toNat * 1) c) =
 some [V.i .i64 n] ∧
 K .ret 112
 [.lb
 (vMD e f g j p q r t),
 .lb
 (vCF u w x J L M N O P Q R S T y z A B l C D E F G H m d),
 .i .i64 3, .i .i64 n, .ts o n6 c6,
 .ts c n7 c7, .i .i64 I, .i .i64 a, .rf]
 h)
 (K .normal 112
 [.lb
 (vMD e f g j p q r t),
 .lb
 (vCF u w x J L M N O P Q R S T y z A B l C D E F G H m d),
 .undef, .undef, .ts o n6 c6, .ts c n7 c7, .i .i64 I,
 .i .i64 (IntKind.i64.wrap (a + (1 : Int))), .rf]
 h))
 (K .normal 112
 [.lb
 (vMD e f g j p q r t),
 .lb
 (vCF u w x J L M N O P Q R S T y z A B l C D E F G H m d),
 .undef, .undef, .ts o n6 c6, .ts c n7 c7, .i .i64 I,
 .i .i64 (IntKind.i64.wrap (a + (1 : Int))), .rf]
 h))
 (K .normal 112
 [.lb
 (vMD e f g j p q r t),
 .lb
 (vCF u w x J L M N O P Q R S T y z A B l C D E F G H m d),
 .undef, .undef, .ts o n6 c6, .ts c n7 c7, .i .i64 I,
 .i .i64 (IntKind.i64.wrap (a + (1 : Int))), .rf]
 h))
 (K (.exit 2) 112
 [.lb
 (vMD e f g j p q r t),
 .lb
 (vCF u w x J L M N O P Q R S T y z A B l C D E F G H m d),
 .undef, .undef, .ts o n6 c6, .ts c n7 c7, .i .i64 I, .i .i64 a, .rf]
 h)) := by kernel_rfl
theorem ZCs (a : List V) (c : Nat) (d : List V) (e : Nat) (f : List V) (g : Nat) (j l m : Int) (n : List V) (o : Nat) (p : List V) (q : Nat) (r t u w x : Int) (y : List V) (z : Nat) (A : List V) (B : Nat) (C : List V) (D : Nat) (E F G H I J L M N O : List UInt8) (h : Heap) (K : KT) : (Zc UY (UY.loc 18) 100 (((post ((post (flat (Za Tryz.f18))).drop 1)).drop 1)) ⟨mk 112 (([2, 3] : List Nat).zip [V.lb (vMD a c d e f g j l), V.lb (vCF m n o E F G H I J L M N O p q r t u w x y z A B C D)]), [], h⟩ (VQ [4, 5] K)) =
 (∃ (b : Bool),
 (PCon UY 44
 [V.agg
 (vMD a c d e f g j l),
 V.agg
 (vCF m n o E F G H I J L M N O p q r t u w x y z A B C D)]
 fun v => v = V.b b) ∧
 If b (K .ret 112 [.i .i64 1, .i .i64 (-1)] h)
 (K .ret 112 [.i .i64 0, .i .i64 (-1)] h)) := by kernel_rfl
theorem ZCt (d : List V) (e : Nat) (b : List V) (a : Nat) (f : List V) (g : Nat) (j m o : Int) (p : List V) (q : Nat) (r t u w x y z A B C : List UInt8) (D : List V) (E : Nat) (F G H I J : Int) (L : List V) (M : Nat) (N : List V) (O : Nat) (P : List V) (Q : Nat) (h : Heap) (K : KT) : (Zc UY (UY.loc 19) 100 ((flat (Za Tryz.f19))) ⟨(V.agg (vMD d e b a f g j m) :: V.agg (vCF o p q r t u w x y z A B C D E F G H I J L M N O P Q) :: List.replicate 35 .undef), [], h⟩ (VQ [4] K)) =
 (∃ (cs : List V) (l : Nat) (c : Option Nat), (PCon UY 29
 [V.agg
 (vMD d e b a f g j m),
 V.agg
 (vCF o p q r t u w x y z A B C D E F G H I J L M N O P Q)]
 fun v => v = V.ts cs l c) ∧
 If ((↑l : Int) == (0 : Int)) (K .ret 37 [.i .i64 (-1)] h)
 (((0 : Int) ≤ (0 : Int) ∧ (0 : Int) < (l : Int)) ∧
 ∃ (n : Int),
 Zh 1 cs = some [V.i .i64 n] ∧
 If (ltI n 0) (K .ret 37 [.i .i64 (-1)] h)
 (((0 : Int) ≤ (0 : Int) ∧ (0 : Int) < (l : Int)) ∧
 ∃ (n : Int),
 Zh 1 cs = some [V.i .i64 n] ∧
 If (leI a n) (K .ret 37 [.i .i64 (-1)] h)
 (((0 : Int) ≤ (0 : Int) ∧ (0 : Int) < (l : Int)) ∧
 ∃ (n : Int),
 Zh 1 cs = some [V.i .i64 n] ∧
 (0 ≤ n ∧ n < a) ∧
 ∃ (n_1 : Int),
 Zh 1
 (List.drop 6 (List.drop (n.toNat * 7) b)) =
 some [V.i .i64 n_1] ∧
 K .ret 37 [.i .i64 n_1] h)))) := by kernel_rfl
theorem ZCu (a : List V) (d : Nat) (e : List V) (f : Nat) (j : List V) (m : Nat) (n o p : Int) (q : List V) (r : Nat) (t u w x y z A B C D : List UInt8) (E : List V) (F : Nat) (G H g I J : Int) (L : List V) (M : Nat) (N : List V) (O : Nat) (P : List V) (Q : Nat) (x2 : Int) (h : Heap) (K : KT) : (Zc UY (UY.loc 35) 100 (pre (flat (Za Tryz.f35))) ⟨(V.agg (vMD a d e f j m n o) :: V.agg (vCF p q r t u w x y z A B C D E F G H g I J L M N O P Q) :: V.i .i64 x2 :: List.replicate 50 .undef), [], h⟩ (VQ [2, 3, 4, 6, 7, 8, 9] K)) =
 (∃ (cs : List V) (l : Nat) (c : Option Nat), (PCon UY 29
 [V.agg
 (vMD a d e f j m n o),
 V.agg
 (vCF p q r t u w x y z A B C D E F G H g I J L M N O P Q)]
 fun v => v = V.ts cs l c) ∧
 ∃ (cs_1 : List V) (l_1 : Nat) (c_1 : Option Nat), (PCon UY 42
 [V.agg [V.ts a d none, V.ts e f none], V.ts cs l c,
 V.i .i64 g]
 fun v => v = V.ts cs_1 l_1 c_1) ∧
 K .normal 53
 [.i .i64 x2,
 .lb
 (vMD a d e f j m n o),
 .lb
 (vCF p q r t u w x y z A B C D E F G H g I J L M N O P Q),
 .b false, .ts cs_1 l_1 c_1, .i .i64 0, .rf]
 h) := by kernel_rfl
theorem ZCv (j : List V) (m : Nat) (o : List V) (p : Nat) (q : List V) (r : Nat) (t f u : Int) (w : List V) (x : Nat) (y z A B C D E F G H : List UInt8) (I : List V) (J : Nat) (L M N O P : Int) (Q : List V) (R : Nat) (S : List V) (T : Nat) (e : List V) (d : Nat) (x2 : Int) (c7 : Option Nat) (g : List V) (n7 : Nat) (a : Int) (h : Heap) (K : KT) : (Zc UY (UY.loc 35) 100 ((flat (Zv (post (flat (Za Tryz.f35)))))) ⟨mk 53 (([2, 3, 4, 6, 7, 8, 9] : List Nat).zip [V.i .i64 x2, V.lb (vMD j m o p q r t f), V.lb (vCF u w x y z A B C D E F G H I J L M N O P Q R S T e d), V.b false, V.ts g n7 c7, V.i .i64 a, V.rf]), [], h⟩ (VQ [2, 3, 4, 6, 7, 8, 9] K)) =
 (If (ltI a n7)
 ((0 ≤ a ∧ a < n7) ∧
 ∃ (n : Int),
 Zh 1 (List.drop (a.toNat * 1) g) = some [V.i .i64 n] ∧
 If (n == x2)
 (If (ltI x2 d)
 ((0 ≤ x2 ∧ x2 < d) ∧
 ∃ (b b_1 b_2 : Bool) (n n_1 : Int) (s : List UInt8) (cs : List V) (l : Nat) (c : Option Nat) (s_1 : List UInt8) (cs_1 : List V) (l_1 : Nat) (c_1 : Option Nat) (s_2 s_3 : List UInt8), Zh 11 (List.drop (x2.toNat * 11) e) =
 some
 (vSD b b_1 b_2 n n_1 s cs l c s_1 cs_1 l_1 c_1 s_2 s_3) ∧
 ∃ (n_2 : Int),
 (PCon UY 80
 [V.agg
 (vSD b b_1 b_2 n n_1 s cs l c s_1 cs_1 l_1 c_1 s_2 s_3),
 V.i .i64 f]
 fun v => v = V.i .i64 n_2) ∧
 If (ltI 0 n_2)
 (K .ret 53
 [.i .i64 x2,
 .lb
 (vMD j m o p q r t f),
 .lb
 (vCF u w x y z A B C D E F G H I J L M N O P Q R S T e d),
 .b true, .ts g n7 c7, .i .i64 a, .rf]
 h)
 ((0 ≤ x2 ∧ x2 < d) ∧
 ∃ (b b_3 b_4 : Bool) (n n_3 : Int) (s : List UInt8) (cs : List V) (l : Nat) (c : Option Nat) (s_4 : List UInt8) (cs_2 : List V) (l_2 : Nat) (c_2 : Option Nat) (s_5 s_6 : List UInt8), Zh 11
 (List.drop
 (x2.toNat * 11)
 e) =
 some
 (vSD b b_3 b_4 n n_3 s cs l c s_4 cs_2 l_2 c_2 s_5 s_6) ∧
 ∃ (b_5 : Bool),
 (PCon UY 36
 [V.agg
 (vSD b b_3 b_4 n n_3 s cs l c s_4 cs_2 l_2 c_2 s_5 s_6)]
 fun (v : V) =>
 v = V.b b_5) ∧
 K .ret 53
 [.i .i64 x2,
 .lb
 [.ts j
 m none,
 .ts o
 p none,
 .ts q r
 none,
 .i IntKind.i64
 t,
 .i IntKind.i64
 f],
 .lb
 [.i .i64 u,
 .ts w x
 none,
 .s y,
 .s z,
 .s A,
 .s B,
 .s C,
 .s D,
 .s E,
 .s F,
 .s G,
 .s H,
 .ts I J
 none,
 .i IntKind.i64
 L,
 .i .i64 M,
 .i .i64 N,
 .i IntKind.i64
 O,
 .i IntKind.i64
 P,
 .ts Q
 R none,
 .ts S T
 none,
 .ts e d
 none],
 .b b_5, .ts g n7 c7,
 .i .i64 a,
 .rf]
 h))
 (K .normal 53
 [.i .i64 x2,
 .lb
 (vMD j m o p q r t f),
 .lb
 (vCF u w x y z A B C D E F G H I J L M N O P Q R S T e d),
 .b false, .ts g n7 c7, .i .i64 (IntKind.i64.wrap (a + (1 : Int))), .rf]
 h))
 (K .normal 53
 [.i .i64 x2,
 .lb
 (vMD j m o p q r t f),
 .lb
 (vCF u w x y z A B C D E F G H I J L M N O P Q R S T e d),
 .b false, .ts g n7 c7, .i .i64 (IntKind.i64.wrap (a + (1 : Int))), .rf]
 h))
 (K (.exit 0) 53
 [.i .i64 x2,
 .lb
 (vMD j m o p q r t f),
 .lb
 (vCF u w x y z A B C D E F G H I J L M N O P Q R S T e d),
 .b false, .ts g n7 c7, .i .i64 a, .rf]
 h)) := by kernel_rfl
theorem ZCw (h : Heap) (K : KT) : (Zc UY (UY.loc 35) 100 (((post (flat (Za Tryz.f35))).drop 1)) ⟨mk 53 (([] : List Nat).zip []), [], h⟩ (VQ [6] K)) =
 (K .ret 53 [.b false] h) := by kernel_rfl
theorem ZCx (c : List V) (d : Nat) (e : List V) (f : Nat) (g : List V) (j : Nat) (l m n : Int) (o : List V) (p : Nat) (q r t u v w x y z A : List UInt8) (B : List V) (C : Nat) (D E F a G : Int) (H : List V) (I : Nat) (J : List V) (L : Nat) (M : List V) (N : Nat) (h : Heap) (K : KT) : (Zc UY (UY.loc 44) 100 (pre (flat (Za Tryz.f44))) ⟨(V.agg (vMD c d e f g j l m) :: V.agg (vCF n o p q r t u v w x y z A B C D E F a G H I J L M N) :: List.replicate 49 .undef), [], h⟩ (VQ [2, 3, 4, 5, 9] K)) =
 (If (leI 0 a)
 (K .ret 51
 [.lb
 (vMD c d e f g j l m),
 .lb
 (vCF n o p q r t u v w x y z A B C D E F a G H I J L M N),
 .b false, .undef, .b true]
 h)
 (K .normal 51
 [.lb
 (vMD c d e f g j l m),
 .lb
 (vCF n o p q r t u v w x y z A B C D E F a G H I J L M N),
 .b false, .i .i64 0, .b false]
 h)) := by kernel_rfl
theorem ZCy (g : List V) (j : Nat) (m : List V) (o : Nat) (a : List V) (d : Nat) (p q r : Int) (t : List V) (u : Nat) (w x y z A B C D E F : List UInt8) (G : List V) (H : Nat) (I J L M N : Int) (O : List V) (P : Nat) (Q : List V) (R : Nat) (f : List V) (e : Nat) (x5 : Int) (h : Heap) (K : KT) : (Zc UY (UY.loc 44) 100 ((flat (Zv (post (flat (Za Tryz.f44)))))) ⟨mk 51 (([2, 3, 4, 5, 9] : List Nat).zip [V.lb (vMD g j m o a d p q), V.lb (vCF r t u w x y z A B C D E F G H I J L M N O P Q R f e), V.b false, V.i .i64 x5, V.b false]), [], h⟩ (VQ [2, 3, 4, 5, 9] K)) =
 (If (ltI x5 e)
 ((0 ≤ x5 ∧ x5 < e) ∧
 ∃ (b b_1 b_2 : Bool) (n n_1 : Int) (s : List UInt8) (cs : List V) (l : Nat) (c : Option Nat) (s_1 : List UInt8) (cs_1 : List V) (l_1 : Nat) (c_1 : Option Nat) (s_2 s_3 : List UInt8), Zh 11 (List.drop (x5.toNat * 11) f) =
 some
 (vSD b b_1 b_2 n n_1 s cs l c s_1 cs_1 l_1 c_1 s_2 s_3) ∧
 ∃ (b_3 : Bool),
 (PCon UY 35
 [V.agg
 (vMD g j m o a d p q),
 V.agg
 (vCF r t u w x y z A B C D E F G H I J L M N O P Q R f e),
 V.i .i64 x5]
 fun v => v = V.b b_3) ∧
 If b_3
 (K .ret 51
 [.lb
 (vMD g j m o a d p q),
 .lb
 (vCF r t u w x y z A B C D E F G H I J L M N O P Q R f e),
 .b false, .i .i64 x5, .b false]
 h)
 (If (!s_1 == ([] : List UInt8))
 (K .ret 51
 [.lb
 (vMD g j m o a d p q),
 .lb
 (vCF r t u w x y z A B C D E F G H I J L M N O P Q R f e),
 .b false, .i .i64 x5, .b false]
 h)
 ((0 ≤ x5 ∧ x5 < d) ∧
 ∃ (n_2 : Int) (cs_2 : List V) (l_2 : Nat) (c_2 : Option Nat), Zh 2 (List.drop (x5.toNat * 2) a) =
 some [V.i .i64 n_2, V.ts cs_2 l_2 c_2] ∧
 ∃ (cs_3 : List V) (l_3 : Nat) (c_3 : Option Nat), (PCon UY 92
 [V.agg
 (vSD b b_1 b_2 n n_1 s cs l c s_1 cs_1 l_1 c_1 s_2 s_3),
 V.agg [V.i .i64 n_2, V.ts cs_2 l_2 c_2]]
 fun v => v = V.ts cs_3 l_3 c_3) ∧
 If (ltI 0 l_3)
 (K .ret 51
 [.lb
 (vMD g j m o a d p q),
 .lb
 (vCF r t u w x y z A B C D E F G H I J L M N O P Q R f e),
 .b false, .i .i64 x5, .b false]
 h)
 ((0 ≤ x5 ∧ x5 < d) ∧
 ∃ (n_3 : Int) (cs_4 : List V) (l_4 : Nat) (c_4 : Option Nat), Zh 2
 (List.drop (x5.toNat * 2)
 a) =
 some
 [V.i .i64 n_3,
 V.ts cs_4 l_4 c_4] ∧
 ∃ (b_4 : Bool),
 (PCon UY 93
 [V.agg
 (vSD b b_1 b_2 n n_1 s cs l c s_1 cs_1 l_1 c_1 s_2 s_3),
 V.agg
 [V.i .i64 n_3,
 V.ts cs_4 l_4 c_4]]
 fun v => v = V.b b_4) ∧
 If b_4
 (K .ret 51
 [.lb
 [.ts g
 j none,
 .ts m
 o none,
 .ts a d none,
 .i .i64 p,
 .i .i64 q],
 .lb
 [.i .i64 r,
 .ts t u none,
 .s w, .s x,
 .s y, .s z,
 .s A, .s B,
 .s C, .s D,
 .s E, .s F,
 .ts G H none,
 .i .i64 I,
 .i .i64 J,
 .i .i64 L,
 .i .i64 M,
 .i .i64 N,
 .ts O P
 none,
 .ts Q R none,
 .ts f e none],
 .b false, .i .i64 x5,
 .b false]
 h)
 (K .normal 51
 [.lb
 [.ts g
 j none,
 .ts m
 o none,
 .ts a d none,
 .i .i64 p,
 .i .i64 q],
 .lb
 [.i .i64 r,
 .ts t u none,
 .s w, .s x,
 .s y, .s z,
 .s A, .s B,
 .s C, .s D,
 .s E, .s F,
 .ts G H none,
 .i .i64 I,
 .i .i64 J,
 .i .i64 L,
 .i .i64 M,
 .i .i64 N,
 .ts O P
 none,
 .ts Q R none,
 .ts f e none],
 .b false,
 .i IntKind.i64
 (IntKind.i64.wrap
 (x5 + (1 : Int))),
 .b false]
 h)))))
 (K (.exit 0) 51
 [.lb
 (vMD g j m o a d p q),
 .lb
 (vCF r t u w x y z A B C D E F G H I J L M N O P Q R f e),
 .b false, .i .i64 x5, .b false]
 h)) := by kernel_rfl
theorem ZCz (h : Heap) (K : KT) : (Zc UY (UY.loc 44) 100 (((post (flat (Za Tryz.f44))).drop 1)) ⟨mk 51 (([] : List Nat).zip []), [], h⟩ (VQ [4] K)) =
 (K .ret 51 [.b true] h) := by kernel_rfl
theorem ZC0 (f : List V) (g : Nat) (j : List V) (m : Nat) (o : List V) (p : Nat) (q r t : Int) (u : List V) (w : Nat) (x y z A B C D E F G : List UInt8) (H : List V) (I : Nat) (J L M N O : Int) (a : List V) (b : Nat) (d : List V) (e : Nat) (P : List V) (Q : Nat) (h : Heap) (K : KT) : (Zc UY (UY.loc 40) 100 ((flat (Za Tryz.f40))) ⟨(V.agg (vMD f g j m o p q r) :: V.agg (vCF t u w x y z A B C D E F G H I J L M N O a b d e P Q) :: List.replicate 18 .undef), [], h⟩ (VQ [4] K)) =
 (∃ (n n_1 : Int) (s : List UInt8) (n_2 : Int) (cs : List V) (l : Nat) (c : Option Nat) (n_3 n_4 : Int) (s_1 s_2 : List UInt8) (cs_1 : List V) (l_1 : Nat) (c_1 : Option Nat) (cs_2 : List V) (l_2 : Nat) (c_2 : Option Nat), (PCon UY 88
 [V.agg
 (vMD f g j m o p q r),
 V.agg
 (vCF t u w x y z A B C D E F G H I J L M N O a b d e P Q)]
 fun (v : V) =>
 v =
 V.agg
 [V.i .i64 n, V.i .i64 n_1, V.s s, V.i .i64 n_2,
 V.ts cs l c, V.i .i64 n_3, V.i .i64 n_4, V.s s_1, V.s s_2,
 V.ts cs_1 l_1 c_1, V.ts cs_2 l_2 c_2]) ∧
 If (n != (12 : Int))
 (K .ret 20 [.sl none 0 (some 0) 0] h)
 (∃ (cs : List V) (l : Nat) (c : Option Nat), (PCon UY 89
 [V.ts
 [V.ts a b none, V.ts cs_2 l_2 c_2,
 V.ts d e none]
 3 (some 3)]
 fun v => v = V.ts cs l c) ∧
 K .ret 20 [.ts cs l c] h)) := by kernel_rfl
end Go.Y
