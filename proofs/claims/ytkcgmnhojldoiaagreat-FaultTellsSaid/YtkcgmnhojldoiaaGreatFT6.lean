/- What the pieces of functions come to: printed by program. -/
import Derived.Test.YtkcgmnhojldoiaaGreatYTryzP
import Derived.Test.YtkcgmnhojldoiaaGreatYLoop
namespace Go.Y
open Go.Proofs
set_option maxRecDepth 1000000
set_option maxHeartbeats 0
theorem Zy5 (id j1 j : Nat) (h : Heap) (K : KT) : (Zc UY (UY.loc 217) 100 (pre (flat (Za Tryz.f217))) ⟨(V.yl id :: V.p (some (j1, 0)) :: V.p (some (j, 0)) :: List.replicate 40 .undef), [], h⟩ (VQ [0, 2, 3, 7, 8, 9] K)) =
 (∃ (cs : List V) (l : Nat) (c : Option Nat), Zj h j1 0 1 = some [V.ts cs l c] ∧
 K .normal 43
 [.yl id, .p (some (j, 0)), .undef, .ts cs l c, .i .i64 (l : Int),
 .i .i64 0]
 h) := by kernel_rfl
theorem Zy6 (id j : Nat) (c7 : Option Nat) (d : List V) (n7 : Nat) (x8 a : Int) (h : Heap) (K : KT) : (Zc UY (UY.loc 217) 100 ((flat (Zv (post (flat (Za Tryz.f217)))))) ⟨mk 43 (([0, 2, 3, 7, 8, 9] : List Nat).zip [V.yl id, V.p (some (j, 0)), V.undef, V.ts d n7 c7, V.i .i64 x8, V.i .i64 a]), [], h⟩ (VQ [0, 2, 3, 7, 8, 9] K)) =
 (If (ltI a x8)
 ((0 ≤ a ∧ a < n7) ∧
 ∃ (n : Int),
 Zh 1 (List.drop (a.toNat * 1) d) = some [V.i .i64 n] ∧
 If (ltI n 0)
 (K .normal 43
 [.yl id, .p (some (j, 0)), .undef, .ts d n7 c7, .i .i64 x8,
 .i .i64 (IntKind.i64.wrap (a + (1 : Int)))]
 h)
 (∃ (cs : List V) (l : Nat) (c : Option Nat), Zj h j 1 1 = some [V.ts cs l c] ∧
 If (leI l n)
 (K .normal 43
 [.yl id, .p (some (j, 0)), .undef, .ts d n7 c7, .i .i64 x8,
 .i .i64 (IntKind.i64.wrap (a + (1 : Int)))]
 h)
 (∃ (cs : List V) (l : Nat) (c : Option Nat), Zj h j 1 1 = some [V.ts cs l c] ∧
 (0 ≤ n ∧ n < l) ∧
 ∃ (n_1 n_2 n_3 : Int) (s : List UInt8) (n_4 : Int) (b : Bool) (n_5 : Int), Zh 7 (List.drop (n.toNat * 7) cs) =
 some
 [V.i .i64 n_1, V.i .i64 n_2, V.i .i64 n_3, V.s s,
 V.i .i64 n_4, V.b b, V.i .i64 n_5] ∧
 If (leI 1 n_1)
 (If (leI n_1 4)
 (RdCon UY id
 [V.i .i64 n,
 V.agg
 [V.i .i64 n_1, V.i .i64 n_2, V.i .i64 n_3,
 V.s s, V.i .i64 n_4, V.b b, V.i .i64 n_5]]
 h fun (v : V) (h' : Heap) =>
 ∃ (b : Bool),
 v = V.b b ∧
 If (!b)
 (K .ret 43
 [.yl id, .p (some (j, 0)), .undef,
 .ts d n7 c7, .i .i64 x8, .i .i64 a]
 h')
 (K .normal 43
 [.yl id, .p (some (j, 0)), .undef,
 .ts d n7 c7, .i .i64 x8,
 .i .i64 (IntKind.i64.wrap (a + (1 : Int)))]
 h'))
 (K .normal 43
 [.yl id, .p (some (j, 0)), .undef, .ts d n7 c7,
 .i .i64 x8,
 .i .i64 (IntKind.i64.wrap (a + (1 : Int)))]
 h))
 (K .normal 43
 [.yl id, .p (some (j, 0)), .undef, .ts d n7 c7,
 .i .i64 x8,
 .i .i64 (IntKind.i64.wrap (a + (1 : Int)))]
 h))))
 (K (.exit 0) 43
 [.yl id, .p (some (j, 0)), .undef, .ts d n7 c7, .i .i64 x8, .i .i64 a] h)) := by kernel_rfl
theorem Zy7 (x1 : Int) (h : Heap) (K : KT) : (Zc UY (UY.loc 134) 100 ((flat (Za Tryz.f134))) ⟨(V.sl none 0 (some 0) 0 :: V.i .i64 x1 :: List.replicate 25 .undef), [], h⟩ (VQ [4] K)) =
 (If (ltI x1 0) False
 (If (ltI 0 (IntKind.i64.wrap (x1 - IntKind.i64.wrap ((↑(0 : Nat) : Int) - (↑(0 : Nat) : Int)))))
 (∃ (a' : Option (Nat × Nat)) (n' : Nat) (c' : Option Nat) (k' : Nat), JX UY 31 (V.sl none 0 (some 0) 0) none
 (some (V.i .i64 (↑(0 : Nat) : Int))) none =
 some (V.sl a' n' c' k') ∧
 ∃ (id o l : Nat) (c : Option Nat) (k : Nat) (h_1 : Heap), Zk UY h 31 3 (V.sl a' n' c' k')
 (V.i IntKind.i64
 (IntKind.i64.wrap
 (x1 - IntKind.i64.wrap ((↑(0 : Nat) : Int) - (↑(0 : Nat) : Int))))) =
 some (V.sl (some (id, o)) l c k, h_1) ∧
 k = 1 ∧
 ((0 : Int) ≤ (↑(0 : Nat) : Int) ∧ (↑(0 : Nat) : Int) ≤ (↑(c.getD l) : Int)) ∧
 K .ret 27
 [.sl (some (id, o + (0 : Nat) * k)) 0
 (Option.map (fun (x : Nat) => x - (0 : Nat)) c) k]
 h_1)
 (K .ret 27 [.sl none 0 (some 0) 0] h))) := by kernel_rfl
theorem Zy8 (c : List V) (d : Nat) (e : List V) (f : Nat) (g : List V) (j : Nat) (l m n : Int) (o : List V) (p : Nat) (q r t u v w x y z A : List UInt8) (B : List V) (C : Nat) (D E F G H : Int) (I : List V) (J : Nat) (L : List V) (M : Nat) (N : List V) (O : Nat) (P : List V) (Q : Nat) (b : List V) (a : Nat) (h : Heap) (K : KT) : (Zc UY (UY.loc 84) 100 (pre (flat (Za Tryz.f84))) ⟨(V.agg (vVW c d e f g j l m n o p q r t u v w x y z A B C D E F G H I J L M N O P Q b a) :: V.fn (Fn.func 85) [V.agg (vVW c d e f g j l m n o p q r t u v w x y z A B C D E F G H I J L M N O P Q b a)] [] :: List.replicate 25 .undef), [], h⟩ (VQ [1, 2, 8, 9, 10] K)) =
 (K .normal 27
 [.fn (Fn.func 85)
 [.agg
 (vVW c d e f g j l m n o p q r t u v w x y z A B C D E F G H I J L M N O P Q b a)]
 [],
 .lb
 (vVW c d e f g j l m n o p q r t u v w x y z A B C D E F G H I J L M N O P Q b a),
 .ts b a none, .i .i64 (a : Int), .i .i64 0]
 h) := by kernel_rfl
theorem Zy9 (e : List V) (f : Nat) (g : List V) (j : Nat) (l : List V) (m : Nat) (o p q : Int) (r : List V) (t : Nat) (u w x y z A B C D E : List UInt8) (F : List V) (G : Nat) (H I J L M : Int) (N : List V) (O : Nat) (P : List V) (Q : Nat) (R : List V) (d : Nat) (S : List V) (T : Nat) (c : List V) (a : Nat) (U : Int) (h : Heap) (K : KT) : (Zc UY (UY.loc 84) 100 ((flat (Zv (post (flat (Za Tryz.f84)))))) ⟨mk 27 (([1, 2, 8, 9, 10] : List Nat).zip [V.fn (Fn.func 85) [V.agg (vVW e f g j l m o p q r t u w x y z A B C D E F G H I J L M N O P Q R d S T c a)] [], V.lb (vVW e f g j l m o p q r t u w x y z A B C D E F G H I J L M N O P Q R d S T c a), V.ts c a none, V.i .i64 (a : Int), V.i .i64 U]), [], h⟩ (VQ [1, 2, 4, 8, 9, 10] K)) =
 (If (ltI U a)
 ((0 ≤ U ∧ U < a) ∧
 ∃ (n : Int),
 Zh 1 (List.drop (U.toNat * 1) c) = some [V.i .i64 n] ∧
 If (ltI n d)
 (∃ (b : Bool),
 (PCon UY 85
 [V.agg
 (vVW e f g j l m o p q r t u w x y z A B C D E F G H I J L M N O P Q R d S T c a),
 V.i .i64 n]
 fun v => v = V.b b) ∧
 If b
 (K .ret 27
 [.fn (Fn.func 85)
 [.agg
 (vVW e f g j l m o p q r t u w x y z A B C D E F G H I J L M N O P Q R d S T c a)]
 [],
 .lb
 (vVW e f g j l m o p q r t u w x y z A B C D E F G H I J L M N O P Q R d S T c a),
 .i .i64 n, .ts c a none, .i .i64 (a : Int),
 .i .i64 U]
 h)
 (K .normal 27
 [.fn (Fn.func 85)
 [.agg
 (vVW e f g j l m o p q r t u w x y z A B C D E F G H I J L M N O P Q R d S T c a)]
 [],
 .lb
 (vVW e f g j l m o p q r t u w x y z A B C D E F G H I J L M N O P Q R d S T c a),
 .undef, .ts c a none, .i .i64 (a : Int),
 .i .i64 (IntKind.i64.wrap (U + (1 : Int)))]
 h))
 (K .normal 27
 [.fn (Fn.func 85)
 [.agg
 (vVW e f g j l m o p q r t u w x y z A B C D E F G H I J L M N O P Q R d S T c a)]
 [],
 .lb
 (vVW e f g j l m o p q r t u w x y z A B C D E F G H I J L M N O P Q R d S T c a),
 .undef, .ts c a none, .i .i64 (a : Int),
 .i .i64 (IntKind.i64.wrap (U + (1 : Int)))]
 h))
 (K (.exit 0) 27
 [.fn (Fn.func 85)
 [.agg
 (vVW e f g j l m o p q r t u w x y z A B C D E F G H I J L M N O P Q R d S T c a)]
 [],
 .lb
 (vVW e f g j l m o p q r t u w x y z A B C D E F G H I J L M N O P Q R d S T c a),
 .undef, .ts c a none, .i .i64 (a : Int), .i .i64 U]
 h)) := by kernel_rfl
theorem Zza (h : Heap) (K : KT) : (Zc UY (UY.loc 84) 100 (((post (flat (Za Tryz.f84))).drop 1)) ⟨mk 27 (([] : List Nat).zip []), [], h⟩ (VQ [4] K)) =
 (K .ret 27 [.i .i64 (-1)] h) := by kernel_rfl
theorem Zzb (c : List V) (d : Nat) (e : List V) (f : Nat) (g : List V) (j : Nat) (l m n : Int) (o : List V) (p : Nat) (q r t u v w x y z A : List UInt8) (B : List V) (C : Nat) (D E F G H : Int) (I : List V) (J : Nat) (L : List V) (M : Nat) (N : List V) (O : Nat) (P : List V) (Q : Nat) (b : List V) (a : Nat) (h : Heap) (K : KT) : (Zc UY (UY.loc 84) 100 (pre (flat (Za Tryz.f84))) ⟨(V.agg (vVW c d e f g j l m n o p q r t u v w x y z A B C D E F G H I J L M N O P Q b a) :: V.fn (Fn.func 86) [V.agg (vVW c d e f g j l m n o p q r t u v w x y z A B C D E F G H I J L M N O P Q b a)] [] :: List.replicate 25 .undef), [], h⟩ (VQ [1, 2, 8, 9, 10] K)) =
 (K .normal 27
 [.fn (Fn.func 86)
 [.agg
 (vVW c d e f g j l m n o p q r t u v w x y z A B C D E F G H I J L M N O P Q b a)]
 [],
 .lb
 (vVW c d e f g j l m n o p q r t u v w x y z A B C D E F G H I J L M N O P Q b a),
 .ts b a none, .i .i64 (a : Int), .i .i64 0]
 h) := by kernel_rfl
theorem Zzc (e : List V) (f : Nat) (g : List V) (j : Nat) (l : List V) (m : Nat) (o p q : Int) (r : List V) (t : Nat) (u w x y z A B C D E : List UInt8) (F : List V) (G : Nat) (H I J L M : Int) (N : List V) (O : Nat) (P : List V) (Q : Nat) (R : List V) (d : Nat) (S : List V) (T : Nat) (c : List V) (a : Nat) (U : Int) (h : Heap) (K : KT) : (Zc UY (UY.loc 84) 100 ((flat (Zv (post (flat (Za Tryz.f84)))))) ⟨mk 27 (([1, 2, 8, 9, 10] : List Nat).zip [V.fn (Fn.func 86) [V.agg (vVW e f g j l m o p q r t u w x y z A B C D E F G H I J L M N O P Q R d S T c a)] [], V.lb (vVW e f g j l m o p q r t u w x y z A B C D E F G H I J L M N O P Q R d S T c a), V.ts c a none, V.i .i64 (a : Int), V.i .i64 U]), [], h⟩ (VQ [1, 2, 4, 8, 9, 10] K)) =
 (If (ltI U a)
 ((0 ≤ U ∧ U < a) ∧
 ∃ (n : Int),
 Zh 1 (List.drop (U.toNat * 1) c) = some [V.i .i64 n] ∧
 If (ltI n d)
 (∃ (b : Bool),
 (PCon UY 86
 [V.agg
 (vVW e f g j l m o p q r t u w x y z A B C D E F G H I J L M N O P Q R d S T c a),
 V.i .i64 n]
 fun v => v = V.b b) ∧
 If b
 (K .ret 27
 [.fn (Fn.func 86)
 [.agg
 (vVW e f g j l m o p q r t u w x y z A B C D E F G H I J L M N O P Q R d S T c a)]
 [],
 .lb
 (vVW e f g j l m o p q r t u w x y z A B C D E F G H I J L M N O P Q R d S T c a),
 .i .i64 n, .ts c a none, .i .i64 (a : Int),
 .i .i64 U]
 h)
 (K .normal 27
 [.fn (Fn.func 86)
 [.agg
 (vVW e f g j l m o p q r t u w x y z A B C D E F G H I J L M N O P Q R d S T c a)]
 [],
 .lb
 (vVW e f g j l m o p q r t u w x y z A B C D E F G H I J L M N O P Q R d S T c a),
 .undef, .ts c a none, .i .i64 (a : Int),
 .i .i64 (IntKind.i64.wrap (U + (1 : Int)))]
 h))
 (K .normal 27
 [.fn (Fn.func 86)
 [.agg
 (vVW e f g j l m o p q r t u w x y z A B C D E F G H I J L M N O P Q R d S T c a)]
 [],
 .lb
 (vVW e f g j l m o p q r t u w x y z A B C D E F G H I J L M N O P Q R d S T c a),
 .undef, .ts c a none, .i .i64 (a : Int),
 .i .i64 (IntKind.i64.wrap (U + (1 : Int)))]
 h))
 (K (.exit 0) 27
 [.fn (Fn.func 86)
 [.agg
 (vVW e f g j l m o p q r t u w x y z A B C D E F G H I J L M N O P Q R d S T c a)]
 [],
 .lb
 (vVW e f g j l m o p q r t u w x y z A B C D E F G H I J L M N O P Q R d S T c a),
 .undef, .ts c a none, .i .i64 (a : Int), .i .i64 U]
 h)) := by kernel_rfl
theorem Zzd (h : Heap) (K : KT) : (Zc UY (UY.loc 84) 100 (((post (flat (Za Tryz.f84))).drop 1)) ⟨mk 27 (([] : List Nat).zip []), [], h⟩ (VQ [4] K)) =
 (K .ret 27 [.i .i64 (-1)] h) := by kernel_rfl
theorem Zze (c : List V) (d : Nat) (e : List V) (f : Nat) (g : List V) (j : Nat) (l m n : Int) (o : List V) (p : Nat) (q r t u v w x y z A : List UInt8) (B : List V) (C : Nat) (D E F G H : Int) (I : List V) (J : Nat) (L : List V) (M : Nat) (N : List V) (O : Nat) (P : List V) (Q : Nat) (b : List V) (a : Nat) (h : Heap) (K : KT) : (Zc UY (UY.loc 84) 100 (pre (flat (Za Tryz.f84))) ⟨(V.agg (vVW c d e f g j l m n o p q r t u v w x y z A B C D E F G H I J L M N O P Q b a) :: V.fn (Fn.func 132) [V.agg (vVW c d e f g j l m n o p q r t u v w x y z A B C D E F G H I J L M N O P Q b a)] [] :: List.replicate 25 .undef), [], h⟩ (VQ [1, 2, 8, 9, 10] K)) =
 (K .normal 27
 [.fn (Fn.func 132)
 [.agg
 (vVW c d e f g j l m n o p q r t u v w x y z A B C D E F G H I J L M N O P Q b a)]
 [],
 .lb
 (vVW c d e f g j l m n o p q r t u v w x y z A B C D E F G H I J L M N O P Q b a),
 .ts b a none, .i .i64 (a : Int), .i .i64 0]
 h) := by kernel_rfl
theorem Zzf (e : List V) (f : Nat) (g : List V) (j : Nat) (l : List V) (m : Nat) (o p q : Int) (r : List V) (t : Nat) (u w x y z A B C D E : List UInt8) (F : List V) (G : Nat) (H I J L M : Int) (N : List V) (O : Nat) (P : List V) (Q : Nat) (R : List V) (d : Nat) (S : List V) (T : Nat) (c : List V) (a : Nat) (U : Int) (h : Heap) (K : KT) : (Zc UY (UY.loc 84) 100 ((flat (Zv (post (flat (Za Tryz.f84)))))) ⟨mk 27 (([1, 2, 8, 9, 10] : List Nat).zip [V.fn (Fn.func 132) [V.agg (vVW e f g j l m o p q r t u w x y z A B C D E F G H I J L M N O P Q R d S T c a)] [], V.lb (vVW e f g j l m o p q r t u w x y z A B C D E F G H I J L M N O P Q R d S T c a), V.ts c a none, V.i .i64 (a : Int), V.i .i64 U]), [], h⟩ (VQ [1, 2, 4, 8, 9, 10] K)) =
 (If (ltI U a)
 ((0 ≤ U ∧ U < a) ∧
 ∃ (n : Int),
 Zh 1 (List.drop (U.toNat * 1) c) = some [V.i .i64 n] ∧
 If (ltI n d)
 (∃ (b : Bool),
 (PCon UY 132
 [V.agg
 (vVW e f g j l m o p q r t u w x y z A B C D E F G H I J L M N O P Q R d S T c a),
 V.i .i64 n]
 fun v => v = V.b b) ∧
 If b
 (K .ret 27
 [.fn (Fn.func 132)
 [.agg
 (vVW e f g j l m o p q r t u w x y z A B C D E F G H I J L M N O P Q R d S T c a)]
 [],
 .lb
 (vVW e f g j l m o p q r t u w x y z A B C D E F G H I J L M N O P Q R d S T c a),
 .i .i64 n, .ts c a none, .i .i64 (a : Int),
 .i .i64 U]
 h)
 (K .normal 27
 [.fn (Fn.func 132)
 [.agg
 (vVW e f g j l m o p q r t u w x y z A B C D E F G H I J L M N O P Q R d S T c a)]
 [],
 .lb
 (vVW e f g j l m o p q r t u w x y z A B C D E F G H I J L M N O P Q R d S T c a),
 .undef, .ts c a none, .i .i64 (a : Int),
 .i .i64 (IntKind.i64.wrap (U + (1 : Int)))]
 h))
 (K .normal 27
 [.fn (Fn.func 132)
 [.agg
 (vVW e f g j l m o p q r t u w x y z A B C D E F G H I J L M N O P Q R d S T c a)]
 [],
 .lb
 (vVW e f g j l m o p q r t u w x y z A B C D E F G H I J L M N O P Q R d S T c a),
 .undef, .ts c a none, .i .i64 (a : Int),
 .i .i64 (IntKind.i64.wrap (U + (1 : Int)))]
 h))
 (K (.exit 0) 27
 [.fn (Fn.func 132)
 [.agg
 (vVW e f g j l m o p q r t u w x y z A B C D E F G H I J L M N O P Q R d S T c a)]
 [],
 .lb
 (vVW e f g j l m o p q r t u w x y z A B C D E F G H I J L M N O P Q R d S T c a),
 .undef, .ts c a none, .i .i64 (a : Int), .i .i64 U]
 h)) := by kernel_rfl
theorem Zzg (h : Heap) (K : KT) : (Zc UY (UY.loc 84) 100 (((post (flat (Za Tryz.f84))).drop 1)) ⟨mk 27 (([] : List Nat).zip []), [], h⟩ (VQ [4] K)) =
 (K .ret 27 [.i .i64 (-1)] h) := by kernel_rfl
theorem Zzh (L : List V) (M : Nat) (N : List V) (O : Nat) (P : List V) (J : Nat) (Q R a : Int) (d : List V) (e : Nat) (f g j m o p q r t u : List UInt8) (w : List V) (x : Nat) (y z A B C : Int) (D : List V) (E : Nat) (F : List V) (G : Nat) (H : List V) (I : Nat) (h : Heap) (K : KT) : (Zc UY (UY.loc 128) 100 ((flat (Za Tryz.f128))) ⟨(V.agg (vMD L M N O P J Q R) :: V.agg (vCF a d e f g j m o p q r t u w x y z A B C D E F G H I) :: List.replicate 76 .undef), [], h⟩ (VQ [4] K)) =
 (∃ (cs : List V) (l : Nat) (c : Option Nat), Zj
 (h.push
 (YObj.arr
 (vCF a d e f g j m o p q r t u w x y z A B C D E F G H I)
 true))
 h.nx 1 1 =
 some [V.ts cs l c] ∧
 ∃ (b : Bool),
 (PCon UY 172 [V.ts cs l c] fun v => v = V.b b) ∧
 If (!b)
 (K .ret 78 [.b false]
 (h.push
 (YObj.arr
 (vCF a d e f g j m o p q r t u w x y z A B C D E F G H I)
 true)))
 (∃ (cs : List V) (l : Nat) (c : Option Nat), Zj
 (h.push
 (YObj.arr
 (vCF a d e f g j m o p q r t u w x y z A B C D E F G H I)
 true))
 h.nx 12 1 =
 some [V.ts cs l c] ∧
 If (ltI 4 l)
 (K .ret 78 [.b false]
 (h.push
 (YObj.arr
 (vCF a d e f g j m o p q r t u w x y z A B C D E F G H I)
 true)))
 (((1 = 0 → False) ∧
 ∃ (cs : List V) (wr : Bool), (h.push
 (YObj.arr
 (ev
 ((V.agg
 (vMD L M N O P J Q R) ::
 V.agg
 (vCF a d e f g j m o p q r t u w x y z A B C D E F G H I) ::
 List.replicate (76 : Nat) V.undef).set
 (2 : Nat)
 (V.lb
 (ev
 (V.agg
 (vMD L M N O P J Q R) ::
 V.agg
 (vCF a d e f g j m o p q r t u w x y z A B C D E F G H I) ::
 List.replicate (76 : Nat) V.undef)
 (Operand.tmp (0 : Nat))).cells))
 (Operand.tmp (1 : Nat))).cells
 true)).get
 h.nx =
 some (YObj.arr cs wr) ∧
 12 ≤ cs.length) ∧
 Con UY 173
 [V.sl (some (h.nx, 2)) 10 (some 10) 1,
 V.fn (Fn.func (174 : Nat)) [] []]
 (h.push
 (YObj.arr
 (vCF a d e f g j m o p q r t u w x y z A B C D E F G H I)
 true))
 fun (v : V) (h' : Heap) =>
 ∃ (b : Bool),
 v = V.b b ∧
 If b (K .ret 78 [.b false] h')
 (∃ (n : Int),
 Zj h' h.nx 15 1 = some [V.i .i64 n] ∧
 If (ltI n (-1 : Int)) (K .ret 78 [.b false] h')
 (∃ (n : Int),
 Zj h' h.nx 15 1 = some [V.i .i64 n] ∧
 If (leI J n) (K .ret 78 [.b false] h')
 (∃ (n : Int),
 Zj h' h.nx 16 1 = some [V.i .i64 n] ∧
 If (ltI n (-1 : Int)) (K .ret 78 [.b false] h')
 (∃ (n : Int),
 Zj h' h.nx 16 1 =
 some [V.i .i64 n] ∧
 If (ltI 9 n) (K .ret 78 [.b false] h')
 (∃ (n : Int),
 Zj h' h.nx 13 1 =
 some [V.i .i64 n] ∧
 If (ltI n 0)
 (K .ret 78 [.b false] h')
 (∃ (n : Int),
 Zj h' h.nx 13 1 =
 some [V.i .i64 n] ∧
 If (ltI 3 n)
 (K .ret 78 [.b false] h')
 (∃ (n : Int),
 Zj h' h.nx 14 1 =
 some [V.i .i64 n] ∧
 ∃ (n_1 : Int),
 Zj h' h.nx 13 1 =
 some [V.i .i64 n_1] ∧
 If
 (!(n != (0 : Int)) ==
 (n_1 == (3 : Int)))
 (K .ret 78 [.b false] h')
 (∃ (n : Int),
 Zj h' h.nx 13
 1 =
 some [V.i .i64 n] ∧
 If (n == (1 : Int))
 (∃ (n : Int),
 Zj h' h.nx 17
 1 =
 some [V.i .i64 n] ∧
 If (leI 0 n)
 (∃ (n : Int) (cs : List V) (l : Nat) (c : Option Nat) (s : List UInt8), ∃ (s_1 :
 List UInt8),
 ∃ (s_2 :
 List UInt8),
 ∃ (s_3 :
 List UInt8),
 ∃ (s_4 :
 List
 UInt8),
 ∃ (s_5 :
 List
 UInt8),
 ∃ (s_6 :
 List
 UInt8),
 ∃ (s_7
 :
 List
 UInt8),
 ∃
 (s_8
 :
 List
 UInt8),
 ∃
 (s_9
 :
 List
 UInt8),
 ∃
 (cs_1
 :
 List
 V),
 ∃
 (l_1
 :
 Nat),
 ∃
 (c_1
 :
 Option
 Nat),
 ∃
 (n_2
 :
 Int),
 ∃
 (n_3
 :
 Int),
 ∃
 (n_4
 :
 Int),
 ∃
 (n_5
 :
 Int),
 ∃
 (n_6
 :
 Int),
 ∃
 (cs_2
 :
 List
 V),
 ∃
 (l_2
 :
 Nat),
 ∃
 (c_2
 :
 Option
 Nat),
 ∃
 (cs_3
 :
 List
 V),
 ∃
 (l_3
 :
 Nat),
 ∃
 (c_3
 :
 Option
 Nat),
 ∃
 (cs_4
 :
 List
 V),
 ∃
 (l_4
 :
 Nat),
 ∃
 (c_4
 :
 Option
 Nat),
 Zj
 h'
 h.nx
 0
 21 =
 some
 [V.i
 IntKind.i64
 n,
 V.ts
 cs
 l
 c,
 V.s
 s,
 V.s
 s_1,
 V.s
 s_2,
 V.s
 s_3,
 V.s
 s_4,
 V.s
 s_5,
 V.s
 s_6,
 V.s
 s_7,
 V.s
 s_8,
 V.s
 s_9,
 V.ts
 cs_1
 l_1
 c_1,
 V.i
 IntKind.i64
 n_2,
 V.i
 IntKind.i64
 n_3,
 V.i
 IntKind.i64
 n_4,
 V.i
 IntKind.i64
 n_5,
 V.i
 IntKind.i64
 n_6,
 V.ts
 cs_2
 l_2
 c_2,
 V.ts
 cs_3
 l_3
 c_3,
 V.ts
 cs_4
 l_4
 c_4] ∧
 ∃
 (n_7
 :
 Int),
 ∃
 (n_8
 :
 Int),
 ∃
 (s_10
 :
 List
 UInt8),
 ∃
 (n_9
 :
 Int),
 ∃
 (cs_5
 :
 List
 V),
 ∃
 (l_5
 :
 Nat),
 ∃
 (c_5
 :
 Option
 Nat),
 ∃
 (n_10
 :
 Int),
 ∃
 (n_11
 :
 Int),
 ∃
 (s_11
 :
 List
 UInt8),
 ∃
 (s_12
 :
 List
 UInt8),
 ∃
 (cs_6
 :
 List
 V),
 ∃
 (l_6
 :
 Nat),
 ∃
 (c_6
 :
 Option
 Nat),
 ∃
 (cs_7
 :
 List
 V),
 ∃
 (l_7
 :
 Nat),
 ∃
 (c_7
 :
 Option
 Nat),
 (PCon
 UY
 (88 :
 Nat)
 [V.agg
 [V.ts
 L
 M
 none,
 V.ts
 N
 O
 none,
 V.ts
 P
 J
 none,
 V.i
 IntKind.i64
 Q,
 V.i
 IntKind.i64
 R],
 V.agg
 [V.i
 IntKind.i64
 n,
 V.ts
 cs
 l
 c,
 V.s
 s,
 V.s
 s_1,
 V.s
 s_2,
 V.s
 s_3,
 V.s
 s_4,
 V.s
 s_5,
 V.s
 s_6,
 V.s
 s_7,
 V.s
 s_8,
 V.s
 s_9,
 V.ts
 cs_1
 l_1
 c_1,
 V.i
 IntKind.i64
 n_2,
 V.i
 IntKind.i64
 n_3,
 V.i
 IntKind.i64
 n_4,
 V.i
 IntKind.i64
 n_5,
 V.i
 IntKind.i64
 n_6,
 V.ts
 cs_2
 l_2
 c_2,
 V.ts
 cs_3
 l_3
 c_3,
 V.ts
 cs_4
 l_4
 c_4]]
 fun
 (v :
 V) =>
 v =
 V.agg
 [V.i
 IntKind.i64
 n_7,
 V.i
 IntKind.i64
 n_8,
 V.s
 s_10,
 V.i
 IntKind.i64
 n_9,
 V.ts
 cs_5
 l_5
 c_5,
 V.i
 IntKind.i64
 n_10,
 V.i
 IntKind.i64
 n_11,
 V.s
 s_11,
 V.s
 s_12,
 V.ts
 cs_6
 l_6
 c_6,
 V.ts
 cs_7
 l_7
 c_7]) ∧
 K
 Out.ret
 78
 [V.b
 (n_7 ==
 (12 :
 Int))]
 h')
 (K .ret 78
 [.b false] h'))
 (∃ (n : Int),
 Zj h' h.nx 17
 1 =
 some [V.i .i64 n] ∧
 K .ret 78
 [.b (n == (0 : Int))]
 h')))))))))))) := by kernel_rfl
theorem ZDc (M : List V) (N : Nat) (O : List V) (P : Nat) (d : List V) (a : Nat) (Q R e : Int) (f : List V) (g : Nat) (j m n o q r t u w x : List UInt8) (y : List V) (z : Nat) (A B C D E : Int) (F : List V) (G : Nat) (H : List V) (I : Nat) (J : List V) (L : Nat) (h : Heap) (K : KT) : (Zc UY (UY.loc 24) 100 (pre (flat (Za Tryz.f24))) ⟨(V.agg (vMD M N O P d a Q R) :: V.agg (vCF e f g j m n o q r t u w x y z A B C D E F G H I J L) :: List.replicate 128 .undef), [], h⟩ (VQ [2, 3, 4, 5, 7, 11, 12, 16, 21] K)) =
 (∃ (cs : List V) (l : Nat) (c : Option Nat), Zj
 (h.push
 (YObj.arr
 (vCF e f g j m n o q r t u w x y z A B C D E F G H I J L)
 true))
 h.nx 20 1 =
 some [V.ts cs l c] ∧
 If ((↑l : Int) != (a : Int))
 (K .ret 130
 [.lb
 (vMD M N O P d a Q R),
 .p (some (h.nx, 0)), .b false, .undef, .p (some (h.nx, 20)),
 .ts d a none, .i .i64 (a : Int), .tup [], .tup []]
 (h.push
 (YObj.arr
 (vCF e f g j m n o q r t u w x y z A B C D E F G H I J L)
 true)))
 (∃ (cs : List V) (l : Nat) (c : Option Nat), Zj
 (h.push
 (YObj.arr
 (vCF e f g j m n o q r t u w x y z A B C D E F G H I J L)
 true))
 h.nx 1 1 =
 some [V.ts cs l c] ∧
 ∃ (b : Bool),
 (PCon UY 61 [V.ts cs l c] fun v => v = V.b b) ∧
 If (!b)
 (K .ret 130
 [.lb
 (vMD M N O P d a Q R),
 .p (some (h.nx, 0)), .b false, .undef, .p (some (h.nx, 20)),
 .ts d a none, .i .i64 (a : Int), .ts cs l c, .tup []]
 (h.push
 (YObj.arr
 (vCF e f g j m n o q r t u w x y z A B C D E F G H I J L)
 true)))
 (∃ (cs_1 : List V) (l_1 : Nat) (c_1 : Option Nat), Zj
 (h.push
 (YObj.arr
 (vCF e f g j m n o q r t u w x y z A B C D E F G H I J L)
 true))
 h.nx 12 1 =
 some [V.ts cs_1 l_1 c_1] ∧
 If (ltI 4 l_1)
 (K .ret 130
 [.lb
 (vMD M N O P d a Q R),
 .p (some (h.nx, 0)), .b false, .undef, .p (some (h.nx, 20)),
 .ts d a none, .i .i64 (a : Int), .ts cs l c,
 .p (some (h.nx, 12))]
 (h.push
 (YObj.arr
 (vCF e f g j m n o q r t u w x y z A B C D E F G H I J L)
 true)))
 (K .normal 130
 [.lb
 (vMD M N O P d a Q R),
 .p (some (h.nx, 0)), .b false, .i .i64 0,
 .p (some (h.nx, 20)), .ts d a none,
 .i .i64 (a : Int), .ts cs l c, .p (some (h.nx, 12))]
 (h.push
 (YObj.arr
 (vCF e f g j m n o q r t u w x y z A B C D E F G H I J L)
 true)))))) := by kernel_rfl
theorem ZDd (g : List V) (j : Nat) (m : List V) (o : Nat) (d : List V) (a : Nat) (q f : Int) (e : Nat) (p7 : Option (Nat × Nat)) (r : Option Nat) (t : List V) (u : Nat) (w : Option (Nat × Nat)) (x5 : Int) (h : Heap) (K : KT) : (Zc UY (UY.loc 24) 100 ((flat (Zv (post (flat (Za Tryz.f24)))))) ⟨mk 130 (([2, 3, 5, 7, 11, 12, 16, 21] : List Nat).zip [V.lb (vMD g j m o d a q f), V.p (some (e, 0)), V.i .i64 x5, V.p p7, V.ts d a none, V.i .i64 (a : Int), V.ts t u r, V.p w]), [], h⟩ (VQ [2, 3, 4, 5, 7, 11, 12, 16, 21, 26] K)) =
 (∃ (cs : List V) (l : Nat) (c : Option Nat), Zj h e 20 1 = some [V.ts cs l c] ∧
 If (ltI x5 l)
 (∃ (cs : List V) (l : Nat) (c : Option Nat), Zj h e 20 1 = some [V.ts cs l c] ∧
 (0 ≤ x5 ∧ x5 < l) ∧
 ∃ (b b_1 b_2 : Bool) (n n_1 : Int) (s : List UInt8) (cs_1 : List V) (l : Nat) (c : Option Nat) (s_1 : List UInt8) (cs_2 : List V) (l_1 : Nat) (c_1 : Option Nat) (s_2 s_3 : List UInt8), Zh 11 (List.drop (x5.toNat * 11) cs) =
 some
 (vSD b b_1 b_2 n n_1 s cs_1 l c s_1 cs_2 l_1 c_1 s_2 s_3) ∧
 (0 ≤ x5 ∧ x5 < a) ∧
 ∃ (n_2 : Int) (cs : List V) (l_2 : Nat) (c_2 : Option Nat), Zh 2
 (List.drop (x5.toNat * 2) d) =
 some [V.i .i64 n_2, V.ts cs l_2 c_2] ∧
 ∃ (b_3 : Bool),
 (PCon UY 62
 [V.agg
 (vSD b b_1 b_2 n n_1 s cs_1 l c s_1 cs_2 l_1 c_1 s_2 s_3),
 V.agg [V.i .i64 n_2, V.ts cs l_2 c_2]]
 fun v => v = V.b b_3) ∧
 If (!b_3)
 (K .ret 130
 [.lb
 (vMD g j m o d a q f),
 .p (some (e, 0)), .b false,
 .i .i64 x5, .p p7,
 .ts d a none,
 .i .i64 (a : Int),
 .ts t u r, .p w,
 .i .i64 x5]
 h)
 (∃ (cs : List V) (l : Nat) (c : Option Nat), Zj h e 20 1 =
 some [V.ts cs l c] ∧
 (0 ≤ x5 ∧ x5 < l) ∧
 ∃ (s : List UInt8),
 Zh 1
 (List.drop 10
 (List.drop
 (x5.toNat * 11)
 cs)) =
 some [V.s s] ∧
 If (ltI f (↑s.length : Int))
 (K .ret 130
 [.lb
 [.ts g
 j none,
 .ts m
 o none,
 .ts d a
 none,
 .i .i64 q,
 .i .i64 f],
 .p (some (e, 0)),
 .b false, .i .i64 x5,
 .p p7,
 .ts d a none,
 .i IntKind.i64
 (a : Int),
 .ts t u r, .p w,
 .i .i64 x5]
 h)
 (K .normal 130
 [.lb
 [.ts g
 j none,
 .ts m
 o none,
 .ts d a
 none,
 .i .i64 q,
 .i .i64 f],
 .p (some (e, 0)),
 .undef,
 .i IntKind.i64
 (IntKind.i64.wrap
 (x5 + (1 : Int))),
 .p p7,
 .ts d a none,
 .i IntKind.i64
 (a : Int),
 .ts t u r, .p w,
 .i .i64 x5]
 h)))
 (K (.exit 0) 130
 [.lb
 (vMD g j m o d a q f),
 .p (some (e, 0)), .undef, .i .i64 x5, .p p7, .ts d a none,
 .i .i64 (a : Int), .ts t u r, .p w, .i .i64 x5]
 h)) := by kernel_rfl
theorem ZDe (c : List V) (d : Nat) (e : List V) (f : Nat) (b : List V) (a : Nat) (g j : Int) (l : Nat) (p7 : Option (Nat × Nat)) (m : Option Nat) (n : List V) (o : Nat) (q : Option (Nat × Nat)) (x5 : Int) (h : Heap) (K : KT) : (Zc UY (UY.loc 24) 100 (pre ((post (flat (Za Tryz.f24))).drop 1)) ⟨mk 130 (([2, 3, 7, 11, 12, 16, 21, 26] : List Nat).zip [V.lb (vMD c d e f b a g j), V.p (some (l, 0)), V.p p7, V.ts b a none, V.i .i64 (a : Int), V.ts n o m, V.p q, V.i .i64 x5]), [], h⟩ (VQ [2, 3, 6, 7, 11, 12, 16, 21, 26] K)) =
 (K .normal 130
 [.lb
 (vMD c d e f b a g j),
 .p (some (l, 0)), .i .i64 0, .p p7, .ts b a none,
 .i .i64 (a : Int), .ts n o m, .p q, .i .i64 x5]
 h) := by kernel_rfl
theorem ZDf (e : List V) (f : Nat) (g : List V) (j : Nat) (c : List V) (a : Nat) (l m : Int) (d : Nat) (p7 : Option (Nat × Nat)) (n : Option Nat) (o : List V) (q : Nat) (r : Option (Nat × Nat)) (x5 x6 : Int) (h : Heap) (K : KT) : (Zc UY (UY.loc 24) 100 ((flat (Zv (post ((post (flat (Za Tryz.f24))).drop 1))))) ⟨mk 130 (([2, 3, 6, 7, 11, 12, 16, 21, 26] : List Nat).zip [V.lb (vMD e f g j c a l m), V.p (some (d, 0)), V.i .i64 x6, V.p p7, V.ts c a none, V.i .i64 (a : Int), V.ts o q n, V.p r, V.i .i64 x5]), [], h⟩ (VQ [2, 3, 4, 6, 7, 11, 12, 16, 21, 26] K)) =
 (If (ltI x6 10)
 (((0 : Int) ≤ x6 ∧ x6 < (↑(10 : Nat) : Int)) ∧
 ∃ (s : List UInt8),
 Zj h d ((0 : Nat) + (2 : Nat) + x6.toNat * 1) 1 = some [V.s s] ∧
 If (ltI 32 (↑s.length : Int))
 (K .ret 130
 [.lb
 (vMD e f g j c a l m),
 .p (some (d, 0)), .b false, .i .i64 x6, .p p7, .ts c a none,
 .i .i64 (a : Int), .ts o q n, .p r, .i .i64 x5]
 h)
 (K .normal 130
 [.lb
 (vMD e f g j c a l m),
 .p (some (d, 0)), .undef, .i .i64 (IntKind.i64.wrap (x6 + (1 : Int))), .p p7,
 .ts c a none, .i .i64 (a : Int), .ts o q n, .p r,
 .i .i64 x5]
 h))
 (K (.exit 2) 130
 [.lb
 (vMD e f g j c a l m),
 .p (some (d, 0)), .undef, .i .i64 x6, .p p7, .ts c a none,
 .i .i64 (a : Int), .ts o q n, .p r, .i .i64 x5]
 h)) := by kernel_rfl
theorem ZDg (f : List V) (g : Nat) (j : List V) (m : Nat) (e : List V) (d : Nat) (o q : Int) (a : Nat) (p7 : Option (Nat × Nat)) (r : Option Nat) (t : List V) (u : Nat) (w : Option (Nat × Nat)) (x5 : Int) (h : Heap) (K : KT) : (Zc UY (UY.loc 24) 100 (((post ((post (flat (Za Tryz.f24))).drop 1)).drop 1)) ⟨mk 130 (([2, 3, 7, 11, 12, 16, 21, 26] : List Nat).zip [V.lb (vMD f g j m e d o q), V.p (some (a, 0)), V.p p7, V.ts e d none, V.i .i64 (d : Int), V.ts t u r, V.p w, V.i .i64 x5]), [], h⟩ (VQ [4] K)) =
 (∃ (n : Int),
 Zj h a 15 1 = some [V.i .i64 n] ∧
 If (ltI n (-1 : Int)) (K .ret 130 [.b false] h)
 (∃ (n : Int),
 Zj h a 15 1 = some [V.i .i64 n] ∧
 If (leI d n) (K .ret 130 [.b false] h)
 (∃ (n : Int),
 Zj h a 16 1 = some [V.i .i64 n] ∧
 If (ltI n (-1 : Int)) (K .ret 130 [.b false] h)
 (∃ (n : Int),
 Zj h a 16 1 = some [V.i .i64 n] ∧
 If (ltI 9 n) (K .ret 130 [.b false] h)
 (∃ (n : Int),
 Zj h a 13 1 = some [V.i .i64 n] ∧
 If (ltI n 0) (K .ret 130 [.b false] h)
 (∃ (n : Int),
 Zj h a 13 1 = some [V.i .i64 n] ∧
 If (ltI 3 n) (K .ret 130 [.b false] h)
 (∃ (n : Int),
 Zj h a 14 1 = some [V.i .i64 n] ∧
 ∃ (n_1 : Int),
 Zj h a 13 1 = some [V.i .i64 n_1] ∧
 If (!(n != (0 : Int)) == (n_1 == (3 : Int)))
 (K .ret 130 [.b false] h)
 (∃ (n : Int),
 Zj h a 17 1 = some [V.i .i64 n] ∧
 If (ltI n 0) (K .ret 130 [.b false] h)
 (∃ (n : Int),
 Zj h a 17 1 = some [V.i .i64 n] ∧
 If (ltI 0 n)
 (∃ (n : Int),
 Zj h a 13 1 =
 some [V.i .i64 n] ∧
 If (n != (1 : Int))
 (K .ret 130 [.b false] h)
 (∃ (n : Int),
 Zj h a 13 1 =
 some [V.i .i64 n] ∧
 If (n != (1 : Int))
 (K .ret 130 [.b true] h)
 (∃ (n : Int) (cs : List V) (l : Nat) (c : Option Nat) (s s_1 s_2 s_3 s_4 s_5 s_6 s_7 s_8 s_9 : List UInt8) (cs_1 : List V) (l_1 : Nat), ∃ (c_1 :
 Option Nat),
 ∃ (n_2 n_3 : Int), ∃ (n_4 :
 Int),
 ∃ (n_5 :
 Int),
 ∃ (n_6 :
 Int),
 ∃
 (cs_2
 :
 List
 V),
 ∃
 (l_2
 :
 Nat),
 ∃
 (c_2
 :
 Option
 Nat),
 ∃
 (cs_3
 :
 List
 V),
 ∃
 (l_3
 :
 Nat),
 ∃
 (c_3
 :
 Option
 Nat),
 ∃
 (cs_4
 :
 List
 V),
 ∃
 (l_4
 :
 Nat),
 ∃
 (c_4
 :
 Option
 Nat),
 Zj
 h
 a
 0
 21 =
 some
 [V.i
 IntKind.i64
 n,
 V.ts
 cs
 l
 c,
 V.s
 s,
 V.s
 s_1,
 V.s
 s_2,
 V.s
 s_3,
 V.s
 s_4,
 V.s
 s_5,
 V.s
 s_6,
 V.s
 s_7,
 V.s
 s_8,
 V.s
 s_9,
 V.ts
 cs_1
 l_1
 c_1,
 V.i
 IntKind.i64
 n_2,
 V.i
 IntKind.i64
 n_3,
 V.i
 IntKind.i64
 n_4,
 V.i
 IntKind.i64
 n_5,
 V.i
 IntKind.i64
 n_6,
 V.ts
 cs_2
 l_2
 c_2,
 V.ts
 cs_3
 l_3
 c_3,
 V.ts
 cs_4
 l_4
 c_4] ∧
 ∃
 (n_7
 :
 Int),
 ∃
 (n_8
 :
 Int),
 ∃
 (s_10
 :
 List
 UInt8),
 ∃
 (n_9
 :
 Int),
 ∃
 (cs_5
 :
 List
 V),
 ∃
 (l_5
 :
 Nat),
 ∃
 (c_5
 :
 Option
 Nat),
 ∃
 (n_10
 :
 Int),
 ∃
 (n_11
 :
 Int),
 ∃
 (s_11
 :
 List
 UInt8),
 ∃
 (s_12
 :
 List
 UInt8),
 ∃
 (cs_6
 :
 List
 V),
 ∃
 (l_6
 :
 Nat),
 ∃
 (c_6
 :
 Option
 Nat),
 ∃
 (cs_7
 :
 List
 V),
 ∃
 (l_7
 :
 Nat),
 ∃
 (c_7
 :
 Option
 Nat),
 (PCon
 UY
 (63 :
 Nat)
 [V.agg
 [V.ts
 f
 g
 none,
 V.ts
 j
 m
 none,
 V.ts
 e
 d
 none,
 V.i
 IntKind.i64
 o,
 V.i
 IntKind.i64
 q],
 V.agg
 [V.i
 IntKind.i64
 n,
 V.ts
 cs
 l
 c,
 V.s
 s,
 V.s
 s_1,
 V.s
 s_2,
 V.s
 s_3,
 V.s
 s_4,
 V.s
 s_5,
 V.s
 s_6,
 V.s
 s_7,
 V.s
 s_8,
 V.s
 s_9,
 V.ts
 cs_1
 l_1
 c_1,
 V.i
 IntKind.i64
 n_2,
 V.i
 IntKind.i64
 n_3,
 V.i
 IntKind.i64
 n_4,
 V.i
 IntKind.i64
 n_5,
 V.i
 IntKind.i64
 n_6,
 V.ts
 cs_2
 l_2
 c_2,
 V.ts
 cs_3
 l_3
 c_3,
 V.ts
 cs_4
 l_4
 c_4]]
 fun
 (v :
 V) =>
 v =
 V.agg
 [V.i
 IntKind.i64
 n_7,
 V.i
 IntKind.i64
 n_8,
 V.s
 s_10,
 V.i
 IntKind.i64
 n_9,
 V.ts
 cs_5
 l_5
 c_5,
 V.i
 IntKind.i64
 n_10,
 V.i
 IntKind.i64
 n_11,
 V.s
 s_11,
 V.s
 s_12,
 V.ts
 cs_6
 l_6
 c_6,
 V.ts
 cs_7
 l_7
 c_7]) ∧
 K
 Out.ret
 130
 [V.b
 (n_7 ==
 (12 :
 Int))]
 h)))
 (∃ (n : Int),
 Zj h a 13 1 =
 some [V.i .i64 n] ∧
 If (n != (1 : Int)) (K .ret 130 [.b true] h)
 (∃ (n : Int) (cs : List V) (l : Nat) (c : Option Nat) (s s_1 s_2 s_3 s_4 s_5 s_6 s_7 s_8 s_9 : List UInt8) (cs_1 : List V) (l_1 : Nat) (c_1 : Option Nat) (n_2 n_3 n_4 n_5 n_6 : Int), ∃ (cs_2 :
 List V),
 ∃ (l_2 :
 Nat),
 ∃ (c_2 :
 Option
 Nat),
 ∃
 (cs_3
 :
 List
 V),
 ∃
 (l_3
 :
 Nat),
 ∃
 (c_3
 :
 Option
 Nat),
 ∃
 (cs_4
 :
 List
 V),
 ∃
 (l_4
 :
 Nat),
 ∃
 (c_4
 :
 Option
 Nat),
 Zj
 h
 a
 0
 21 =
 some
 [V.i
 IntKind.i64
 n,
 V.ts
 cs
 l
 c,
 V.s
 s,
 V.s
 s_1,
 V.s
 s_2,
 V.s
 s_3,
 V.s
 s_4,
 V.s
 s_5,
 V.s
 s_6,
 V.s
 s_7,
 V.s
 s_8,
 V.s
 s_9,
 V.ts
 cs_1
 l_1
 c_1,
 V.i
 IntKind.i64
 n_2,
 V.i
 IntKind.i64
 n_3,
 V.i
 IntKind.i64
 n_4,
 V.i
 IntKind.i64
 n_5,
 V.i
 IntKind.i64
 n_6,
 V.ts
 cs_2
 l_2
 c_2,
 V.ts
 cs_3
 l_3
 c_3,
 V.ts
 cs_4
 l_4
 c_4] ∧
 ∃
 (n_7
 :
 Int),
 ∃
 (n_8
 :
 Int),
 ∃
 (s_10
 :
 List
 UInt8),
 ∃
 (n_9
 :
 Int),
 ∃
 (cs_5
 :
 List
 V),
 ∃
 (l_5
 :
 Nat),
 ∃
 (c_5
 :
 Option
 Nat),
 ∃
 (n_10
 :
 Int),
 ∃
 (n_11
 :
 Int),
 ∃
 (s_11
 :
 List
 UInt8),
 ∃
 (s_12
 :
 List
 UInt8),
 ∃
 (cs_6
 :
 List
 V),
 ∃
 (l_6
 :
 Nat),
 ∃
 (c_6
 :
 Option
 Nat),
 ∃
 (cs_7
 :
 List
 V),
 ∃
 (l_7
 :
 Nat),
 ∃
 (c_7
 :
 Option
 Nat),
 (PCon
 UY
 (63 :
 Nat)
 [V.agg
 [V.ts
 f
 g
 none,
 V.ts
 j
 m
 none,
 V.ts
 e
 d
 none,
 V.i
 IntKind.i64
 o,
 V.i
 IntKind.i64
 q],
 V.agg
 [V.i
 IntKind.i64
 n,
 V.ts
 cs
 l
 c,
 V.s
 s,
 V.s
 s_1,
 V.s
 s_2,
 V.s
 s_3,
 V.s
 s_4,
 V.s
 s_5,
 V.s
 s_6,
 V.s
 s_7,
 V.s
 s_8,
 V.s
 s_9,
 V.ts
 cs_1
 l_1
 c_1,
 V.i
 IntKind.i64
 n_2,
 V.i
 IntKind.i64
 n_3,
 V.i
 IntKind.i64
 n_4,
 V.i
 IntKind.i64
 n_5,
 V.i
 IntKind.i64
 n_6,
 V.ts
 cs_2
 l_2
 c_2,
 V.ts
 cs_3
 l_3
 c_3,
 V.ts
 cs_4
 l_4
 c_4]]
 fun
 (v :
 V) =>
 v =
 V.agg
 [V.i
 IntKind.i64
 n_7,
 V.i
 IntKind.i64
 n_8,
 V.s
 s_10,
 V.i
 IntKind.i64
 n_9,
 V.ts
 cs_5
 l_5
 c_5,
 V.i
 IntKind.i64
 n_10,
 V.i
 IntKind.i64
 n_11,
 V.s
 s_11,
 V.s
 s_12,
 V.ts
 cs_6
 l_6
 c_6,
 V.ts
 cs_7
 l_7
 c_7]) ∧
 K
 Out.ret
 130
 [V.b
 (n_7 ==
 (12 :
 Int))]
 h))))))))))) := by kernel_rfl
theorem Zzi (d : List V) (e : Nat) (f : List V) (g : Nat) (x2 : Int) (c8 : Option Nat) (j : List V) (n8 b l7 : Nat) (x9 a c : Int) (h : Heap) (K : KT) : (Zc UY (UY.loc 42) 100 ((flat (Zv (post (flat (Xx (post (flat (Zv (post (flat (Za Tryz.f42)))))))))))) ⟨mk 81 (([2, 3, 4, 7, 8, 9, 11, 12] : List Nat).zip [V.i .i64 x2, V.lb [V.ts d e none, V.ts f g none], V.undef, V.sl (some (b, 0)) l7 none 1, V.ts j n8 c8, V.i .i64 x9, V.i .i64 c, V.i .i64 a]), [], h⟩ (VQ [2, 3, 4, 7, 8, 9, 11, 12] K)) =
 (If (ltI a l7)
 ((0 ≤ a ∧ a < l7) ∧
 1 = 1 ∧
 ∃ (n : Int),
 Zj h b ((0 : Nat) + a.toNat * 1) 1 = some [V.i .i64 n] ∧
 If (ltI n c)
 (K .normal 81
 [.i .i64 x2, .lb [.ts d e none, .ts f g none], .undef,
 .sl (some (b, 0)) l7 none 1, .ts j n8 c8, .i .i64 x9,
 .i .i64 c, .i .i64 (IntKind.i64.wrap (a + (1 : Int)))]
 h)
 (K (.exit 2) 81
 [.i .i64 x2, .lb [.ts d e none, .ts f g none], .undef,
 .sl (some (b, 0)) l7 none 1, .ts j n8 c8, .i .i64 x9,
 .i .i64 c, .i .i64 a]
 h))
 (K (.exit 2) 81
 [.i .i64 x2, .lb [.ts d e none, .ts f g none], .undef,
 .sl (some (b, 0)) l7 none 1, .ts j n8 c8, .i .i64 x9, .i .i64 c,
 .i .i64 a]
 h)) := by kernel_rfl
theorem Zzj (e : List V) (f : Nat) (g : List V) (j : Nat) (x2 : Int) (c8 : Option Nat) (m : List V) (n8 d l7 : Nat) (x9 b o : Int) (h : Heap) (K : KT) : (Zc UY (UY.loc 42) 100 (((post (flat (Xx (post (flat (Zv (post (flat (Za Tryz.f42))))))))).drop 1)) ⟨mk 81 (([2, 3, 4, 7, 8, 9, 11, 12] : List Nat).zip [V.i .i64 x2, V.lb [V.ts e f none, V.ts g j none], V.undef, V.sl (some (d, 0)) l7 none 1, V.ts m n8 c8, V.i .i64 x9, V.i .i64 o, V.i .i64 b]), [], h⟩ (VQ [2, 3, 4, 7, 8, 9] K)) =
 (If (ltI b l7)
 ((0 ≤ b ∧ b < l7) ∧
 1 = 1 ∧
 ∃ (n : Int),
 Zj h d ((0 : Nat) + b.toNat * 1) 1 = some [V.i .i64 n] ∧
 If (n == o)
 (K (.exit 1) 81
 [.i .i64 x2, .lb [.ts e f none, .ts g j none], .undef,
 .sl (some (d, 0)) l7 none 1, .ts m n8 c8, .i .i64 x9]
 h)
 (1 = 1 ∧
 ((0 : Int) ≤ b ∧ b ≤ (l7 : Int)) ∧
 ((∃ (a : Option (Nat × Nat)) (l : Nat) (c : Option Nat) (k : Nat) (h_1 : Heap), Zk UY h 31 31 (V.ts [] 0 (some 0))
 (V.sl (some (d, (0 : Nat) + b.toNat * 1)) (l7 - b.toNat) none
 1) =
 some (V.sl a l c k, h_1) ∧
 1 = 1 ∧
 ((0 : Int) ≤ b ∧ b ≤ (↑(none.getD l7) : Int)) ∧
 ∃ (a_1 : Option (Nat × Nat)) (l_1 : Nat) (c_1 : Option Nat) (k_1 : Nat) (h : Heap), Zk UY h_1 31 31
 (V.sl (some (d, 0)) (b.toNat - (0 : Nat)) none
 1)
 (V.ts [V.i .i64 o] 1 (some 1)) =
 some (V.sl a_1 l_1 c_1 k_1, h) ∧
 ∃ (a_2 : Option (Nat × Nat)) (l_2 : Nat) (c_2 : Option Nat) (k_2 : Nat) (h_2 : Heap), Zk UY h 31 31
 (V.sl a_1 l_1 c_1 k_1) (V.sl a l c k) =
 some (V.sl a_2 l_2 c_2 k_2, h_2) ∧
 K .normal 81
 [.i .i64 x2,
 .lb
 [.ts e f none,
 .ts g j none],
 .undef, .sl a_2 l_2 c_2 k_2, .ts m n8 c8,
 .i .i64 x9]
 h_2) ∨
 Zk UY h 31 31 (V.ts [] 0 (some 0))
 (V.sl (some (d, (0 : Nat) + b.toNat * 1)) (l7 - b.toNat) none 1) =
 some (V.ts [] 0 (some 0), h) ∧
 1 = 1 ∧
 ((0 : Int) ≤ b ∧ b ≤ (↑(none.getD l7) : Int)) ∧
 ∃ (a : Option (Nat × Nat)) (l : Nat) (c : Option Nat) (k : Nat) (h_1 : Heap), Zk UY h 31 31
 (V.sl (some (d, 0)) (b.toNat - (0 : Nat)) none 1)
 (V.ts [V.i .i64 o] 1 (some 1)) =
 some (V.sl a l c k, h_1) ∧
 ∃ (a_1 : Option (Nat × Nat)) (l_1 : Nat) (c_1 : Option Nat) (k_1 : Nat) (h : Heap), Zk UY h_1 31 31 (V.sl a l c k)
 (V.ts [] 0 (some 0)) =
 some (V.sl a_1 l_1 c_1 k_1, h) ∧
 K .normal 81
 [.i .i64 x2,
 .lb [.ts e f none, .ts g j none],
 .undef, .sl a_1 l_1 c_1 k_1, .ts m n8 c8, .i .i64 x9]
 h)))
 (1 = 1 ∧
 ((0 : Int) ≤ b ∧ b ≤ (l7 : Int)) ∧
 ((∃ (a : Option (Nat × Nat)) (l : Nat) (c : Option Nat) (k : Nat) (h_1 : Heap), Zk UY h 31 31 (V.ts [] 0 (some 0))
 (V.sl (some (d, (0 : Nat) + b.toNat * 1)) (l7 - b.toNat) none 1) =
 some (V.sl a l c k, h_1) ∧
 1 = 1 ∧
 ((0 : Int) ≤ b ∧ b ≤ (↑(none.getD l7) : Int)) ∧
 ∃ (a_1 : Option (Nat × Nat)) (l_1 : Nat) (c_1 : Option Nat) (k_1 : Nat) (h : Heap), Zk UY h_1 31 31
 (V.sl (some (d, 0)) (b.toNat - (0 : Nat)) none 1)
 (V.ts [V.i .i64 o] 1 (some 1)) =
 some (V.sl a_1 l_1 c_1 k_1, h) ∧
 ∃ (a_2 : Option (Nat × Nat)) (l_2 : Nat) (c_2 : Option Nat) (k_2 : Nat) (h_2 : Heap), Zk UY h 31 31 (V.sl a_1 l_1 c_1 k_1)
 (V.sl a l c k) =
 some (V.sl a_2 l_2 c_2 k_2, h_2) ∧
 K .normal 81
 [.i .i64 x2,
 .lb [.ts e f none, .ts g j none],
 .undef, .sl a_2 l_2 c_2 k_2, .ts m n8 c8, .i .i64 x9]
 h_2) ∨
 Zk UY h 31 31 (V.ts [] 0 (some 0))
 (V.sl (some (d, (0 : Nat) + b.toNat * 1)) (l7 - b.toNat) none 1) =
 some (V.ts [] 0 (some 0), h) ∧
 1 = 1 ∧
 ((0 : Int) ≤ b ∧ b ≤ (↑(none.getD l7) : Int)) ∧
 ∃ (a : Option (Nat × Nat)) (l : Nat) (c : Option Nat) (k : Nat) (h_1 : Heap), Zk UY h 31 31
 (V.sl (some (d, 0)) (b.toNat - (0 : Nat)) none 1)
 (V.ts [V.i .i64 o] 1 (some 1)) =
 some (V.sl a l c k, h_1) ∧
 ∃ (a_1 : Option (Nat × Nat)) (l_1 : Nat) (c_1 : Option Nat) (k_1 : Nat) (h : Heap), Zk UY h_1 31 31 (V.sl a l c k)
 (V.ts [] 0 (some 0)) =
 some (V.sl a_1 l_1 c_1 k_1, h) ∧
 K .normal 81
 [.i .i64 x2,
 .lb [.ts e f none, .ts g j none], .undef,
 .sl a_1 l_1 c_1 k_1, .ts m n8 c8, .i .i64 x9]
 h))) := by kernel_rfl
theorem Zzk (a : List V) (b : Nat) (c : List V) (d : Nat) (x2 : Int) (c8 : Option Nat) (e : List V) (n8 : Nat) (f : Option (Nat × Nat)) (g : Nat) (j : Option Nat) (l : Nat) (m : Int) (h : Heap) (K : KT) : (Zc UY (UY.loc 42) 100 (((post (flat (Zv (post (flat (Za Tryz.f42)))))).drop 1)) ⟨mk 81 (([2, 3, 4, 7, 8, 9] : List Nat).zip [V.i .i64 x2, V.lb [V.ts a b none, V.ts c d none], V.undef, V.sl f g j l, V.ts e n8 c8, V.i .i64 m]), [], h⟩ (VQ [2, 3, 4, 7, 8, 9] K)) =
 (K .normal 81
 [.i .i64 x2, .lb [.ts a b none, .ts c d none], .undef,
 .sl f g j l, .ts e n8 c8, .i .i64 (IntKind.i64.wrap (m + (1 : Int)))]
 h) := by kernel_rfl
theorem Zzl (a : Option (Nat × Nat)) (b : Nat) (c : Option Nat) (d : Nat) (h : Heap) (K : KT) : (Zc UY (UY.loc 42) 100 (((post (flat (Za Tryz.f42))).drop 1)) ⟨mk 81 (([7] : List Nat).zip [V.sl a b c d]), [], h⟩ (VQ [6] K)) =
 (K .ret 81 [.sl a b c d] h) := by kernel_rfl
theorem Zt8 (id : Nat) (h : Heap) (K : KT) : (Zc UY (UY.loc 216) 100 (pre (flat (Za Tryz.f216))) ⟨(V.sl (some (id, 2)) 10 (some 10) 1 :: V.fn (Fn.func 174) [] [] :: List.replicate 17 .undef), [], h⟩ (VQ [0, 1, 7, 8] K)) =
 (K .normal 19
 [.sl (some (id, 2)) 10 (some 10) 1, .fn (Fn.func 174) [] [],
 .i .i64 (↑(10 : Nat) : Int), .i .i64 0]
 h) := by kernel_rfl
theorem Zt9 (id : Nat) (x7 x8 : Int) (h : Heap) (K : KT) : (Zc UY (UY.loc 216) 100 ((flat (Zv (post (flat (Za Tryz.f216)))))) ⟨mk 19 (([0, 1, 7, 8] : List Nat).zip [V.sl (some (id, 2)) 10 (some 10) 1, V.fn (Fn.func 174) [] [], V.i .i64 x7, V.i .i64 x8]), [], h⟩ (VQ [0, 1, 4, 7, 8] K)) =
 (If (ltI x8 x7)
 (((0 : Int) ≤ x8 ∧ x8 < (↑(10 : Nat) : Int)) ∧
 1 = 1 ∧
 ∃ (s : List UInt8),
 Zj h id ((2 : Nat) + x8.toNat * 1) 1 = some [V.s s] ∧
 ∃ (b : Bool),
 (PCon UY 174 [V.s s] fun v => v = V.b b) ∧
 If b
 (K .ret 19
 [.sl (some (id, 2)) 10 (some 10) 1,
 .fn (Fn.func 174) [] [], .i .i64 x8, .i .i64 x7, .i .i64 x8]
 h)
 (K .normal 19
 [.sl (some (id, 2)) 10 (some 10) 1,
 .fn (Fn.func 174) [] [], .undef, .i .i64 x7,
 .i .i64 (IntKind.i64.wrap (x8 + (1 : Int)))]
 h))
 (K (.exit 0) 19
 [.sl (some (id, 2)) 10 (some 10) 1, .fn (Fn.func 174) [] [],
 .undef, .i .i64 x7, .i .i64 x8]
 h)) := by kernel_rfl
theorem Zua (h : Heap) (K : KT) : (Zc UY (UY.loc 216) 100 (((post (flat (Za Tryz.f216))).drop 1)) ⟨mk 19 (([] : List Nat).zip []), [], h⟩ (VQ [4] K)) =
 (K .ret 19 [.i .i64 (-1)] h) := by kernel_rfl
theorem Zub (id : Nat) (h : Heap) (K : KT) : (Zc UY (UY.loc 173) 100 ((flat (Za Tryz.f173))) ⟨(V.sl (some (id, 2)) 10 (some 10) 1 :: V.fn (Fn.func 174) [] [] :: List.replicate 7 .undef), [], h⟩ (VQ [4] K)) =
 (Con UY 216
 [V.sl (some (id, 2)) 10 (some 10) 1, V.fn (Fn.func 174) [] []] h
 fun (v : V) (h' : Heap) => ∃ (n : Int), v = V.i .i64 n ∧ K .ret 9 [.b (leI 0 n)] h') := by kernel_rfl
theorem Zzm (a : List V) (b : Nat) (c : List V) (d : Nat) (x2 : Int) (c8 : Option Nat) (e : List V) (n8 : Nat) (f x9 : Int) (h : Heap) (K : KT) : (Zc UY (UY.loc 42) 100 ((flat (Zv (post (flat (Xx (post (flat (Zv (post (flat (Za Tryz.f42)))))))))))) ⟨mk 81 (([2, 3, 4, 7, 8, 9, 11, 12] : List Nat).zip [V.i .i64 x2, V.lb [V.ts a b none, V.ts c d none], V.undef, V.sl none 0 (some 0) 0, V.ts e n8 c8, V.i .i64 x9, V.i .i64 f, V.i .i64 0]), [], h⟩ (VQ [2, 3, 4, 7, 8, 9, 11, 12] K)) =
 (K (.exit 2) 81
 [.i .i64 x2, .lb [.ts a b none, .ts c d none], .undef,
 .sl none 0 (some 0) 0, .ts e n8 c8, .i .i64 x9, .i .i64 f,
 .i .i64 0]
 h) := by kernel_rfl
theorem Zzn (b : List V) (d : Nat) (e : List V) (f : Nat) (x2 : Int) (c8 : Option Nat) (g : List V) (n8 : Nat) (j x9 : Int) (h : Heap) (K : KT) : (Zc UY (UY.loc 42) 100 (((post (flat (Xx (post (flat (Zv (post (flat (Za Tryz.f42))))))))).drop 1)) ⟨mk 81 (([2, 3, 4, 7, 8, 9, 11, 12] : List Nat).zip [V.i .i64 x2, V.lb [V.ts b d none, V.ts e f none], V.undef, V.sl none 0 (some 0) 0, V.ts g n8 c8, V.i .i64 x9, V.i .i64 j, V.i .i64 0]), [], h⟩ (VQ [2, 3, 4, 7, 8, 9] K)) =
 (∃ (a' : Option (Nat × Nat)) (n' : Nat) (c' : Option Nat) (k' : Nat), JX UY 31 (V.sl none 0 (some 0) 0)
 (some (V.i .i64 0)) none none =
 some (V.sl a' n' c' k') ∧
 ((∃ (a : Option (Nat × Nat)) (l : Nat) (c : Option Nat) (k : Nat) (h_1 : Heap), Zk UY h 31 31 (V.ts [] 0 (some 0))
 (V.sl a' n' c' k') =
 some (V.sl a l c k, h_1) ∧
 ∃ (a' : Option (Nat × Nat)) (n' : Nat) (c' : Option Nat) (k' : Nat), JX UY 31 (V.sl none 0 (some 0) 0) none
 (some (V.i .i64 0)) none =
 some (V.sl a' n' c' k') ∧
 ∃ (a_1 : Option (Nat × Nat)) (l_1 : Nat) (c_1 : Option Nat) (k_1 : Nat) (h : Heap), Zk UY h_1 31 31 (V.sl a' n' c' k')
 (V.ts [V.i .i64 j] 1 (some 1)) =
 some (V.sl a_1 l_1 c_1 k_1, h) ∧
 ∃ (a_2 : Option (Nat × Nat)) (l_2 : Nat) (c_2 : Option Nat) (k_2 : Nat) (h_2 : Heap), Zk UY h 31 31
 (V.sl a_1 l_1 c_1 k_1) (V.sl a l c k) =
 some (V.sl a_2 l_2 c_2 k_2, h_2) ∧
 K .normal 81
 [.i .i64 x2,
 .lb
 [.ts b d none,
 .ts e f none],
 .undef, .sl a_2 l_2 c_2 k_2, .ts g n8 c8,
 .i .i64 x9]
 h_2) ∨
 Zk UY h 31 31 (V.ts [] 0 (some 0)) (V.sl a' n' c' k') =
 some (V.ts [] 0 (some 0), h) ∧
 ∃ (a' : Option (Nat × Nat)) (n' : Nat) (c' : Option Nat) (k' : Nat), JX UY 31 (V.sl none 0 (some 0) 0) none
 (some (V.i .i64 0)) none =
 some (V.sl a' n' c' k') ∧
 ∃ (a : Option (Nat × Nat)) (l : Nat) (c : Option Nat) (k : Nat) (h_1 : Heap), Zk UY h 31 31 (V.sl a' n' c' k')
 (V.ts [V.i .i64 j] 1 (some 1)) =
 some (V.sl a l c k, h_1) ∧
 ∃ (a_1 : Option (Nat × Nat)) (l_1 : Nat) (c_1 : Option Nat) (k_1 : Nat) (h : Heap), Zk UY h_1 31 31 (V.sl a l c k)
 (V.ts [] 0 (some 0)) =
 some (V.sl a_1 l_1 c_1 k_1, h) ∧
 K .normal 81
 [.i .i64 x2,
 .lb [.ts b d none, .ts e f none],
 .undef, .sl a_1 l_1 c_1 k_1, .ts g n8 c8, .i .i64 x9]
 h)) := by kernel_rfl
end Go.Y
