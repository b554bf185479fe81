/- What the pieces of functions come to: printed by program. -/
import Derived.Test.YtkcgmnhojldoiaaGreatYTryzP
import Derived.Test.YtkcgmnhojldoiaaGreatYLoop
import Derived.Test.YtkcgmnhojldoiaaGreatYRow
import Derived.Test.YtkcgmnhojldoiaaGreatGPeer55
import Derived.Test.YtkcgmnhojldoiaaGreatGTree
namespace Go.Y
open Go.Proofs
set_option maxRecDepth 1000000
set_option maxHeartbeats 0
theorem Zr5 (m a e : Bool) (c f : Int) (g : List UInt8) (o : List V) (d : Nat) (j : List UInt8) (q : List V) (r : Nat) (l p : List UInt8) (u : Int) (w : List V) (t : Nat) (h : Heap) (K : KT) : (Zc UY (UY.loc 171) 100 ((flat (Za Tryz.f171))) ⟨(V.agg (vSD m a e c f g o d none j q r none l p) :: V.agg [V.i .i64 u, V.ts w t none] :: List.replicate 105 .undef), [], h⟩ (VQ [4] K)) =
 (∃ (b : Bool),
 (PCon UY 170 [V.agg [V.i .i64 u, V.ts w t none]] fun v => v = V.b b) ∧
 If (!b) (K .ret 107 [.b false] h)
 (If (ltI c 0) (K .ret 107 [.b false] h)
 (If (leI t c) (K .ret 107 [.b false] h)
 (If (ltI f 0) (K .ret 107 [.b false] h)
 (∃ (b : Bool),
 (PCon UY 210 [V.s g] fun v => v = V.b b) ∧
 If (!b) (K .ret 107 [.b false] h)
 (If (ltI 2 d) (K .ret 107 [.b false] h)
 (Con UY 173 [V.ts o d none, V.fn (Fn.func (211 : Nat)) [] []] h
 fun (v : V) (h' : Heap) =>
 ∃ (b : Bool),
 v = V.b b ∧
 If b (K .ret 107 [.b false] h')
 (∃ (b : Bool),
 (PCon UY 212
 [V.agg
 (vSD m a e c f g o d none j q r none l p)]
 fun v => v = V.b b) ∧
 If (!b) (K .ret 107 [.b false] h')
 (∃ (n : Int),
 (PCon UY 213
 [V.agg
 (vSD m a e c f g o d none j q r none l p),
 V.agg [V.i .i64 u, V.ts w t none]]
 fun v => v = V.i .i64 n) ∧
 If (ltI n 0) (K .ret 107 [.b false] h')
 (If (ltI 64 (↑p.length : Int))
 (K .ret 107 [.b false] h')
 (If (!m)
 (∃ (b : Bool),
 (PCon UY 214
 [V.agg
 (vSD m a e c f g o d none j q r none l p),
 V.agg
 [V.b false, V.b false, V.b false, V.i .i64 0,
 V.i .i64 0, V.s [],
 V.sl none 0 (some 0) 0, V.s [],
 V.sl none 0 (some 0) 0, V.s [],
 V.s []]]
 fun v => v = V.b b) ∧
 K .ret 107 [.b b] h')
 (If a
 (If (c != (0 : Int)) (K .ret 107 [.b false] h')
 (If (f != (0 : Int)) (K .ret 107 [.b false] h')
 (If (!g == #[].toList) (K .ret 107 [.b false] h')
 (If (ltI 0 d)
 (K .ret 107 [.b false] h')
 (If (!e) (K .ret 107 [.b true] h')
 (If a
 (If (j == #[].toList)
 (K .ret 107 [.b (l == #[].toList)] h')
 (K .ret 107 [.b false] h'))
 (K .ret 107 [.b false] h')))))))
 (If (!e) (K .ret 107 [.b true] h')
 (If a
 (If (j == #[].toList)
 (K .ret 107 [.b (l == #[].toList)] h')
 (K .ret 107 [.b false] h'))
 (K .ret 107 [.b false] h'))))))))))))))) := by kernel_rfl
theorem Zwt (l m n : Bool) (c f : Int) (g : List UInt8) (o : List V) (j : Nat) (p : List UInt8) (q : List V) (r : Nat) (t u : List UInt8) (d : Int) (e : List V) (a : Nat) (h : Heap) (K : KT) : (Zc UY (UY.loc 62) 100 (pre (flat (Za Tryz.f62))) ⟨(V.agg (vSD l m n c f g o j none p q r none t u) :: V.agg [V.i .i64 d, V.ts e a none] :: List.replicate 151 .undef), [], h⟩ (VQ [2, 3, 4, 5, 7, 9, 11, 13, 16] K)) =
 (∃ (b : Bool),
 (PCon UY 60 [V.agg [V.i .i64 d, V.ts e a none]] fun v => v = V.b b) ∧
 If (!b)
 (K .ret 153
 [.lb
 (vSD l m n c f g o j none p q r none t u),
 .lb [.i .i64 d, .ts e a none], .b false, .undef,
 .agg [.i .i64 d, .ts e a none], .b !b, .tup [], .tup [], .tup []]
 h)
 (If (ltI c 0)
 (K .ret 153
 [.lb
 (vSD l m n c f g o j none p q r none t u),
 .lb [.i .i64 d, .ts e a none], .b false, .undef,
 .agg [.i .i64 d, .ts e a none], .b !b, .rf, .b (ltI c 0),
 .tup []]
 h)
 (If (leI a c)
 (K .ret 153
 [.lb
 (vSD l m n c f g o j none p q r none t u),
 .lb [.i .i64 d, .ts e a none], .b false, .undef,
 .agg [.i .i64 d, .ts e a none], .b !b, .rf, .b (ltI c 0),
 .rf]
 h)
 (If (ltI f 0)
 (K .ret 153
 [.lb
 (vSD l m n c f g o j none p q r none t u),
 .lb [.i .i64 d, .ts e a none], .b false, .undef,
 .agg [.i .i64 d, .ts e a none], .b !b, .rf, .b (ltI c 0),
 .rf]
 h)
 (∃ (b_1 : Bool),
 (PCon UY 108 [V.s g] fun v => v = V.b b_1) ∧
 If (!b_1)
 (K .ret 153
 [.lb
 (vSD l m n c f g o j none p q r none t u),
 .lb [.i .i64 d, .ts e a none], .b false, .undef,
 .agg [.i .i64 d, .ts e a none], .b !b, .rf,
 .b (ltI c 0), .rf]
 h)
 (If (ltI 2 j)
 (K .ret 153
 [.lb
 (vSD l m n c f g o j none p q r none t u),
 .lb [.i .i64 d, .ts e a none], .b false, .undef,
 .agg [.i .i64 d, .ts e a none], .b !b, .rf,
 .b (ltI c 0), .rf]
 h)
 (K .normal 153
 [.lb
 (vSD l m n c f g o j none p q r none t u),
 .lb [.i .i64 d, .ts e a none], .b false,
 .i .i64 0, .agg [.i .i64 d, .ts e a none], .b !b,
 .rf, .b (ltI c 0), .rf]
 h))))))) := by kernel_rfl
theorem Zwu (g j : Int) (l : List UInt8) (f : List V) (e : Nat) (m : List UInt8) (n : List V) (o : Nat) (p q : List UInt8) (a : Int) (c : List V) (d : Nat) (r t u b9 w : Bool) (x5 : Int) (h : Heap) (K : KT) : (Zc UY (UY.loc 62) 100 ((flat (Zv (post (flat (Za Tryz.f62)))))) ⟨mk 153 (([2, 3, 5, 7, 9, 11, 13, 16] : List Nat).zip [V.lb (vSD r t u g j l f e none m n o none p q), V.lb [V.i .i64 a, V.ts c d none], V.i .i64 x5, V.agg [V.i .i64 a, V.ts c d none], V.b b9, V.rf, V.b w, V.rf]), [], h⟩ (VQ [2, 3, 4, 5, 7, 9, 11, 13, 16] K)) =
 (If (ltI x5 e)
 ((0 ≤ x5 ∧ x5 < e) ∧
 ∃ (s : List UInt8),
 Zh 1 (List.drop (x5.toNat * 1) f) = some [V.s s] ∧
 ∃ (b : Bool),
 (PCon UY 108 [V.s s] fun v => v = V.b b) ∧
 If (!b)
 (K .ret 153
 [.lb
 (vSD r t u g j l f e none m n o none p q),
 .lb [.i .i64 a, .ts c d none], .b false, .i .i64 x5,
 .agg [.i .i64 a, .ts c d none], .b b9, .rf, .b w, .rf]
 h)
 (K .normal 153
 [.lb
 (vSD r t u g j l f e none m n o none p q),
 .lb [.i .i64 a, .ts c d none], .undef,
 .i .i64 (IntKind.i64.wrap (x5 + (1 : Int))),
 .agg [.i .i64 a, .ts c d none], .b b9, .rf, .b w, .rf]
 h))
 (K (.exit 0) 153
 [.lb
 (vSD r t u g j l f e none m n o none p q),
 .lb [.i .i64 a, .ts c d none], .undef, .i .i64 x5,
 .agg [.i .i64 a, .ts c d none], .b b9, .rf, .b w, .rf]
 h)) := by kernel_rfl
theorem Zwv (j l : Int) (m : List V) (o : Nat) (p : List V) (a : Nat) (c : Int) (d : List V) (e : Nat) (q r t : Bool) (u f w g : List UInt8) (x y : Bool) (h : Heap) (K : KT) : (Zc UY (UY.loc 62) 100 (pre ((post (flat (Za Tryz.f62))).drop 1)) ⟨mk 153 (([2, 3, 7, 9, 11, 13, 16] : List Nat).zip [V.lb (vSD q r t j l u m o none f p a none w g), V.lb [V.i .i64 c, V.ts d e none], V.agg [V.i .i64 c, V.ts d e none], V.b x, V.rf, V.b y, V.rf]), [], h⟩ (VQ [2, 3, 4, 6, 9, 11, 16] K)) =
 (If ((↑a : Int) != (↑f.length : Int))
 (K .ret 153
 [.lb
 (vSD q r t j l u m o none f p a none w g),
 .lb [.i .i64 c, .ts d e none], .b false, .undef, .b x, .rf, .rf]
 h)
 (∃ (n : Int),
 (PCon UY 109
 [V.agg
 (vSD q r t j l u m o none f p a none w g),
 V.agg [V.i .i64 c, V.ts d e none]]
 fun v => v = V.i .i64 n) ∧
 If (ltI n 0)
 (K .ret 153
 [.lb
 (vSD q r t j l u m o none f p a none w g),
 .lb [.i .i64 c, .ts d e none], .b false, .undef, .b x, .rf, .rf]
 h)
 (If (ltI 64 (↑g.length : Int))
 (K .ret 153
 [.lb
 (vSD q r t j l u m o none f p a none w g),
 .lb [.i .i64 c, .ts d e none], .b false, .undef, .b x, .rf, .rf]
 h)
 (K .normal 153
 [.lb
 (vSD q r t j l u m o none f p a none w g),
 .lb [.i .i64 c, .ts d e none], .undef, .i .i64 0, .b x,
 .rf, .rf]
 h)))) := by kernel_rfl
theorem Zww (d e : Int) (f : List V) (g : Nat) (c : List V) (a : Nat) (j : Int) (l : List V) (m : Nat) (o p q : Bool) (r t u v : List UInt8) (w : Bool) (x6 : Int) (h : Heap) (K : KT) : (Zc UY (UY.loc 62) 100 ((flat (Zv (post ((post (flat (Za Tryz.f62))).drop 1))))) ⟨mk 153 (([2, 3, 6, 9, 11, 16] : List Nat).zip [V.lb (vSD o p q d e r f g none t c a none u v), V.lb [V.i .i64 j, V.ts l m none], V.i .i64 x6, V.b w, V.rf, V.rf]), [], h⟩ (VQ [2, 3, 4, 6, 9, 11, 16] K)) =
 (If (ltI x6 a)
 ((0 ≤ x6 ∧ x6 < a) ∧
 ∃ (n : Int),
 Zh 1 (List.drop (x6.toNat * 1) c) = some [V.i .i64 n] ∧
 If (ltI n 0)
 (K .ret 153
 [.lb
 (vSD o p q d e r f g none t c a none u v),
 .lb [.i .i64 j, .ts l m none], .b false, .i .i64 x6, .b w, .rf,
 .rf]
 h)
 (If (ltI 0 x6)
 ((0 ≤ x6 ∧ x6 < a) ∧
 ∃ (n : Int),
 Zh 1 (List.drop (x6.toNat * 1) c) = some [V.i .i64 n] ∧
 ((0 : Int) ≤ IntKind.i64.wrap (x6 - (1 : Int)) ∧
 IntKind.i64.wrap (x6 - (1 : Int)) < (a : Int)) ∧
 ∃ (n_1 : Int),
 Zh 1 (List.drop ((IntKind.i64.wrap (x6 - (1 : Int))).toNat * 1) c) =
 some [V.i .i64 n_1] ∧
 If (ltI n_1 n)
 (K .ret 153
 [.lb
 (vSD o p q d e r f g none t c a none u v),
 .lb [.i .i64 j, .ts l m none], .b false, .i .i64 x6,
 .b w, .rf, .rf]
 h)
 (K .normal 153
 [.lb
 (vSD o p q d e r f g none t c a none u v),
 .lb [.i .i64 j, .ts l m none], .undef,
 .i .i64 (IntKind.i64.wrap (x6 + (1 : Int))), .b w, .rf, .rf]
 h))
 (K .normal 153
 [.lb
 (vSD o p q d e r f g none t c a none u v),
 .lb [.i .i64 j, .ts l m none], .undef,
 .i .i64 (IntKind.i64.wrap (x6 + (1 : Int))), .b w, .rf, .rf]
 h)))
 (K (.exit 2) 153
 [.lb
 (vSD o p q d e r f g none t c a none u v),
 .lb [.i .i64 j, .ts l m none], .undef, .i .i64 x6, .b w, .rf, .rf]
 h)) := by kernel_rfl
theorem Zwx (f g : Int) (n : List V) (j : Nat) (o : List V) (p : Nat) (r : Int) (t : List V) (u : Nat) (x6 : Int) (m a c : Bool) (l d e q : List UInt8) (h : Heap) (K : KT) : (Zc UY (UY.loc 62) 100 (((post ((post (flat (Za Tryz.f62))).drop 1)).drop 1)) ⟨mk 153 (([2, 3, 6, 11, 16] : List Nat).zip [V.lb (vSD m a c f g l n j none d o p none e q), V.lb [V.i .i64 r, V.ts t u none], V.i .i64 x6, V.rf, V.rf]), [], h⟩ (VQ [4] K)) =
 (If (!m)
 (∃ (b : Bool),
 (PCon UY 110
 [V.agg
 (vSD m a c f g l n j none d o p none e q),
 V.agg
 [V.b false, V.b false, V.b false, V.i .i64 0, V.i .i64 0, V.s [],
 V.sl none 0 (some 0) 0, V.s [],
 V.sl none 0 (some 0) 0, V.s [], V.s []]]
 fun v => v = V.b b) ∧
 If (!b) (K .ret 153 [.b false] h)
 (If a
 (If (f != (0 : Int)) (K .ret 153 [.b false] h)
 (If (g != (0 : Int)) (K .ret 153 [.b false] h)
 (If (!l == #[].toList) (K .ret 153 [.b false] h)
 (If (ltI 0 j) (K .ret 153 [.b false] h)
 (If (!c) (K .ret 153 [.b true] h)
 (If a
 (If (d == #[].toList) (K .ret 153 [.b (e == #[].toList)] h)
 (K .ret 153 [.b false] h))
 (K .ret 153 [.b false] h)))))))
 (If (!c) (K .ret 153 [.b true] h)
 (If a
 (If (d == #[].toList) (K .ret 153 [.b (e == #[].toList)] h)
 (K .ret 153 [.b false] h))
 (K .ret 153 [.b false] h)))))
 (If a
 (If (f != (0 : Int)) (K .ret 153 [.b false] h)
 (If (g != (0 : Int)) (K .ret 153 [.b false] h)
 (If (!l == #[].toList) (K .ret 153 [.b false] h)
 (If (ltI 0 j) (K .ret 153 [.b false] h)
 (If (!c) (K .ret 153 [.b true] h)
 (If a
 (If (d == #[].toList) (K .ret 153 [.b (e == #[].toList)] h)
 (K .ret 153 [.b false] h))
 (K .ret 153 [.b false] h)))))))
 (If (!c) (K .ret 153 [.b true] h)
 (If a
 (If (d == #[].toList) (K .ret 153 [.b (e == #[].toList)] h)
 (K .ret 153 [.b false] h))
 (K .ret 153 [.b false] h))))) := by kernel_rfl
theorem Zwy (a c d : Bool) (e f : Int) (g : List UInt8) (j : List V) (l : Nat) (m : List UInt8) (n : List V) (o : Nat) (p q : List UInt8) (r t u : Bool) (w x : Int) (y : List UInt8) (z : List V) (A : Nat) (B : List UInt8) (C : List V) (D : Nat) (E F : List UInt8) (h : Heap) (K : KT) : (Zc UY (UY.loc 214) 100 ((flat (Za Tryz.f214))) ⟨(V.agg (vSD a c d e f g j l none m n o none p q) :: V.agg (vSD r t u w x y z A none B C D none E F) :: List.replicate 78 .undef), [], h⟩ (VQ [4] K)) =
 (If (a == r)
 (If (c == t)
 (If (d == u)
 (If (e == w)
 (If (f == x)
 (If (g == y)
 (If (m == B)
 (If (p == E)
 (If (q == F)
 (∃ (b : Bool),
 (PCon UY 237 [V.ts j l none, V.ts z A none] fun (v : V) =>
 v = V.b b) ∧
 If b
 (∃ (b : Bool),
 (PCon UY 238 [V.ts n o none, V.ts C D none] fun (v : V) =>
 v = V.b b) ∧
 K .ret 80 [.b b] h)
 (K .ret 80 [.b false] h))
 (K .ret 80 [.b false] h))
 (K .ret 80 [.b false] h))
 (K .ret 80 [.b false] h))
 (K .ret 80 [.b false] h))
 (K .ret 80 [.b false] h))
 (K .ret 80 [.b false] h))
 (K .ret 80 [.b false] h))
 (K .ret 80 [.b false] h))
 (K .ret 80 [.b false] h)) := by kernel_rfl
theorem Zwz (s0 : List UInt8) (h : Heap) (K : KT) : (Zc UY (UY.loc 108) 100 (pre (flat (Za Tryz.f108))) ⟨(V.s s0 :: List.replicate 16 .undef), [], h⟩ (VQ [0, 3] K)) =
 (K .normal 17 [.s s0, .i .i64 0] h) := by kernel_rfl
theorem Zw0 (s0 : List UInt8) (x3 : Int) (h : Heap) (K : KT) : (Zc UY (UY.loc 108) 100 ((flat (Zv (post (flat (Za Tryz.f108)))))) ⟨mk 17 (([0, 3] : List Nat).zip [V.s s0, V.i .i64 x3]), [], h⟩ (VQ [0, 2, 3] K)) =
 (If (ltI x3 (↑s0.length : Int))
 (∃ (c : UInt8),
 ((0 : Int) ≤ x3 ∧ s0[x3.toNat]? = some c) ∧
 If ((↑c.toNat : Int) == (10 : Int)) (K .ret 17 [.s s0, .b false, .i .i64 x3] h)
 (K .normal 17 [.s s0, .undef, .i .i64 (IntKind.i64.wrap (x3 + (1 : Int)))] h))
 (K (.exit 0) 17 [.s s0, .undef, .i .i64 x3] h)) := by kernel_rfl
theorem Zw1 (s0 : List UInt8) (h : Heap) (K : KT) : (Zc UY (UY.loc 108) 100 (((post (flat (Za Tryz.f108))).drop 1)) ⟨mk 17 (([0] : List Nat).zip [V.s s0]), [], h⟩ (VQ [2] K)) =
 (K .ret 17 [.b (leI (↑s0.length : Int) (16 : Int))] h) := by kernel_rfl
theorem Zw2 (e f g : Bool) (j l : Int) (m : List UInt8) (n : List V) (o : Nat) (a : List UInt8) (p : List V) (q : Nat) (c r : List UInt8) (d : Int) (t : List V) (u : Nat) (h : Heap) (K : KT) : (Zc UY (UY.loc 109) 100 ((flat (Za Tryz.f109))) ⟨(V.agg (vSD e f g j l m n o none a p q none c r) :: V.agg [V.i .i64 d, V.ts t u none] :: List.replicate 13 .undef), [], h⟩ (VQ [4] K)) =
 (K .ret 15
 [.i .i64 (IntKind.i64.wrap (IntKind.i64.wrap (d - (↑a.length : Int)) - (↑c.length : Int)))] h) := by kernel_rfl
theorem Zw3 (a c d : Bool) (e f : Int) (g : List UInt8) (B : List V) (j : Nat) (l : List UInt8) (C : List V) (m : Nat) (n o : List UInt8) (p q r : Bool) (t u : Int) (v : List UInt8) (D : List V) (w : Nat) (x : List UInt8) (E : List V) (y : Nat) (z A : List UInt8) (h : Heap) (K : KT) : (Zc UY (UY.loc 110) 100 (pre (flat (Za Tryz.f110))) ⟨(V.agg (vSD a c d e f g B j none l C m none n o) :: V.agg (vSD p q r t u v D w none x E y none z A) :: List.replicate 120 .undef), [], h⟩ (VQ [2, 3, 4, 5] K)) =
 (If (!a == p)
 (K .ret 122
 [.lb
 (vSD a c d e f g B j none l C m none n o),
 .lb
 (vSD p q r t u v D w none x E y none z A),
 .b false, .undef]
 h)
 (If (!c == q)
 (K .ret 122
 [.lb
 (vSD a c d e f g B j none l C m none n o),
 .lb
 (vSD p q r t u v D w none x E y none z A),
 .b false, .undef]
 h)
 (If (!d == r)
 (K .ret 122
 [.lb
 (vSD a c d e f g B j none l C m none n o),
 .lb
 (vSD p q r t u v D w none x E y none z A),
 .b false, .undef]
 h)
 (If (e != t)
 (K .ret 122
 [.lb
 (vSD a c d e f g B j none l C m none n o),
 .lb
 (vSD p q r t u v D w none x E y none z A),
 .b false, .undef]
 h)
 (If (f != u)
 (K .ret 122
 [.lb
 (vSD a c d e f g B j none l C m none n o),
 .lb
 (vSD p q r t u v D w none x E y none z A),
 .b false, .undef]
 h)
 (If (!g == v)
 (K .ret 122
 [.lb
 (vSD a c d e f g B j none l C m none n o),
 .lb
 (vSD p q r t u v D w none x E y none z A),
 .b false, .undef]
 h)
 (If (!l == x)
 (K .ret 122
 [.lb
 (vSD a c d e f g B j none l C m none n o),
 .lb
 (vSD p q r t u v D w none x E y none z A),
 .b false, .undef]
 h)
 (If (!n == z)
 (K .ret 122
 [.lb
 (vSD a c d e f g B j none l C m none n o),
 .lb
 (vSD p q r t u v D w none x E y none z A),
 .b false, .undef]
 h)
 (If (!o == A)
 (K .ret 122
 [.lb
 (vSD a c d e f g B j none l C m none n o),
 .lb
 (vSD p q r t u v D w none x E y none z A),
 .b false, .undef]
 h)
 (If ((↑j : Int) != (w : Int))
 (K .ret 122
 [.lb
 (vSD a c d e f g B j none l C m none n o),
 .lb
 (vSD p q r t u v D w none x E y none z A),
 .b false, .undef]
 h)
 (If ((↑m : Int) != (y : Int))
 (K .ret 122
 [.lb
 (vSD a c d e f g B j none l C m none n o),
 .lb
 (vSD p q r t u v D w none x E y none z A),
 .b false, .undef]
 h)
 (K .normal 122
 [.lb
 (vSD a c d e f g B j none l C m none n o),
 .lb
 (vSD p q r t u v D w none x E y none z A),
 .b false, .i .i64 0]
 h)))))))))))) := by kernel_rfl
theorem Zw4 (f g j : Bool) (l m : Int) (n : List UInt8) (c : List V) (a : Nat) (o : List UInt8) (p : List V) (q : Nat) (r t : List UInt8) (u v w : Bool) (x y : Int) (z : List UInt8) (d : List V) (e : Nat) (A : List UInt8) (B : List V) (C : Nat) (D E : List UInt8) (x5 : Int) (h : Heap) (K : KT) : (Zc UY (UY.loc 110) 100 ((flat (Zv (post (flat (Za Tryz.f110)))))) ⟨mk 122 (([2, 3, 5] : List Nat).zip [V.lb (vSD f g j l m n c a none o p q none r t), V.lb (vSD u v w x y z d e none A B C none D E), V.i .i64 x5]), [], h⟩ (VQ [2, 3, 4, 5] K)) =
 (If (ltI x5 a)
 ((0 ≤ x5 ∧ x5 < a) ∧
 ∃ (s : List UInt8),
 Zh 1 (List.drop (x5.toNat * 1) c) = some [V.s s] ∧
 (0 ≤ x5 ∧ x5 < e) ∧
 ∃ (s_1 : List UInt8),
 Zh 1 (List.drop (x5.toNat * 1) d) = some [V.s s_1] ∧
 If (!s == s_1)
 (K .ret 122
 [.lb
 (vSD f g j l m n c a none o p q none r t),
 .lb
 (vSD u v w x y z d e none A B C none D E),
 .b false, .i .i64 x5]
 h)
 (K .normal 122
 [.lb
 (vSD f g j l m n c a none o p q none r t),
 .lb
 (vSD u v w x y z d e none A B C none D E),
 .undef, .i .i64 (IntKind.i64.wrap (x5 + (1 : Int)))]
 h))
 (K (.exit 0) 122
 [.lb
 (vSD f g j l m n c a none o p q none r t),
 .lb
 (vSD u v w x y z d e none A B C none D E),
 .undef, .i .i64 x5]
 h)) := by kernel_rfl
theorem Zw5 (a c d : Bool) (e f : Int) (g : List V) (j : Nat) (l : List V) (m : Nat) (n o p : Bool) (q r : Int) (t : List V) (u : Nat) (v : List V) (w : Nat) (x y z A B C D E : List UInt8) (h : Heap) (K : KT) : (Zc UY (UY.loc 110) 100 (pre ((post (flat (Za Tryz.f110))).drop 1)) ⟨mk 122 (([2, 3] : List Nat).zip [V.lb (vSD a c d e f x g j none y l m none z A), V.lb (vSD n o p q r B t u none C v w none D E)]), [], h⟩ (VQ [2, 3, 6] K)) =
 (K .normal 122
 [.lb
 (vSD a c d e f x g j none y l m none z A),
 .lb
 (vSD n o p q r B t u none C v w none D E),
 .i .i64 0]
 h) := by kernel_rfl
theorem Zw6 (f g j : Bool) (l m : Int) (o : List V) (p : Nat) (c : List V) (a : Nat) (q r t : Bool) (u v : Int) (w : List V) (x : Nat) (d : List V) (e : Nat) (y z A B C D E F : List UInt8) (x6 : Int) (h : Heap) (K : KT) : (Zc UY (UY.loc 110) 100 ((flat (Zv (post ((post (flat (Za Tryz.f110))).drop 1))))) ⟨mk 122 (([2, 3, 6] : List Nat).zip [V.lb (vSD f g j l m y o p none z c a none A B), V.lb (vSD q r t u v C w x none D d e none E F), V.i .i64 x6]), [], h⟩ (VQ [2, 3, 4, 6] K)) =
 (If (ltI x6 a)
 ((0 ≤ x6 ∧ x6 < a) ∧
 ∃ (n : Int),
 Zh 1 (List.drop (x6.toNat * 1) c) = some [V.i .i64 n] ∧
 (0 ≤ x6 ∧ x6 < e) ∧
 ∃ (n_1 : Int),
 Zh 1 (List.drop (x6.toNat * 1) d) = some [V.i .i64 n_1] ∧
 If (n != n_1)
 (K .ret 122
 [.lb
 (vSD f g j l m y o p none z c a none A B),
 .lb
 (vSD q r t u v C w x none D d e none E F),
 .b false, .i .i64 x6]
 h)
 (K .normal 122
 [.lb
 (vSD f g j l m y o p none z c a none A B),
 .lb
 (vSD q r t u v C w x none D d e none E F),
 .undef, .i .i64 (IntKind.i64.wrap (x6 + (1 : Int)))]
 h))
 (K (.exit 2) 122
 [.lb
 (vSD f g j l m y o p none z c a none A B),
 .lb
 (vSD q r t u v C w x none D d e none E F),
 .undef, .i .i64 x6]
 h)) := by kernel_rfl
theorem Zw7 (h : Heap) (K : KT) : (Zc UY (UY.loc 110) 100 (((post ((post (flat (Za Tryz.f110))).drop 1)).drop 1)) ⟨mk 122 (([] : List Nat).zip []), [], h⟩ (VQ [4] K)) =
 (K .ret 122 [.b true] h) := by kernel_rfl
theorem Zw8 (a : List V) (n0 : Nat) (c : List V) (n1 : Nat) (h : Heap) (K : KT) : (Zc UY (UY.loc 237) 100 (pre (flat (Za Tryz.f237))) ⟨(V.ts a n0 none :: V.ts c n1 none :: List.replicate 24 .undef), [], h⟩ (VQ [0, 1, 4, 12, 13] K)) =
 (If ((↑n0 : Int) != (n1 : Int))
 (K .ret 26 [.ts a n0 none, .ts c n1 none, .b false, .undef, .undef] h)
 (K .normal 26
 [.ts a n0 none, .ts c n1 none, .b false, .i .i64 (n0 : Int), .i .i64 0] h)) := by kernel_rfl
theorem Zw9 (c : List V) (n0 : Nat) (d : List V) (n1 : Nat) (a : Int) (h : Heap) (K : KT) : (Zc UY (UY.loc 237) 100 ((flat (Zv (post (flat (Za Tryz.f237)))))) ⟨mk 26 (([0, 1, 12, 13] : List Nat).zip [V.ts c n0 none, V.ts d n1 none, V.i .i64 (n0 : Int), V.i .i64 a]), [], h⟩ (VQ [0, 1, 4, 12, 13] K)) =
 (If (ltI a n0)
 ((0 ≤ a ∧ a < n0) ∧
 ∃ (s : List UInt8),
 Zh 1 (List.drop (a.toNat * 1) c) = some [V.s s] ∧
 (0 ≤ a ∧ a < n1) ∧
 ∃ (s_1 : List UInt8),
 Zh 1 (List.drop (a.toNat * 1) d) = some [V.s s_1] ∧
 If (!s == s_1)
 (K .ret 26
 [.ts c n0 none, .ts d n1 none, .b false, .i .i64 (n0 : Int), .i .i64 a] h)
 (K .normal 26
 [.ts c n0 none, .ts d n1 none, .undef, .i .i64 (n0 : Int),
 .i .i64 (IntKind.i64.wrap (a + (1 : Int)))]
 h))
 (K (.exit 0) 26
 [.ts c n0 none, .ts d n1 none, .undef, .i .i64 (n0 : Int), .i .i64 a] h)) := by kernel_rfl
theorem Zxa (h : Heap) (K : KT) : (Zc UY (UY.loc 237) 100 (((post (flat (Za Tryz.f237))).drop 1)) ⟨mk 26 (([] : List Nat).zip []), [], h⟩ (VQ [4] K)) =
 (K .ret 26 [.b true] h) := by kernel_rfl
theorem Zxb (a : List V) (n0 : Nat) (c : List V) (n1 : Nat) (h : Heap) (K : KT) : (Zc UY (UY.loc 238) 100 (pre (flat (Za Tryz.f238))) ⟨(V.ts a n0 none :: V.ts c n1 none :: List.replicate 24 .undef), [], h⟩ (VQ [0, 1, 4, 12, 13] K)) =
 (If ((↑n0 : Int) != (n1 : Int))
 (K .ret 26 [.ts a n0 none, .ts c n1 none, .b false, .undef, .undef] h)
 (K .normal 26
 [.ts a n0 none, .ts c n1 none, .b false, .i .i64 (n0 : Int), .i .i64 0] h)) := by kernel_rfl
theorem Zxc (c : List V) (n0 : Nat) (d : List V) (n1 : Nat) (a : Int) (h : Heap) (K : KT) : (Zc UY (UY.loc 238) 100 ((flat (Zv (post (flat (Za Tryz.f238)))))) ⟨mk 26 (([0, 1, 12, 13] : List Nat).zip [V.ts c n0 none, V.ts d n1 none, V.i .i64 (n0 : Int), V.i .i64 a]), [], h⟩ (VQ [0, 1, 4, 12, 13] K)) =
 (If (ltI a n0)
 ((0 ≤ a ∧ a < n0) ∧
 ∃ (n : Int),
 Zh 1 (List.drop (a.toNat * 1) c) = some [V.i .i64 n] ∧
 (0 ≤ a ∧ a < n1) ∧
 ∃ (n_1 : Int),
 Zh 1 (List.drop (a.toNat * 1) d) = some [V.i .i64 n_1] ∧
 If (n != n_1)
 (K .ret 26
 [.ts c n0 none, .ts d n1 none, .b false, .i .i64 (n0 : Int), .i .i64 a] h)
 (K .normal 26
 [.ts c n0 none, .ts d n1 none, .undef, .i .i64 (n0 : Int),
 .i .i64 (IntKind.i64.wrap (a + (1 : Int)))]
 h))
 (K (.exit 0) 26
 [.ts c n0 none, .ts d n1 none, .undef, .i .i64 (n0 : Int), .i .i64 a] h)) := by kernel_rfl
theorem Zxd (h : Heap) (K : KT) : (Zc UY (UY.loc 238) 100 (((post (flat (Za Tryz.f238))).drop 1)) ⟨mk 26 (([] : List Nat).zip []), [], h⟩ (VQ [4] K)) =
 (K .ret 26 [.b true] h) := by kernel_rfl
theorem Zxe (s0 : List UInt8) (h : Heap) (K : KT) : (Zc UY (UY.loc 210) 100 ((flat (Za Tryz.f210))) ⟨(V.s s0 :: List.replicate 10 .undef), [], h⟩ (VQ [2] K)) =
 (If (leI (↑s0.length : Int) (16 : Int))
 (∃ (n : Int),
 (PCon UY 236 [V.s s0, V.i .u8 10] fun v => v = V.i .i64 n) ∧
 K .ret 11 [.b (ltI n 0)] h)
 (K .ret 11 [.b false] h)) := by kernel_rfl
theorem Zxf (s0 : List UInt8) (h : Heap) (K : KT) : (Zc UY (UY.loc 211) 100 ((flat (Za Tryz.f211))) ⟨(V.s s0 :: List.replicate 5 .undef), [], h⟩ (VQ [2] K)) =
 (∃ (b : Bool), (PCon UY 210 [V.s s0] fun v => v = V.b b) ∧ K .ret 6 [.b !b] h) := by kernel_rfl
theorem Zxg (e f g : Bool) (j l : Int) (m : List UInt8) (n : List V) (o : Nat) (c : List UInt8) (d : List V) (a : Nat) (p q : List UInt8) (h : Heap) (K : KT) : (Zc UY (UY.loc 212) 100 (pre (flat (Za Tryz.f212))) ⟨(V.agg (vSD e f g j l m n o none c d a none p q) :: List.replicate 36 .undef), [], h⟩ (VQ [1, 2, 5, 13, 14, 15] K)) =
 (If ((↑a : Int) != (↑c.length : Int))
 (K .ret 37
 [.lb
 (vSD e f g j l m n o none c d a none p q),
 .b false, .rf, .undef, .undef, .undef]
 h)
 (K .normal 37
 [.lb
 (vSD e f g j l m n o none c d a none p q),
 .b false, .rf, .ts d a none, .i .i64 (a : Int), .i .i64 0]
 h)) := by kernel_rfl
theorem Zxh (e f g : Bool) (j l : Int) (m : List UInt8) (o : List V) (p : Nat) (q : List UInt8) (c : List V) (a : Nat) (r t : List UInt8) (d : Int) (h : Heap) (K : KT) : (Zc UY (UY.loc 212) 100 ((flat (Zv (post (flat (Za Tryz.f212)))))) ⟨mk 37 (([1, 2, 5, 13, 14, 15] : List Nat).zip [V.lb (vSD e f g j l m o p none q c a none r t), V.b false, V.rf, V.ts c a none, V.i .i64 (a : Int), V.i .i64 d]), [], h⟩ (VQ [1, 2, 5, 13, 14, 15] K)) =
 (If (ltI d a)
 ((0 ≤ d ∧ d < a) ∧
 ∃ (n : Int),
 Zh 1 (List.drop (d.toNat * 1) c) = some [V.i .i64 n] ∧
 If (ltI n 0)
 (K .ret 37
 [.lb
 (vSD e f g j l m o p none q c a none r t),
 .b false, .rf, .ts c a none, .i .i64 (a : Int), .i .i64 d]
 h)
 (If (ltI 0 d)
 (((0 : Int) ≤ IntKind.i64.wrap (d - (1 : Int)) ∧ IntKind.i64.wrap (d - (1 : Int)) < (a : Int)) ∧
 ∃ (n_1 : Int),
 Zh 1 (List.drop ((IntKind.i64.wrap (d - (1 : Int))).toNat * 1) c) =
 some [V.i .i64 n_1] ∧
 If (ltI n_1 n)
 (K .ret 37
 [.lb
 (vSD e f g j l m o p none q c a none r t),
 .b false, .rf, .ts c a none, .i .i64 (a : Int), .i .i64 d]
 h)
 (K .normal 37
 [.lb
 (vSD e f g j l m o p none q c a none r t),
 .b false, .rf, .ts c a none, .i .i64 (a : Int),
 .i .i64 (IntKind.i64.wrap (d + (1 : Int)))]
 h))
 (K .normal 37
 [.lb
 (vSD e f g j l m o p none q c a none r t),
 .b false, .rf, .ts c a none, .i .i64 (a : Int),
 .i .i64 (IntKind.i64.wrap (d + (1 : Int)))]
 h)))
 (K (.exit 0) 37
 [.lb
 (vSD e f g j l m o p none q c a none r t),
 .b false, .rf, .ts c a none, .i .i64 (a : Int), .i .i64 d]
 h)) := by kernel_rfl
theorem Zxi (h : Heap) (K : KT) : (Zc UY (UY.loc 212) 100 (((post (flat (Za Tryz.f212))).drop 1)) ⟨mk 37 (([] : List Nat).zip []), [], h⟩ (VQ [2] K)) =
 (K .ret 37 [.b true] h) := by kernel_rfl
theorem Zxj (e f g : Bool) (j l : Int) (m : List UInt8) (n : List V) (o : Nat) (a : List UInt8) (p : List V) (q : Nat) (c r : List UInt8) (d : Int) (t : List V) (u : Nat) (h : Heap) (K : KT) : (Zc UY (UY.loc 213) 100 ((flat (Za Tryz.f213))) ⟨(V.agg (vSD e f g j l m n o none a p q none c r) :: V.agg [V.i .i64 d, V.ts t u none] :: List.replicate 13 .undef), [], h⟩ (VQ [4] K)) =
 (K .ret 15
 [.i .i64 (IntKind.i64.wrap (IntKind.i64.wrap (d - (↑a.length : Int)) - (↑c.length : Int)))] h) := by kernel_rfl
theorem Zs9 (a : List V) (n0 : Nat) (h : Heap) (K : KT) : (Zc UY (UY.loc 173) 100 ((flat (Za Tryz.f173))) ⟨(V.ts a n0 none :: V.fn (Fn.func 211) [] [] :: List.replicate 7 .undef), [], h⟩ (VQ [4] K)) =
 (Con UY 216 [V.ts a n0 none, V.fn (Fn.func 211) [] []] h fun (v : V) (h' : Heap) =>
 ∃ (n : Int), v = V.i .i64 n ∧ K .ret 9 [.b (leI 0 n)] h') := by kernel_rfl
theorem Zta (a : List V) (n0 : Nat) (h : Heap) (K : KT) : (Zc UY (UY.loc 216) 100 (pre (flat (Za Tryz.f216))) ⟨(V.ts a n0 none :: V.fn (Fn.func 211) [] [] :: List.replicate 17 .undef), [], h⟩ (VQ [0, 1, 7, 8] K)) =
 (K .normal 19
 [.ts a n0 none, .fn (Fn.func 211) [] [], .i .i64 (n0 : Int), .i .i64 0] h) := by kernel_rfl
theorem Ztb (a : List V) (n0 : Nat) (x8 : Int) (h : Heap) (K : KT) : (Zc UY (UY.loc 216) 100 ((flat (Zv (post (flat (Za Tryz.f216)))))) ⟨mk 19 (([0, 1, 7, 8] : List Nat).zip [V.ts a n0 none, V.fn (Fn.func 211) [] [], V.i .i64 (n0 : Int), V.i .i64 x8]), [], h⟩ (VQ [0, 1, 4, 7, 8] K)) =
 (If (ltI x8 n0)
 ((0 ≤ x8 ∧ x8 < n0) ∧
 ∃ (s : List UInt8),
 Zh 1 (List.drop (x8.toNat * 1) a) = some [V.s s] ∧
 ∃ (b : Bool),
 (PCon UY 211 [V.s s] fun v => v = V.b b) ∧
 If b
 (K .ret 19
 [.ts a n0 none, .fn (Fn.func 211) [] [], .i .i64 x8, .i .i64 (n0 : Int),
 .i .i64 x8]
 h)
 (K .normal 19
 [.ts a n0 none, .fn (Fn.func 211) [] [], .undef, .i .i64 (n0 : Int),
 .i .i64 (IntKind.i64.wrap (x8 + (1 : Int)))]
 h))
 (K (.exit 0) 19
 [.ts a n0 none, .fn (Fn.func 211) [] [], .undef, .i .i64 (n0 : Int), .i .i64 x8] h)) := by kernel_rfl
theorem Ztc (h : Heap) (K : KT) : (Zc UY (UY.loc 216) 100 (((post (flat (Za Tryz.f216))).drop 1)) ⟨mk 19 (([] : List Nat).zip []), [], h⟩ (VQ [4] K)) =
 (K .ret 19 [.i .i64 (-1)] h) := by kernel_rfl
theorem Zxk (s0 : List UInt8) (x1 : Int) (h : Heap) (K : KT) : (Zc UY (UY.loc 236) 100 ((flat (Za Tryz.f236))) ⟨(V.s s0 :: V.i IntKind.u8 x1 :: List.replicate 6 .undef), [], h⟩ (VQ [4] K)) =
 (∃ (n : Int),
 (PCon UY (262 : Nat) [V.s s0, V.i IntKind.u8 x1] fun (v : V) => v = V.i IntKind.i64 n) ∧
  K Out.ret 8 [V.i IntKind.i64 n] h) := by kernel_rfl

theorem Zxl (s0 : List UInt8) (x1 : Int) (h : Heap) (K : KT) : (Zc UY (UY.loc 262) 100 ((flat (Za Tryz.f262))) ⟨(V.s s0 :: V.i IntKind.u8 x1 :: List.replicate 6 .undef), [], h⟩ (VQ [4] K)) =
 (K Out.ret 8 [V.i IntKind.i64 (Qe s0 x1.toNat.toUInt8 (0 : Nat))] h) := by kernel_rfl

theorem Zgr (l : List UInt8) (c : UInt8) : ∀ k : Nat, leI 0 (Qe l c k) = l.contains c := by
 induction l with
 | nil => intro k; rfl
 | cons b l ih =>
  intro k
  unfold Qe
  by_cases h : (b == c) = true
  ·have : c = b := by simp at h; exact h.symm
   rw [if_pos h]; simp [leI, this]
  ·have h2 : ¬ c = b := fun e => h (by simp [e])
   rw [if_neg h, ih, List.contains_cons]
   simp [h2]

theorem Znq (s : List UInt8) (c : Int) : PCon UY 236 [.s s, .i .u8 c] (· = .i .i64 (Qe s c.toNat.toUInt8 0)) := by
 refine Zt UK (fn := Tryz.f236) (by kernel_rfl) (by kernel_rfl) rfl (Zm UK (loc := UY.loc 236) 100 [4] ?_)
 refine Eq.mpr (Zxk s c _ _) ?_
 refine ⟨_, ?_, Zs (.inr rfl) rfl (.i _ _) rfl⟩
 refine Zt UK (fn := Tryz.f262) (by kernel_rfl) (by kernel_rfl) rfl (Zm UK (loc := UY.loc 262) 100 [4] ?_)
 exact Eq.mpr (Zxl s c _ _) (Zs (.inr rfl) rfl (.i _ _) rfl)
theorem Zjs {Y : YP} (hY : YOK Y) {f : FuncId} {fn : Func} (hf : Y.P.funcs[f]? = some fn) (hb : fn.body.isSome = true) {args : List V} (hc : ZJ args = true) {P : V → Prop} {slots : List Nat} {env' : List V} {m : Nat} {vs : List V}
  (tree : ∀ K, Zc Y (Y.loc f) 100 (flat (Za fn)) ⟨env', [], .empty⟩ (VQ slots K) = K .ret m vs .empty) (he : args ++ List.replicate (fn.ntmps - args.length) .undef = env')
  (hfin : Fin Y fn slots (fun v h => ∃ r, Frz h v r ∧ P r) .ret m vs .empty) : PCon Y f args P := by
 refine Zt hY hf hb hc ?_
 rw [he]
 refine Zm hY (loc := Y.loc f) 100 slots ?_
 rw [tree]
 exact hfin

/-! ### Arrive -/
def XM : Side := ⟨false, false, false, 0, 0, [], [], [], [], [], []⟩
def ZBx (s : Side) : Side × Int := match s.fly, s.ages with
 | b :: f, _ :: ag => ({ s with ready := s.ready ++ [b], fly := f, ages := ag }, 0)
 | _, _ => (XM, 10)

/-! ### Room -/
def Jn (s : Side) (cap : Int) : Int := IntKind.i64.wrap (IntKind.i64.wrap (cap - s.fly.length) - s.ready.length)
theorem Zbc (s : Side) (cap : Int) (cs : List V) (n : Nat) : PCon UY 213 [.agg (Zn s), .agg [.i .i64 cap, .ts cs n none]] (· = .i .i64 (Jn s cap)) :=
 Zjs UK (fn := Tryz.f213) (by kernel_rfl) (by kernel_rfl) rfl (fun K => Zxj s.on s.shut s.eof s.place s.clock s.typed (row encT s.lines) s.lines.length s.fly (row encI s.ages) s.ages.length s.ready s.buffer cap cs n .empty K) rfl
  (Zs (.inr rfl) rfl (.i _ _) rfl)
theorem Zb9 (s : Side) (cap : Int) (cs : List V) (n : Nat) : PCon UY 109 [.agg (Zn s), .agg [.i .i64 cap, .ts cs n none]] (· = .i .i64 (Jn s cap)) :=
 Zjs UK (fn := Tryz.f109) (by kernel_rfl) (by kernel_rfl) rfl (fun K => Zw2 s.on s.shut s.eof s.place s.clock s.typed (row encT s.lines) s.lines.length s.fly (row encI s.ages) s.ages.length s.ready s.buffer cap cs n .empty K) rfl
  (Zs (.inr rfl) rfl (.i _ _) rfl)

/-! ### Write -/
def Zr6 (s : Side) (cap : Int) (t : List UInt8) : Side × Bool := if Jn s cap < (t.length : Nat) then (s, false) else ({ s with fly := s.fly ++ t, ages := s.ages ++ List.replicate t.length 0 }, true)

/-! ### lines -/
def XU (s : List UInt8) : Bool := decide (s.length ≤ 16) && !s.contains 10
theorem Ze5 (s : List UInt8) : PCon UY 210 [.s s] (· = .b (XU s)) := by
 refine Zt UK (fn := Tryz.f210) (by kernel_rfl) (by kernel_rfl) rfl (Zm UK (loc := UY.loc 210) 100 [2] ?_)
 refine Eq.mpr (Zxe s _ _) ?_
 refine Qz (fun hle => ⟨_, Znq s 10, Zs (.inr rfl) rfl (.b _) ?_⟩) (fun hgt => Zs (.inr rfl) rfl (.b _) ?_)
 ·have := Zgr s 10 0
  have h16 : s.length ≤ 16 := by omega
  have hc : (10 : Int).toNat.toUInt8 = (10 : UInt8) := rfl
  rw [hc]
  unfold XU
  rw [← this, show decide (s.length ≤ 16) = true by simp [h16], Bool.true_and]
  simp only [ltI, leI]
  by_cases hx : Qe s 10 0 < 0
  ·have : ¬ 0 ≤ Qe s 10 0 := by omega
   simp [hx, this]
  ·have : 0 ≤ Qe s 10 0 := by omega
   simp [hx, this]
 ·have h16 : ¬ s.length ≤ 16 := by omega
  simp [XU, h16]
theorem Zca (s : List UInt8) : PCon UY 211 [.s s] (· = .b (!XU s)) := by
 refine Zt UK (fn := Tryz.f211) (by kernel_rfl) (by kernel_rfl) rfl (Zm UK (loc := UY.loc 211) 100 [2] ?_)
 exact Eq.mpr (Zxf s _ _) ⟨_, Ze5 s, Zs (.inr rfl) rfl (.b _) rfl⟩

theorem Ztd  (l : List (List UInt8)) (p : (List UInt8) → Bool) (h : Heap) (hl : l.length < 2 ^ 30) (hp : ∀ x ∈ l, PCon UY 211 (encT x) (· = .b (p x))) :
  Con UY 216 [lst encT l, .fn (.func 211) [] []] h fun v h' => ∃ n : Int, v = .i .i64 n ∧ leI 0 n = l.any p ∧ h' = h := by
 refine ZL UK (fn := Tryz.f216) (by kernel_rfl) (by kernel_rfl) ?_
 refine ZH UK (n := 19) (loc := UY.loc 216) 100 [0, 1, 7, 8] (by kernel_rfl) ?_
 refine Eq.mpr (Zta (row encT l) l.length  h _) ?_
 refine ⟨rfl, ZK [0, 1, 7, 8] [0, 1, 4, 7, 8] rfl (by kernel_rfl) (fun m vs h' => ∃ i : Nat, vs = [lst encT l, .fn (.func 211) [] [], .i .i64 l.length, .i .i64 (i : Nat)] ∧ i ≤ l.length ∧ (l.take i).any p = false ∧ m = l.length - i ∧ h' = h) l.length Zu ⟨0, rfl, by omega, rfl, by omega, rfl⟩ ?_⟩
 rintro m vs h' ⟨i, rfl, hi, hno, rfl, rfl⟩
 refine ZI UK (loc := UY.loc 216) 100 [0, 1, 4, 7, 8] ?_
 refine Eq.mpr (Ztb (row encT l) l.length  (i : Nat) h' _) ?_
 refine Zg (fun hlt => ?_) (fun hge => ?_)
 ·have hget : Zh 1 (List.drop ((i : Int).toNat * 1) (row encT l)) = some (encT l[i]) := by rw [Int.toNat_natCast]; exact Zr (f := encT) (k := 1) (fun _ => rfl) hlt
  refine ⟨bnd_nat hlt, _, hget, p l[i], hp l[i] (List.getElem_mem hlt), Zd (fun hc => ?_) (fun hc => ?_)⟩
  ·refine Zl (.inr rfl) rfl (.now ⟨(i : Nat), rfl, ?_, rfl⟩)
   have : l.any p = true := List.any_eq_true.2 ⟨l[i], List.getElem_mem hlt, hc⟩
   rw [this]; simp [leI]
  ·refine ⟨rfl, l.length - (i + 1), by omega, i + 1, ?_, by omega, ?_, rfl, rfl⟩
   ·rw [Zf (by omega)]; rfl
   ·rw [List.take_succ_eq_append_getElem hlt, List.any_append, hno]; simp [hc]
 ·refine Ze [] (by kernel_rfl) rfl rfl ?_
  refine Zm UK (loc := UY.loc 216) 100 [4] ?_
  refine Eq.mpr (Ztc h' _) ?_
  rw [List.take_of_length_le hge] at hno
  exact finC (.inr rfl) rfl (.now ⟨-1, rfl, by rw [hno]; rfl, rfl⟩)

theorem Zdn  (l : List (List UInt8)) (p : (List UInt8) → Bool) (h : Heap) (hl : l.length < 2 ^ 30) (hp : ∀ x ∈ l, PCon UY 211 (encT x) (· = .b (p x))) :
  Con UY 173 [lst encT l, .fn (.func 211) [] []] h fun v h' => v = .b (l.any p) ∧ h' = h := by
 refine ZL UK (fn := Tryz.f173) (by kernel_rfl) (by kernel_rfl) (Zm UK (loc := UY.loc 173) 100 [4] ?_)
 refine Eq.mpr (Zs9 (row encT l) l.length  h _) ?_
 refine (Ztd  l p h hl hp).mono fun v h' ⟨n, e1, e2, e3⟩ => ⟨n, e1, ?_⟩
 subst e3
 rw [e2]
 exact finC (.inr rfl) rfl (.now ⟨rfl, rfl⟩)
def Jc (l : List Int) (j : Nat) : Bool := match l[j]? with
 | none => true
 | some a => decide (0 ≤ a) && match j with
  | 0 => true
  | k + 1 => match l[k]? with
   | none => true
   | some b => decide (a ≤ b)
def Ze6 (l : List Int) : Bool := (List.range l.length).all (Jc l)
def QW (s : Side) : Bool := decide (s.ages.length = s.fly.length) && Ze6 s.ages

theorem Zig {l : List Int} {i : Nat} (hi : i < l.length) (h : Jc l i = false) : Ze6 l = false := by
 unfold Ze6
 rw [List.all_eq_false]
 exact ⟨i, List.mem_range.2 hi, by simp [h]⟩
def Zxm (s : Side) (m : Nat) (vs : List V) (_ : Heap) : Prop :=
 ∃ i : Nat, vs = [.lb (Zn s), .b false, .rf, lst encI s.ages, .i .i64 s.ages.length, .i .i64 (i : Nat)] ∧ i ≤ s.ages.length ∧ m = s.ages.length - i ∧ (List.range i).all (Jc s.ages) = true

theorem Zjt (s : Side) (hl : s.ages.length < 2 ^ 30) : PCon UY 212 [.agg (Zn s)] (· = .b (QW s)) := by
 refine Zt UK (fn := Tryz.f212) (by kernel_rfl) (by kernel_rfl) rfl ?_
 refine Zp UK 37 (fun K => Zxg s.on s.shut s.eof s.place s.clock s.typed (row encT s.lines) s.lines.length s.fly (row encI s.ages) s.ages.length s.ready s.buffer .empty K) rfl (by kernel_rfl) ?_
 refine Zd (fun hne => ?_) (fun heq => ?_)
 ·have : ¬ s.ages.length = s.fly.length := fun e => by simp [e] at hne
  exact Zl (.inr rfl) rfl ⟨_, .b _, by simp [QW, this]⟩
 have hlen : s.ages.length = s.fly.length := by simp at heq; omega
 refine ⟨rfl, ZK [1, 2, 5, 13, 14, 15] [1, 2, 5, 13, 14, 15] rfl (by kernel_rfl) (Zxm s) s.ages.length Zu ⟨0, rfl, by omega, by omega, rfl⟩ ?_⟩
 rintro m vs h ⟨i, rfl, hi, rfl, hok⟩
 refine Zq UK (fun K => Zxh s.on s.shut s.eof s.place s.clock s.typed (row encT s.lines) s.lines.length s.fly (row encI s.ages) s.ages.length s.ready s.buffer (i : Nat) h K) rfl ?_
 have no : i < s.ages.length → Jc s.ages i = false → ∃ r, Frz h (.b false) r ∧ r = .b (QW s) := fun hlt ho => ⟨_, .b _, by simp [QW, Zig hlt ho]⟩
 refine Zg (fun hlt => ?_) (fun hge => ?_)
 ·have hge : s.ages[i]? = some s.ages[i] := List.getElem?_eq_getElem hlt
  have next : Jc s.ages i = true → _ ∧ _ := fun ho => (⟨(rfl : (37 : Nat) = 37), (⟨s.ages.length - (i + 1), by omega, i + 1, by rw [Zf (by omega)], by omega, rfl, Xj hok ho⟩ : ∃ m', m' < s.ages.length - i ∧ Zxm s m' [.lb (Zn s), .b false, .rf, lst encI s.ages, .i .i64 s.ages.length, .i .i64 (IntKind.i64.wrap ((i : Nat) + 1))] h)⟩)
  refine ⟨bnd_nat hlt, s.ages[i], by rw [Int.toNat_natCast]; exact Zr (f := encI) (k := 1) ZV hlt, Zw (fun hneg => ?_) (fun hnn => Zw (fun hpos => ?_) (fun hz => ?_))⟩
  ·exact Zl (.inr rfl) rfl (no hlt (by unfold Jc; rw [hge]; simp; omega))
  ·obtain ⟨k, rfl⟩ : ∃ k, i = k + 1 := ⟨i - 1, by omega⟩
   have hw : IntKind.i64.wrap (((k + 1 : Nat) : Int) - 1) = (k : Nat) := by rw [Xu (by omega) (by omega)]; omega
   have hlt' : k < s.ages.length := by omega
   have hgk : s.ages[k]? = some s.ages[k] := List.getElem?_eq_getElem hlt'
   rw [hw]
   refine ⟨bnd_nat hlt', s.ages[k], by rw [Int.toNat_natCast]; exact Zr (f := encI) (k := 1) ZV hlt', Zw (fun hgt => ?_) (fun hle => ?_)⟩
   ·exact Zl (.inr rfl) rfl (no hlt (by unfold Jc; rw [hge]; simp [hgk]; omega))
   ·exact next (by unfold Jc; rw [hge]; simp [hgk]; omega)
  ·have : i = 0 := by omega
   subst this
   exact next (by unfold Jc; rw [hge]; simp; omega)
 ·refine Ze [] (by kernel_rfl) rfl rfl ?_
  refine ZB UK (fun K => Zxi h K) rfl ?_
  have : i = s.ages.length := by omega
  subst this
  exact Zs (.inr rfl) rfl (.b _) (by unfold QW Ze6; rw [hok]; simp [hlen])

def Xk (s : Side) (np : Nat) (cap : Int) (pm : Bool) : Bool :=
 pm && decide (0 ≤ s.place) && decide (s.place < np) && decide (0 ≤ s.clock) && XU s.typed && decide (s.lines.length ≤ 2) && s.lines.all XU && QW s && decide (0 ≤ Jn s cap) && decide (s.buffer.length ≤ 64) &&
  (!s.shut || decide (s.place = 0 ∧ s.clock = 0 ∧ s.typed = [] ∧ s.lines = [])) && (!s.eof || s.shut && decide (s.fly = [] ∧ s.ready = []))

theorem Znr (l : List (List UInt8)) : (l.any fun x => !XU x) = !l.all XU := by
 induction l with
 | nil => rfl
 | cons x l ih => rw [List.any_cons, List.all_cons, ih]; cases XU x <;> simp

theorem Zte (s : Side) (cap : Int) (cs : List V) (np : Nat) (pm : Bool) (hp : PCon UY 170 [.agg [.i .i64 cap, .ts cs np none]] (· = .b pm)) (hl : s.ages.length < 2 ^ 30) (hon : s.on = true) (hll : s.lines.length < 2 ^ 30) :
    PCon UY 171 [.agg (Zn s), .agg [.i .i64 cap, .ts cs np none]] (· = .b (Xk s np cap pm)) := by
  refine Zt UK (fn := Tryz.f171) (by kernel_rfl) (by kernel_rfl) rfl (Zm UK (loc := UY.loc 171) 100 [4] ?_)
  refine Eq.mpr (Zr5 s.on s.shut s.eof s.place s.clock s.typed (row encT s.lines) s.lines.length s.fly (row encI s.ages) s.ages.length s.ready s.buffer cap cs np .empty _) ?_
  have fin : ∀ (b : Bool) (h : Heap), b = Xk s np cap pm → Fin UY Tryz.f171 [4] (fun v h => ∃ r, Frz h v r ∧ r = .b (Xk s np cap pm)) .ret 107 [.b b] h := fun b h e => Zs (.inr rfl) rfl (.b _) (by rw [e])
  refine ⟨pm, hp, Zd (fun h1 => fin _ _ (by simp at h1; simp [Xk, h1])) (fun h1 => ?_)⟩
  have h1 : pm = true := by simpa using h1
  refine Zw (fun h2 => fin _ _ (by have : ¬ 0 ≤ s.place := by omega
                                   simp [Xk, this])) (fun h2 => ?_)
  refine Qz (fun h3 => fin _ _ (by have : ¬ s.place < np := by omega
                                   simp [Xk, this])) (fun h3 => ?_)
  refine Zw (fun h4 => fin _ _ (by have : ¬ 0 ≤ s.clock := by omega
                                   simp [Xk, this])) (fun h4 => ?_)
  refine ⟨_, Ze5 s.typed, Zd (fun h5 => fin _ _ (by simp at h5; simp [Xk, h5])) (fun h5 => ?_)⟩
  have h5 : XU s.typed = true := by simpa using h5
  refine Zw (fun h6 => fin _ _ (by have : ¬ s.lines.length ≤ 2 := by omega
                                   simp [Xk, this])) (fun h6 => ?_)
  refine (Zdn s.lines (fun x => !XU x) .empty hll (fun x _ => Zca x)).mono fun v h' ⟨e1, e2⟩ => ⟨_, e1, ?_⟩
  rw [Znr]
  refine Zd (fun h7 => fin _ _ (by have : s.lines.all XU = false := by simpa using h7
                                   simp only [Xk, this, Bool.and_false, Bool.false_and])) (fun h7 => ?_)
  have h7 : s.lines.all XU = true := by simpa using h7
  refine ⟨_, Zjt s hl, Zd (fun h8 => fin _ _ (by simp at h8; simp [Xk, h8])) (fun h8 => ?_)⟩
  have h8 : QW s = true := by simpa using h8
  refine ⟨_, Zbc s cap cs np, Zw (fun h9 => fin _ _ (by have : ¬ 0 ≤ Jn s cap := by omega
                                                        simp [Xk, this])) (fun h9 => ?_)⟩
  refine Zw (fun h10 => fin _ _ (by have : ¬ s.buffer.length ≤ 64 := by omega
                                    simp [Xk, this])) (fun h10 => ?_)
  have e : Xk s np cap pm = ((!s.shut || decide (s.place = 0 ∧ s.clock = 0 ∧ s.typed = [] ∧ s.lines = [])) && (!s.eof || s.shut && decide (s.fly = [] ∧ s.ready = []))) := by
    have g2 : 0 ≤ s.place := by omega
    have g3 : s.place < np := by omega
    have g4 : 0 ≤ s.clock := by omega
    have g6 : s.lines.length ≤ 2 := by omega
    have g9 : 0 ≤ Jn s cap := by omega
    have g10 : s.buffer.length ≤ 64 := by omega
    simp only [Xk, h1, h5, h7, h8, g2, g3, g4, g6, g9, g10, decide_true, Bool.true_and]
  rw [e] at fin ⊢
  refine Zd (fun hoff => by rw [hon] at hoff; cases hoff) (fun _ => ?_)
  have rest : (!s.shut || decide (s.place = 0 ∧ s.clock = 0 ∧ s.typed = [] ∧ s.lines = [])) = true → ∀ h, If (!s.eof) (Fin UY Tryz.f171 [4] (fun v h => ∃ r, Frz h v r ∧ r = .b ((!s.shut || decide (s.place = 0 ∧ s.clock = 0 ∧ s.typed = [] ∧ s.lines = [])) && (!s.eof || s.shut && decide (s.fly = [] ∧ s.ready = [])))) .ret 107 [.b true] h)
      (If s.shut (If (s.fly == []) (Fin UY Tryz.f171 [4] (fun v h => ∃ r, Frz h v r ∧ r = .b ((!s.shut || decide (s.place = 0 ∧ s.clock = 0 ∧ s.typed = [] ∧ s.lines = [])) && (!s.eof || s.shut && decide (s.fly = [] ∧ s.ready = [])))) .ret 107 [.b (s.ready == [])] h)
        (Fin UY Tryz.f171 [4] (fun v h => ∃ r, Frz h v r ∧ r = .b ((!s.shut || decide (s.place = 0 ∧ s.clock = 0 ∧ s.typed = [] ∧ s.lines = [])) && (!s.eof || s.shut && decide (s.fly = [] ∧ s.ready = [])))) .ret 107 [.b false] h))
        (Fin UY Tryz.f171 [4] (fun v h => ∃ r, Frz h v r ∧ r = .b ((!s.shut || decide (s.place = 0 ∧ s.clock = 0 ∧ s.typed = [] ∧ s.lines = [])) && (!s.eof || s.shut && decide (s.fly = [] ∧ s.ready = [])))) .ret 107 [.b false] h)) := by
    intro hs h
    rw [hs] at fin ⊢
    refine Zd (fun h11 => fin _ _ (by simp at h11; simp [h11])) (fun h11 => ?_)
    have h11 : s.eof = true := by simpa using h11
    refine Zd (fun h12 => Zd (fun h13 => fin _ _ ?_) (fun h13 => fin _ _ ?_)) (fun h12 => fin _ _ ?_)
    · have h13 : s.fly = [] := by simpa using h13
      rw [h11, h12]
      by_cases hr : s.ready = [] <;> simp [h13, hr]
    · have h13 : s.fly ≠ [] := by simpa using h13
      simp [h11, h12, h13]
    · simp [h11, h12]
  refine Zd (fun hsh => ?_) (fun hsh => rest (by rw [hsh]; rfl) _)
  have h14 : (s.place = 0 ∧ s.clock = 0 ∧ s.typed = [] ∧ s.lines = []) → (!s.shut || decide (s.place = 0 ∧ s.clock = 0 ∧ s.typed = [] ∧ s.lines = [])) = true := fun hh => by simp [hh]
  have h15 : ¬ (s.place = 0 ∧ s.clock = 0 ∧ s.typed = [] ∧ s.lines = []) → false = ((!s.shut || decide (s.place = 0 ∧ s.clock = 0 ∧ s.typed = [] ∧ s.lines = [])) && (!s.eof || s.shut && decide (s.fly = [] ∧ s.ready = []))) := fun hh => by rw [decide_eq_false hh, hsh]; rfl
  refine Zd (fun g => fin _ _ (h15 fun hh => by simp [hh.1] at g)) (fun g1 => Zd (fun g => fin _ _ (h15 fun hh => by simp [hh.2.1] at g)) (fun g2 => Zd (fun g => fin _ _ (h15 fun hh => by simp [hh.2.2.1] at g)) (fun g3 => Zw (fun g => fin _ _ (h15 fun hh => by simp [hh.2.2.2] at g)) (fun g4 => rest (h14 ⟨?_, ?_, ?_, ?_⟩) _))))
  · simpa using g1
  · simpa using g2
  · simpa using g3
  · exact List.eq_nil_of_length_eq_zero (by omega)
end Go.Y
