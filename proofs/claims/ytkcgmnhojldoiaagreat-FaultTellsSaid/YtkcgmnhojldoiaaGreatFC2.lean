/- The instruction, by contracts. -/
import Derived.Test.YtkcgmnhojldoiaaGreatGAct2
import Derived.Test.YtkcgmnhojldoiaaGreatFT2
import Derived.Test.YtkcgmnhojldoiaaGreatGGreedy
import Derived.Test.YtkcgmnhojldoiaaGreatYTryzP
import Derived.Test.YtkcgmnhojldoiaaGreatYLoop
namespace Go.Y
open Go.Proofs
set_option maxRecDepth 1000000
set_option maxHeartbeats 0
theorem Zbe (h : Heap) : Frz h (.agg [.i .i64 0, .i .i64 0, .s [], .i .i64 0, .sl none 0 (some 0) 0, .i .i64 0, .i .i64 0, .s [], .s [], .sl none 0 (some 0) 0, .sl none 0 (some 0) 0]) (.agg (ZC ins0)) :=
 .agg _ _ (.cons _ _ _ _ (.i _ _) (.cons _ _ _ _ (.i _ _) (.cons _ _ _ _ (.s _) (.cons _ _ _ _ (.i _ _) (.cons _ _ _ _ (Zif h) (.cons _ _ _ _ (.i _ _) (.cons _ _ _ _ (.i _ _) (.cons _ _ _ _ (.s _) (.cons _ _ _ _ (.s _) (.cons _ _ _ _ (Zif h) (.cons _ _ _ _ (Zif h) .nil)))))))))))
theorem Zn6 (h : Heap) (x : Ins) : Frz h (.agg (ZC x)) (.agg (ZC x)) :=
 .agg _ _ (.cons _ _ _ _ (.i _ _) (.cons _ _ _ _ (.i _ _) (.cons _ _ _ _ (.s _) (.cons _ _ _ _ (.i _ _) (.cons _ _ _ _ (Qx _ _ _ _) (.cons _ _ _ _ (.i _ _) (.cons _ _ _ _ (.i _ _) (.cons _ _ _ _ (.s _) (.cons _ _ _ _ (.s _) (.cons _ _ _ _ (Qx _ _ _ _) (.cons _ _ _ _ (Qx _ _ _ _) .nil)))))))))))

theorem Zio (m : Mdl) (c : Cfg) : PCon UY 63 [.agg (mdlC m), .agg (cfgC c)] (· = .agg (ZC (XE m c))) := by
 refine Zz UK (fn := Tryz.f63) (by kernel_rfl) (by kernel_rfl) rfl (fun K => ZCd (row ZC m.ins) m.ins.length (row ZD m.ws) m.ws.length (row ZF m.ps) m.ps.length m.lat m.mat c.pc (row ZE c.vars) c.vars.length c.c0 c.c1 c.c2 c.c3 c.c4 c.c5 c.c6 c.c7 c.c8 c.c9 (row encI c.stack) c.stack.length c.mode c.err c.use c.tmo c.ela (row encI c.before) c.before.length (row encI c.after) c.after.length (row Zn c.sides) c.sides.length .empty K) rfl ?_
 refine Zw (fun h => Zs (.inr rfl) rfl (Zbe _) (by simp only [XE]; rw [if_pos h])) (fun h => Qz (fun g => Zs (.inr rfl) rfl (Zbe _) ?_) (fun g => ?_))
 ·simp only [XE]; rw [if_neg (by omega), List.getElem?_eq_none (by omega)]; rfl
 ·have hlt : c.pc.toNat < m.ins.length := by omega
  have e : XE m c = m.ins[c.pc.toNat] := by simp only [XE]; rw [if_neg (by omega), List.getElem?_eq_getElem hlt]; rfl
  exact ⟨⟨h, g⟩, _, _, _, _, _, _, _, _, _, _, _, _, _, _, _, _, _, Zr (f := ZC) (k := 11) Zb8 hlt, Zs (.inr rfl) rfl (Zn6 _ _) (by rw [e])⟩

theorem Zn7 (m : Mdl) (c : Cfg) : PCon UY 88 [.agg (mdlC m), .agg (cfgC c)] (· = .agg (ZC (XE m c))) := by
 refine Zz UK (fn := Tryz.f88) (by kernel_rfl) (by kernel_rfl) rfl (fun K => ZCe (row ZC m.ins) m.ins.length (row ZD m.ws) m.ws.length (row ZF m.ps) m.ps.length m.lat m.mat c.pc (row ZE c.vars) c.vars.length c.c0 c.c1 c.c2 c.c3 c.c4 c.c5 c.c6 c.c7 c.c8 c.c9 (row encI c.stack) c.stack.length c.mode c.err c.use c.tmo c.ela (row encI c.before) c.before.length (row encI c.after) c.after.length (row Zn c.sides) c.sides.length .empty K) rfl ?_
 refine Zw (fun h => Zs (.inr rfl) rfl (Zbe _) (by simp only [XE]; rw [if_pos h])) (fun h => Qz (fun g => Zs (.inr rfl) rfl (Zbe _) ?_) (fun g => ?_))
 ·simp only [XE]; rw [if_neg (by omega), List.getElem?_eq_none (by omega)]; rfl
 ·have hlt : c.pc.toNat < m.ins.length := by omega
  have e : XE m c = m.ins[c.pc.toNat] := by simp only [XE]; rw [if_neg (by omega), List.getElem?_eq_getElem hlt]; rfl
  exact ⟨⟨h, g⟩, _, _, _, _, _, _, _, _, _, _, _, _, _, _, _, _, _, Zr (f := ZC) (k := 11) Zb8 hlt, Zs (.inr rfl) rfl (Zn6 _ _) (by rw [e])⟩
def isC (ws : List Wat) (k : Int) : Bool := (cnt ws k).isSome
def cntL (ws : List Wat) (l : List Int) : List Int := l.filter (isC ws)
theorem Zgw (ws : List Wat) (l : List Int) (k : Int) : cntL ws (l ++ [k]) = if isC ws k then cntL ws l ++ [k] else cntL ws l := by
 unfold cntL; rw [List.filter_append]
 cases h : isC ws k <;> simp [h]
theorem Zfb (ws : List Wat) (l : List Int) : (cntL ws l).length ≤ l.length := List.length_filter_le _ _
theorem Zn8 {ws : List Wat} {k : Int} (h : isC ws k = true) : ∃ w, cnt ws k = some w ∧ 0 ≤ k ∧ k < ws.length ∧ ws[k.toNat]? = some w := by
 unfold isC at h
 cases hc : cnt ws k with
 | none => rw [hc] at h; cases h
 | some w =>
  refine ⟨w, rfl, ?_⟩
  unfold cnt at hc
  split at hc
  ·cases hc
  ·rename_i hk
   split at hc
   ·rename_i w' hw
    split at hc
    ·cases hc
     have := (List.getElem?_eq_some_iff.1 hw).1
     exact ⟨by omega, by omega, hw⟩
    ·cases hc
   ·cases hc
theorem Zn9 {ws : List Wat} {k : Int} (h : k < 0) : isC ws k = false := by unfold isC cnt; rw [if_pos h]; rfl
theorem Zoa {ws : List Wat} {k : Int} (h : (ws.length : Int) ≤ k) : isC ws k = false := by
 unfold isC cnt; rw [if_neg (by omega), List.getElem?_eq_none (by omega)]; rfl
theorem Zsb {ws : List Wat} {k : Int} (h0 : 0 ≤ k) (h1 : k < ws.length) : isC ws k = (leI 1 (ws[k.toNat]'(by omega)).kind && leI (ws[k.toNat]'(by omega)).kind 4) := by
 unfold isC cnt; rw [if_neg (by omega), List.getElem?_eq_getElem (by omega)]
 simp only [leI, Int.not_lt]
 split
 ·rename_i h; simp [h.1, h.2]
 ·rename_i h
  by_cases g : 1 ≤ (ws[k.toNat]'(by omega)).kind
  ·simp [g, h]
   omega
  ·simp [g]
theorem Zob (ws : List Wat) {k : Int} (h0 : 0 ≤ k) (h1 : k < ws.length) : Zh 1 (List.drop 0 (List.drop (k.toNat * 7) (row ZD ws))) = some [.i .i64 (ws[k.toNat]'(by omega)).kind] := by
 rw [List.drop_zero, Xg QU ws (by omega)]; rfl
theorem Xw (l : List Int) {i : Nat} (h : i < l.length) : Zh 1 (List.drop (((i : Nat) : Int).toNat * 1) (row encI l)) = some [.i .i64 l[i]] := by
 rw [Int.toNat_natCast]; exact Zr (f := encI) (k := 1) ZV h

theorem Zdu (ins : List Ins) (ws : List Wat) (l : List Int) (hl : l.length < 2 ^ 28) : PCon UY 73 [.agg (XX ins ws), lst encI l] (· = lst encI (cntL ws l)) := by
 refine Zt UK (fn := Tryz.f73) (by kernel_rfl) (by kernel_rfl) rfl ?_
 refine Zp UK 50 (fun K => ZCa (row ZC ins) ins.length (row ZD ws) ws.length (row encI l) l.length .empty K) rfl (by kernel_rfl) ?_
 refine ⟨rfl, ZK [1, 2, 5, 6] [1, 2, 5, 6] rfl (by kernel_rfl) (fun m vs h => ∃ (i : Nat) (a : Option (Nat × Nat)) (n : Nat) (c : Option Nat) (k : Nat), vs = [lst encI l, .lb (XX ins ws), .sl a n c k, .i .i64 (i : Nat)] ∧ i ≤ l.length ∧ m = l.length - i ∧ Lst encI 1 h a n c k (cntL ws (l.take i))) l.length Zu ⟨0, _, _, _, _, rfl, by omega, by omega, Lst.nil _ _ _ _ _⟩ ?_⟩
 rintro m vs h ⟨i, a, n, c, k, rfl, hi, rfl, hL⟩
 refine Zq UK (fun K => ZCb (row ZC ins) ins.length (row ZD ws) ws.length (row encI l) l.length a n c k (i : Nat) h K) rfl ?_
 refine Zg (fun hlt => ?_) (fun hge => ?_)
 ·have hT : l.take (i + 1) = l.take i ++ [l[i]] := List.take_succ_eq_append_getElem hlt
  have skip : isC ws l[i] = false → Xy UY 50 [1, 2, 5, 6] [1, 2, 5, 6] (fun m vs h => ∃ (i : Nat) (a : Option (Nat × Nat)) (n : Nat) (c : Option Nat) (k : Nat), vs = [lst encI l, .lb (XX ins ws), .sl a n c k, .i .i64 (i : Nat)] ∧ i ≤ l.length ∧ m = l.length - i ∧ Lst encI 1 h a n c k (cntL ws (l.take i))) (l.length - i) (Xi (post (flat (Za Tryz.f73)))) ((post (flat (Za Tryz.f73))).drop 1) (FinS UY Tryz.f73 fun v h => ∃ r, Frz h v r ∧ r = lst encI (cntL ws l)) .normal 50 [lst encI l, .lb (XX ins ws), .sl a n c k, .i .i64 (IntKind.i64.wrap ((i : Int) + 1))] h := fun hn =>
   ⟨rfl, l.length - (i + 1), by omega, i + 1, a, n, c, k, by rw [Zf (by omega)]; rfl, by omega, rfl, by rw [hT, Zgw, hn]; exact hL⟩
  refine ⟨bnd_nat hlt, _, Xw l hlt, Qz (fun h0 => Zw (fun h1 => ?_) (fun h1 => skip (Zoa h1))) (fun h0 => skip (Zn9 h0))⟩
  have e := Zsb h0 h1
  refine ⟨⟨h0, h1⟩, _, Zob ws h0 h1, Zd (fun k1 => ⟨⟨h0, h1⟩, _, Zob ws h0 h1, Zd (fun k2 => ?_) (fun k2 => skip (by rw [e, k2]; simp))⟩) (fun k1 => skip (by rw [e, k1]; rfl))⟩
  have hc : isC ws l[i] = true := by rw [e, k1, k2]; rfl
  obtain ⟨a', n', c', k', h', q1, q2, _, _⟩ := JF (cntL ws (l.take i)) l[i] hL (by have := Zfb ws (l.take i); simp at this; omega)
  exact ⟨a', n', c', k', h', q1, rfl, l.length - (i + 1), by omega, i + 1, a', n', c', k', by rw [Zf (by omega)]; rfl, by omega, rfl, by rw [hT, Zgw, hc]; exact q2⟩
 ·refine Ze [5] (by kernel_rfl) rfl rfl ?_
  refine ZB UK (fun K => ZCc a n c k h K) rfl ?_
  rw [List.take_of_length_le hge] at hL
  exact Zs (.inr rfl) rfl (hL.frz (by decide) ZV) rfl
theorem ZC1 (a : List V) (n0 : Nat) (h : Heap) (K : KT) : (Zc UY (UY.loc 61) 100 (pre (flat (Za Tryz.f61))) ⟨(V.ts a n0 none :: List.replicate 46 .undef), [], h⟩ (VQ [0, 3] K)) =
 (K .normal 47 [.ts a n0 none, .i .i64 0] h) := by kernel_rfl
theorem ZC2 (a : List V) (n0 : Nat) (x3 : Int) (h : Heap) (K : KT) : (Zc UY (UY.loc 61) 100 ((flat (Zv (post (flat (Za Tryz.f61)))))) ⟨mk 47 (([0, 3] : List Nat).zip [V.ts a n0 none, V.i .i64 x3]), [], h⟩ (VQ [0, 2, 3] K)) =
 (If (ltI x3 n0)
 ((0 ≤ x3 ∧ x3 < n0) ∧
 ∃ (s : List UInt8),
 Zh 1 (List.drop 0 (List.drop (x3.toNat * 2) a)) = some [V.s s] ∧
 ∃ (b : Bool),
 (PCon UY 107 [V.s s] fun v => v = V.b b) ∧
 If (!b) (K .ret 47 [.ts a n0 none, .b false, .i .i64 x3] h)
 ((0 ≤ x3 ∧ x3 < n0) ∧
 ∃ (s : List UInt8),
 Zh 1 (List.drop 1 (List.drop (x3.toNat * 2) a)) = some [V.s s] ∧
 If (ltI 32 (↑s.length : Int))
 (K .ret 47 [.ts a n0 none, .b false, .i .i64 x3] h)
 (If (ltI 0 x3)
 ((0 ≤ x3 ∧ x3 < n0) ∧
 ∃ (s : List UInt8),
 Zh 1 (List.drop 0 (List.drop (x3.toNat * 2) a)) =
 some [V.s s] ∧
 ((0 : Int) ≤ IntKind.i64.wrap (x3 - (1 : Int)) ∧
 IntKind.i64.wrap (x3 - (1 : Int)) < (n0 : Int)) ∧
 ∃ (s_1 : List UInt8),
 Zh 1
 (List.drop 0
 (List.drop ((IntKind.i64.wrap (x3 - (1 : Int))).toNat * 2) a)) =
 some [V.s s_1] ∧
 If (Op.bytesLess s s_1 || s == s_1)
 (K .ret 47 [.ts a n0 none, .b false, .i .i64 x3] h)
 (K .normal 47
 [.ts a n0 none, .undef, .i .i64 (IntKind.i64.wrap (x3 + (1 : Int)))]
 h))
 (K .normal 47
 [.ts a n0 none, .undef, .i .i64 (IntKind.i64.wrap (x3 + (1 : Int)))] h))))
 (K (.exit 0) 47 [.ts a n0 none, .undef, .i .i64 x3] h)) := by kernel_rfl
theorem ZC3 (a : List V) (n0 : Nat) (h : Heap) (K : KT) : (Zc UY (UY.loc 61) 100 (((post (flat (Za Tryz.f61))).drop 1)) ⟨mk 47 (([0] : List Nat).zip [V.ts a n0 none]), [], h⟩ (VQ [2] K)) =
 (K .ret 47 [.b (leI (n0 : Int) (16 : Int))] h) := by kernel_rfl
theorem Zyx (a : List V) (n0 : Nat) (h : Heap) (K : KT) : (Zc UY (UY.loc 172) 100 (pre (flat (Za Tryz.f172))) ⟨(V.ts a n0 none :: List.replicate 40 .undef), [], h⟩ (VQ [0, 5, 6, 7] K)) =
 (K .normal 41 [.ts a n0 none, .ts a n0 none, .i .i64 (n0 : Int), .i .i64 0] h) := by kernel_rfl
theorem Zyy (a : List V) (n0 : Nat) (x7 : Int) (h : Heap) (K : KT) : (Zc UY (UY.loc 172) 100 ((flat (Zv (post (flat (Za Tryz.f172)))))) ⟨mk 41 (([0, 5, 6, 7] : List Nat).zip [V.ts a n0 none, V.ts a n0 none, V.i .i64 (n0 : Int), V.i .i64 x7]), [], h⟩ (VQ [0, 2, 5, 6, 7] K)) =
 (If (ltI x7 n0)
 ((0 ≤ x7 ∧ x7 < n0) ∧
 ∃ (s s_1 : List UInt8), Zh 2 (List.drop (x7.toNat * 2) a) = some [V.s s, V.s s_1] ∧
 ∃ (b : Bool),
 (PCon UY 215 [V.s s] fun v => v = V.b b) ∧
 If (!b)
 (K .ret 41
 [.ts a n0 none, .b false, .ts a n0 none, .i .i64 (n0 : Int), .i .i64 x7] h)
 (If (ltI 32 (↑s_1.length : Int))
 (K .ret 41
 [.ts a n0 none, .b false, .ts a n0 none, .i .i64 (n0 : Int), .i .i64 x7] h)
 (If (ltI 0 x7)
 (((0 : Int) ≤ IntKind.i64.wrap (x7 - (1 : Int)) ∧ IntKind.i64.wrap (x7 - (1 : Int)) < (n0 : Int)) ∧
 ∃ (s_2 : List UInt8),
 Zh 1
 (List.drop 0
 (List.drop ((IntKind.i64.wrap (x7 - (1 : Int))).toNat * 2) a)) =
 some [V.s s_2] ∧
 If (Op.bytesLess s s_2 || s == s_2)
 (K .ret 41
 [.ts a n0 none, .b false, .ts a n0 none, .i .i64 (n0 : Int),
 .i .i64 x7]
 h)
 (K .normal 41
 [.ts a n0 none, .undef, .ts a n0 none, .i .i64 (n0 : Int),
 .i .i64 (IntKind.i64.wrap (x7 + (1 : Int)))]
 h))
 (K .normal 41
 [.ts a n0 none, .undef, .ts a n0 none, .i .i64 (n0 : Int),
 .i .i64 (IntKind.i64.wrap (x7 + (1 : Int)))]
 h))))
 (K (.exit 0) 41
 [.ts a n0 none, .undef, .ts a n0 none, .i .i64 (n0 : Int), .i .i64 x7] h)) := by kernel_rfl
theorem Zyz (a : List V) (n0 : Nat) (h : Heap) (K : KT) : (Zc UY (UY.loc 172) 100 (((post (flat (Za Tryz.f172))).drop 1)) ⟨mk 41 (([0] : List Nat).zip [V.ts a n0 none]), [], h⟩ (VQ [2] K)) =
 (K .ret 41 [.b (leI (n0 : Int) (16 : Int))] h) := by kernel_rfl
theorem Zy0 (s0 : List UInt8) (h : Heap) (K : KT) : (Zc UY (UY.loc 174) 100 ((flat (Za Tryz.f174))) ⟨(V.s s0 :: List.replicate 5 .undef), [], h⟩ (VQ [2] K)) =
 (K .ret 6 [.b (ltI 32 (↑s0.length : Int))] h) := by kernel_rfl
theorem Zy1 (e : List V) (f : Nat) (g : List V) (j : Nat) (l : List V) (c : Nat) (m n o : Int) (p : List V) (q : Nat) (r t u v w x y z A B : List UInt8) (C : List V) (D : Nat) (E F G H I : Int) (J : List V) (L : Nat) (M : List V) (N : Nat) (d : List V) (a : Nat) (h : Heap) (K : KT) : (Zc UY (UY.loc 127) 100 (pre (flat (Za Tryz.f127))) ⟨(V.agg (vMD e f g j l c m n) :: V.agg (vCF o p q r t u v w x y z A B C D E F G H I J L M N d a) :: List.replicate 37 .undef), [], h⟩ (VQ [2, 4, 8, 15, 16, 17] K)) =
 (If ((↑a : Int) != (c : Int))
 (K .ret 39
 [.lb
 (vMD e f g j l c m n),
 .b false, .ts d a none, .undef, .undef, .undef]
 h)
 (K .normal 39
 [.lb
 (vMD e f g j l c m n),
 .b false, .ts d a none, .ts d a none, .i .i64 (a : Int),
 .i .i64 0]
 h)) := by kernel_rfl
theorem Zy2 (m : List V) (o : Nat) (p : List V) (q : Nat) (f : List V) (g : Nat) (r j : Int) (e : List V) (a : Nat) (d : Int) (h : Heap) (K : KT) : (Zc UY (UY.loc 127) 100 ((flat (Zv (post (flat (Za Tryz.f127)))))) ⟨mk 39 (([2, 8, 15, 16, 17] : List Nat).zip [V.lb (vMD m o p q f g r j), V.ts e a none, V.ts e a none, V.i .i64 (a : Int), V.i .i64 d]), [], h⟩ (VQ [2, 4, 8, 15, 16, 17] K)) =
 (If (ltI d a)
 ((0 ≤ d ∧ d < a) ∧
 ∃ (b b_1 b_2 : Bool) (n n_1 : Int) (s : List UInt8) (cs : List V) (l : Nat) (c : Option Nat) (s_1 : List UInt8) (cs_1 : List V) (l_1 : Nat) (c_1 : Option Nat) (s_2 s_3 : List UInt8), Zh 11 (List.drop (d.toNat * 11) e) =
 some
 (vSD b b_1 b_2 n n_1 s cs l c s_1 cs_1 l_1 c_1 s_2 s_3) ∧
 (0 ≤ d ∧ d < g) ∧
 ∃ (n_2 : Int) (cs_2 : List V) (l_2 : Nat) (c_2 : Option Nat), Zh 2 (List.drop (d.toNat * 2) f) =
 some [V.i .i64 n_2, V.ts cs_2 l_2 c_2] ∧
 ∃ (b_3 : Bool),
 (PCon UY 171
 [V.agg
 (vSD b b_1 b_2 n n_1 s cs l c s_1 cs_1 l_1 c_1 s_2 s_3),
 V.agg [V.i .i64 n_2, V.ts cs_2 l_2 c_2]]
 fun v => v = V.b b_3) ∧
 If (!b_3)
 (K .ret 39
 [.lb
 (vMD m o p q f g r j),
 .b false, .ts e a none,
 .ts e a none, .i .i64 (a : Int),
 .i .i64 d]
 h)
 (If (ltI j (↑s_3.length : Int))
 (K .ret 39
 [.lb
 (vMD m o p q f g r j),
 .b false, .ts e a none,
 .ts e a none,
 .i .i64 (a : Int), .i .i64 d]
 h)
 (K .normal 39
 [.lb
 (vMD m o p q f g r j),
 .undef, .ts e a none,
 .ts e a none,
 .i .i64 (a : Int),
 .i .i64 (IntKind.i64.wrap (d + (1 : Int)))]
 h)))
 (K (.exit 0) 39
 [.lb
 (vMD m o p q f g r j),
 .undef, .ts e a none, .ts e a none, .i .i64 (a : Int),
 .i .i64 d]
 h)) := by kernel_rfl
theorem Zy3 (h : Heap) (K : KT) : (Zc UY (UY.loc 127) 100 (((post (flat (Za Tryz.f127))).drop 1)) ⟨mk 39 (([] : List Nat).zip []), [], h⟩ (VQ [4] K)) =
 (K .ret 39 [.b true] h) := by kernel_rfl
theorem ZC4 (a : List V) (c : Nat) (d : List V) (e : Nat) (f : List V) (g : Nat) (j l m : Int) (n : List V) (o : Nat) (p q r t u w x y z A : List UInt8) (B : List V) (C : Nat) (D E F G H : Int) (I : List V) (J : Nat) (L : List V) (M : Nat) (N : List V) (O : Nat) (h : Heap) (K : KT) : (Zc UY (UY.loc 82) 100 ((flat (Za Tryz.f82))) ⟨(V.agg (vMD a c d e f g j l) :: V.agg (vCF m n o p q r t u w x y z A B C D E F G H I J L M N O) :: List.replicate 15 .undef), [], h⟩ (VQ [4] K)) =
 (∃ (b : Bool),
 (PCon UY 126
 [V.agg
 (vMD a c d e f g j l)]
 fun v => v = V.b b) ∧
 If b
 (∃ (b : Bool),
 (PCon UY 127
 [V.agg
 (vMD a c d e f g j l),
 V.agg
 (vCF m n o p q r t u w x y z A B C D E F G H I J L M N O)]
 fun v => v = V.b b) ∧
 If b
 (∃ (b : Bool),
 (PCon UY 128
 [V.agg
 (vMD a c d e f g j l),
 V.agg
 (vCF m n o p q r t u w x y z A B C D E F G H I J L M N O)]
 fun v => v = V.b b) ∧
 K .ret 17 [.b b] h)
 (K .ret 17 [.b false] h))
 (K .ret 17 [.b false] h)) := by kernel_rfl
theorem ZC5 (m o p : Bool) (a g : Int) (q : List UInt8) (j : List V) (d : Nat) (r : List UInt8) (t : List V) (u : Nat) (w x : List UInt8) (y : Int) (e : List V) (f : Nat) (x2 : Int) (h : Heap) (K : KT) : (Zc UY (UY.loc 77) 100 ((flat (Za Tryz.f77))) ⟨(V.agg (vSD m o p a g q j d none r t u none w x) :: V.agg [V.i .i64 y, V.ts e f none] :: V.i .i64 x2 :: List.replicate 79 .undef), [], h⟩ (VQ [6] K)) =
 (∃ (b : Bool),
 (PCon UY 122
 [V.agg
 (vSD m o p a g q j d none r t u none w x),
 V.agg [V.i .i64 y, V.ts e f none]]
 fun v => v = V.b b) ∧
 If (!b) (K .ret 82 [.b false] h)
 (If (ltI x2 0) (K .ret 82 [.b false] h)
 ((0 ≤ a ∧ a < f) ∧
 ∃ (cs : List V) (l : Nat) (c : Option Nat), Zh 1 (List.drop 2 (List.drop (a.toNat * 3) e)) =
 some [V.ts cs l c] ∧
 If (leI l x2) (K .ret 82 [.b false] h)
 ((0 ≤ a ∧ a < f) ∧
 ∃ (cs : List V) (l : Nat) (c : Option Nat), Zh 1 (List.drop 2 (List.drop (a.toNat * 3) e)) =
 some [V.ts cs l c] ∧
 (0 ≤ x2 ∧ x2 < l) ∧
 ∃ (n : Int) (s : List UInt8) (n_1 n_2 n_3 : Int), Zh 5 (List.drop (x2.toNat * 5) cs) =
 some
 [V.i .i64 n, V.s s, V.i .i64 n_1, V.i .i64 n_2,
 V.i .i64 n_3] ∧
 If (n == (2 : Int))
 (∃ (cs : List V) (l : Nat) (c : Option Nat) (n n_4 : Int), (PCon UY 99 [V.s s] fun (v : V) =>
 v =
 V.tup
 [V.ts cs l c, V.i .i64 n, V.i .i64 n_4]) ∧
 If (ltI 0 d)
 (((0 : Int) ≤ (0 : Int) ∧ (0 : Int) < (d : Int)) ∧
 ∃ (s : List UInt8),
 Zh 1 j = some [V.s s] ∧
 ∃ (b : Bool),
 (PCon UY 123 [V.ts cs l c, V.s s]
 fun v => v = V.b b) ∧
 K .ret 82 [.b b] h)
 (K .ret 82 [.b false] h))
 (If (leI n_1 g)
 (If (n == (3 : Int)) (K .ret 82 [.b true] h)
 (∃ (n : Int),
 (PCon UY 109
 [V.agg
 (vSD m o p a g q j d none r t u none w x),
 V.agg [V.i .i64 y, V.ts e f none]]
 fun v => v = V.i .i64 n) ∧
 K .ret 82 [.b (leI (↑s.length : Int) n)] h))
 (K .ret 82 [.b false] h)))))) := by kernel_rfl
theorem ZC6 (a c d : Bool) (e f : Int) (g : List UInt8) (j : List V) (l : Nat) (m : List UInt8) (n : List V) (o : Nat) (p q : List UInt8) (r : Int) (t : List V) (u : Nat) (h : Heap) (K : KT) : (Zc UY (UY.loc 92) 100 (pre (flat (Za Tryz.f92))) ⟨(V.agg (vSD a c d e f g j l none m n o none p q) :: V.agg [V.i .i64 r, V.ts t u none] :: List.replicate 21 .undef), [], h⟩ (VQ [2, 3, 5, 6] K)) =
 (K .normal 23
 [.lb
 (vSD a c d e f g j l none m n o none p q),
 .lb [.i .i64 r, .ts t u none], .sl none 0 (some 0) 0,
 .i .i64 0]
 h) := by kernel_rfl
theorem ZC7 (e f g : Bool) (j m : Int) (o : List UInt8) (p : List V) (q : Nat) (r : List UInt8) (t : List V) (u : Nat) (w x : List UInt8) (y : Int) (z : List V) (A : Nat) (B : Option (Nat × Nat)) (C : Nat) (D : Option Nat) (E : Nat) (d : Int) (h : Heap) (K : KT) : (Zc UY (UY.loc 92) 100 ((flat (Zv (post (flat (Za Tryz.f92)))))) ⟨mk 23 (([2, 3, 5, 6] : List Nat).zip [V.lb (vSD e f g j m o p q none r t u none w x), V.lb [V.i .i64 y, V.ts z A none], V.sl B C D E, V.i .i64 d]), [], h⟩ (VQ [2, 3, 5, 6] K)) =
 (∃ (n : Int),
 (PCon UY 121
 [V.agg
 (vSD e f g j m o p q none r t u none w x),
 V.agg [V.i .i64 y, V.ts z A none]]
 fun v => v = V.i .i64 n) ∧
 If (ltI d n)
 (∃ (b : Bool),
 (PCon UY 77
 [V.agg
 (vSD e f g j m o p q none r t u none w x),
 V.agg [V.i .i64 y, V.ts z A none], V.i .i64 d]
 fun v => v = V.b b) ∧
 If b
 (∃ (a : Option (Nat × Nat)) (l : Nat) (c : Option Nat) (k : Nat) (h_1 : Heap), Zk UY h 31 31 (V.sl B C D E)
 (V.ts [V.i .i64 d] 1 (some 1)) =
 some (V.sl a l c k, h_1) ∧
 K .normal 23
 [.lb
 (vSD e f g j m o p q none r t u none w x),
 .lb [.i .i64 y, .ts z A none], .sl a l c k,
 .i .i64 (IntKind.i64.wrap (d + (1 : Int)))]
 h_1)
 (K .normal 23
 [.lb
 (vSD e f g j m o p q none r t u none w x),
 .lb [.i .i64 y, .ts z A none], .sl B C D E,
 .i .i64 (IntKind.i64.wrap (d + (1 : Int)))]
 h))
 (K (.exit 0) 23
 [.lb
 (vSD e f g j m o p q none r t u none w x),
 .lb [.i .i64 y, .ts z A none], .sl B C D E, .i .i64 d]
 h)) := by kernel_rfl
theorem ZC8 (a : Option (Nat × Nat)) (b : Nat) (c : Option Nat) (d : Nat) (h : Heap) (K : KT) : (Zc UY (UY.loc 92) 100 (((post (flat (Za Tryz.f92))).drop 1)) ⟨mk 23 (([5] : List Nat).zip [V.sl a b c d]), [], h⟩ (VQ [4] K)) =
 (K .ret 23 [.sl a b c d] h) := by kernel_rfl
theorem ZC9 (a c d : Bool) (e q : Int) (f : List UInt8) (g : List V) (j : Nat) (l : List UInt8) (m : List V) (n : Nat) (o p : List UInt8) (r : Int) (t : List V) (u : Nat) (h : Heap) (K : KT) : (Zc UY (UY.loc 93) 100 (pre (flat (Za Tryz.f93))) ⟨(V.agg (vSD a c d e q f g j none l m n none o p) :: V.agg [V.i .i64 r, V.ts t u none] :: List.replicate 44 .undef), [], h⟩ (VQ [2, 3, 5, 6] K)) =
 (K .normal 46
 [.lb
 (vSD a c d e q f g j none l m n none o p),
 .lb [.i .i64 r, .ts t u none],
 .lb
 (vSD a c d e 9 f g j none l m n none o p),
 .i .i64 0]
 h) := by kernel_rfl
theorem ZDa (d e f : Bool) (a y : Int) (g : List UInt8) (j : List V) (m : Nat) (o : List UInt8) (p : List V) (q : Nat) (r t : List UInt8) (z : Int) (w : List V) (x : Nat) (u : Int) (h : Heap) (K : KT) : (Zc UY (UY.loc 93) 100 ((flat (Zv (post (flat (Za Tryz.f93)))))) ⟨mk 46 (([2, 3, 5, 6] : List Nat).zip [V.lb (vSD d e f a y g j m none o p q none r t), V.lb [V.i .i64 z, V.ts w x none], V.lb (vSD d e f a 9 g j m none o p q none r t), V.i .i64 u]), [], h⟩ (VQ [2, 3, 4, 5, 6] K)) =
 (∃ (n : Int),
 (PCon UY 121
 [V.agg
 (vSD d e f a y g j m none o p q none r t),
 V.agg [V.i .i64 z, V.ts w x none]]
 fun v => v = V.i .i64 n) ∧
 If (ltI u n)
 (If (ltI y 9)
 ((0 ≤ a ∧ a < x) ∧
 ∃ (cs : List V) (l : Nat) (c : Option Nat), Zh 1 (List.drop 2 (List.drop (a.toNat * 3) w)) =
 some [V.ts cs l c] ∧
 (0 ≤ u ∧ u < l) ∧
 ∃ (n : Int),
 Zh 1 (List.drop 0 (List.drop (u.toNat * 5) cs)) =
 some [V.i .i64 n] ∧
 If (n != (2 : Int))
 (∃ (b : Bool),
 (PCon UY 77
 [V.agg
 (vSD d e f a y g j m none o p q none r t),
 V.agg [V.i .i64 z, V.ts w x none], V.i .i64 u]
 fun v => v = V.b b) ∧
 If (!b)
 (∃ (b : Bool),
 (PCon UY 77
 [V.agg
 (vSD d e f a 9 g j m none o p q none r t),
 V.agg [V.i .i64 z, V.ts w x none],
 V.i .i64 u]
 fun v => v = V.b b) ∧
 If b
 (K .ret 46
 [.lb
 (vSD d e f a y g j m none o p q none r t),
 .lb [.i .i64 z, .ts w x none], .b true,
 .lb
 (vSD d e f a 9 g j m none o p q none r t),
 .i .i64 u]
 h)
 (K .normal 46
 [.lb
 (vSD d e f a y g j m none o p q none r t),
 .lb [.i .i64 z, .ts w x none], .undef,
 .lb
 (vSD d e f a 9 g j m none o p q none r t),
 .i .i64 (IntKind.i64.wrap (u + (1 : Int)))]
 h))
 (K .normal 46
 [.lb
 (vSD d e f a y g j m none o p q none r t),
 .lb [.i .i64 z, .ts w x none], .undef,
 .lb
 (vSD d e f a 9 g j m none o p q none r t),
 .i .i64 (IntKind.i64.wrap (u + (1 : Int)))]
 h))
 (K .normal 46
 [.lb
 (vSD d e f a y g j m none o p q none r t),
 .lb [.i .i64 z, .ts w x none], .undef,
 .lb
 (vSD d e f a 9 g j m none o p q none r t),
 .i .i64 (IntKind.i64.wrap (u + (1 : Int)))]
 h))
 (K .normal 46
 [.lb
 (vSD d e f a y g j m none o p q none r t),
 .lb [.i .i64 z, .ts w x none], .undef,
 .lb
 (vSD d e f a 9 g j m none o p q none r t),
 .i .i64 (IntKind.i64.wrap (u + (1 : Int)))]
 h))
 (K (.exit 0) 46
 [.lb
 (vSD d e f a y g j m none o p q none r t),
 .lb [.i .i64 z, .ts w x none], .undef,
 .lb
 (vSD d e f a 9 g j m none o p q none r t),
 .i .i64 u]
 h)) := by kernel_rfl
theorem ZDb (h : Heap) (K : KT) : (Zc UY (UY.loc 93) 100 (((post (flat (Za Tryz.f93))).drop 1)) ⟨mk 46 (([] : List Nat).zip []), [], h⟩ (VQ [4] K)) =
 (K .ret 46 [.b false] h) := by kernel_rfl
def rowK (f : Nat → Bool) (k n : Nat) : List V := (List.range n).map fun j => V.b (if j < k then f j else false)
theorem WM (f : Nat → Bool) (k n j : Nat) (hj : j < n) : (rowK f k n)[j]? = some (.b (if j < k then f j else false)) := by simp [rowK, hj]
theorem QZ (f : Nat → Bool) (k n : Nat) : (rowK f k n).length = n := by simp [rowK]
theorem Zcm {cs : List V} {j : Nat} {v : V} (h : cs[j]? = some v) : Zh 1 (cs.drop j) = some [v] := by
 have hj := (List.getElem?_eq_some_iff.1 h).1
 rw [List.drop_eq_getElem_cons hj]
 have : cs[j] = v := (List.getElem?_eq_some_iff.1 h).2
 simp [Zh, this]

theorem Zqr (f : Nat → Bool) {k n : Nat} (hk : k < n) {b : Bool} (hb : b = f k) : splice (rowK f k n) k [.b b] = rowK f (k + 1) n := by
 apply List.ext_getElem?
 intro j
 rw [ZX _ _ _ _ (by rw [QZ]; simp; omega)]
 by_cases hj : j < n
 ·rw [WM f k n j hj, WM f (k + 1) n j hj]
  by_cases hjk : j = k
  ·subst hjk
   simp [hb]
  ·rw [if_neg (by simp; omega)]
   by_cases h1 : j < k
   ·rw [if_pos h1, if_pos (by omega)]
   ·rw [if_neg h1, if_neg (by omega)]
 ·have e1 : (rowK f k n)[j]? = none := List.getElem?_eq_none (by rw [QZ]; omega)
  have e2 : (rowK f (k + 1) n)[j]? = none := List.getElem?_eq_none (by rw [QZ]; omega)
  rw [e1, e2, if_neg (by simp; omega)]
theorem Zoc (f : Nat → Bool) {k n : Nat} (hf : f k = false) : rowK f k n = rowK f (k + 1) n := by
 unfold rowK
 apply List.map_congr_left
 intro j _
 by_cases hj : j = k
 ·subst hj; simp [hf]
 ·by_cases h1 : j < k
  ·rw [if_pos h1, if_pos (by omega)]
  ·rw [if_neg h1, if_neg (by omega)]
theorem Zgx (f : Nat → Bool) (n : Nat) : (List.replicate n [V.b false]).flatten = rowK f 0 n := by
 apply List.ext_getElem?
 intro j
 by_cases hj : j < n
 ·rw [WM f 0 n j hj]
  have : (List.replicate n [V.b false]).flatten = List.replicate n (V.b false) := by
   induction n with
   | zero => rfl
   | succ n ih => rw [List.replicate_succ, List.flatten_cons]; simp [List.replicate_succ]
  rw [this]; simp [hj]
 ·rw [List.getElem?_eq_none (by simp; omega), List.getElem?_eq_none (by rw [QZ]; omega)]

theorem Zdv {h : Heap} {id : Nat} {f : Nat → Bool} {k n : Nat} (hg : h.get id = some (.arr (rowK f k n) true)) (hk : k < n) {b : Bool} (hb : b = f k) :
  ZN h id k [.b b] = some (h.set id (some (.arr (rowK f (k + 1) n) true))) := by
 simp only [ZN, hg]
 rw [if_pos (by rw [QZ]; simp; omega), Zqr f hk hb]

abbrev bsl (id n : Nat) : V := .sl (some (id, 0)) n (some n) 1

def TabO (l : List Glob) (s : List UInt8) (m : Nat) (vs : List V) (h : Heap) : Prop :=
 ∃ (i id : Nat), vs = [lst encG l, .s s, bsl id (s.length + 1), .i .i64 (i : Nat), lst encG l] ∧ i ≤ l.length ∧ id < h.nx ∧ h.get id = some (.arr (rowK (tab l s i) (s.length + 1) (s.length + 1)) true) ∧ m = l.length - i
def TabN (l : List Glob) (s : List UInt8) (i id : Nat) (m : Nat) (vs : List V) (h : Heap) : Prop :=
 ∃ (k id2 : Nat), vs = [lst encG l, .s s, bsl id (s.length + 1), .i .i64 (i : Nat), bsl id2 (s.length + 1), .i .i64 (k : Nat), lst encG l] ∧ k ≤ s.length + 1 ∧ id2 < h.nx ∧ id ≠ id2 ∧
  h.get id = some (.arr (rowK (tab l s i) (s.length + 1) (s.length + 1)) true) ∧ h.get id2 = some (.arr (rowK (tab l s (i + 1)) k (s.length + 1)) true) ∧ m = s.length + 1 - k

theorem Zlf (l : List Glob) (s : List UInt8) (hs : okG l) (hsl : s.length < 2 ^ 28) : PCon UY 123 [lst encG l, .s s] (· = .b (mayS l && M l s)) := by
 have hl := hs.1
 have hmost : ((most : Nat) : Int) = 1099511627776 := by decide
 have hw : IntKind.i64.wrap ((s.length : Int) + 1) = ((s.length + 1 : Nat) : Int) := Zf (by omega)
 have alloc : (0 : Int) ≤ ((s.length + 1 : Nat) : Int) ∧ ((s.length + 1 : Nat) : Int) ≤ ((s.length + 1 : Nat) : Int) ∧ ((s.length + 1 : Nat) : Int) ≤ ((most : Nat) : Int) ∧ ((s.length + 1 : Nat) : Int) * ((1 : Nat) : Int) ≤ ((most : Nat) : Int) := by
  rw [hmost]; refine ⟨by omega, by omega, by omega, by omega⟩
 refine Zt UK (fn := Tryz.f123) (by kernel_rfl) (by kernel_rfl) rfl ?_
 refine ZH UK (n := 85) (loc := UY.loc 123) 100 [0, 1, 4, 5, 6, 9] (by kernel_rfl) ?_
 refine Eq.mpr (Zx8 (row encG l) l.length s .empty _) ?_
 rw [hw, Int.toNat_natCast]
 refine ⟨_, Zqm l hs, Zd (fun hm => Zl (.inr rfl) rfl ⟨_, .b _, ?_⟩) (fun hm => ?_)⟩
 ·have : mayS l = false := by simpa using hm
  rw [this]; rfl
 have hmay : mayS l = true := by simpa using hm
 rw [hmay, Bool.true_and]
 have hz : (List.replicate (s.length + 1) [V.b false]).flatten = rowK (tab l s 0) 0 (s.length + 1) := Zgx _ _
 have hz0 : tab l s 0 0 = true := by rw [Zr7 l s 0 (by omega)]; rfl
 have h1 := Zdv (h := Heap.empty.push (.arr (rowK (tab l s 0) 0 (s.length + 1)) true)) (id := Heap.empty.nx) (f := tab l s 0) (k := 0) (n := s.length + 1) (by simp) (by omega) (b := true) hz0.symm
 have hall : rowK (tab l s 0) 1 (s.length + 1) = rowK (tab l s 0) (s.length + 1) (s.length + 1) := by
  unfold rowK
  apply List.map_congr_left
  intro j hj
  have hj := List.mem_range.1 hj
  rw [if_pos hj]
  by_cases h0 : j < 1
  ·rw [if_pos h0]
  ·rw [if_neg h0, Zr7 l s j (by omega)]; simp; omega
 refine ⟨alloc, ⟨by omega, by omega⟩, rfl, _, by rw [hz]; exact h1, rfl, ?_⟩
 refine ZK [0, 1, 5, 6, 9] [0, 1, 5, 6, 9] rfl (by kernel_rfl) (TabO l s) l.length Zu ⟨0, _, rfl, by omega, ?_, ?_, by omega⟩ ?_
 ·simp
 ·rw [← hall]; simp
 rintro m vs h ⟨i, id, rfl, hi, hid, hg, rfl⟩
 refine ZH UK (n := 85) (loc := UY.loc 123) 100 [0, 1, 5, 6, 9] (by kernel_rfl) ?_
 refine Eq.mpr (Zx9 (row encG l) l.length s id (s.length + 1) (s.length + 1) (i : Nat) h _) ?_
 refine Zg (fun hlt => ?_) (fun hge => ?_)
 ·refine ⟨rfl, Zgm (n := 85) [0, 1, 5, 6, 9] (by kernel_rfl) ?_⟩
  refine ZH UK (n := 85) (loc := UY.loc 123) 100 [0, 1, 5, 6, 7, 8, 9] (by kernel_rfl) ?_
  refine Eq.mpr (Zya (row encG l) l.length s id (s.length + 1) (s.length + 1) (i : Nat) h _) ?_
  rw [hw, Int.toNat_natCast]
  refine ⟨alloc, rfl, ?_⟩
  refine ZK [0, 1, 5, 6, 7, 8, 9] [0, 1, 5, 6, 7, 8, 9] rfl (by kernel_rfl) (TabN l s i id) (s.length + 1) Zu ⟨0, h.nx, rfl, by omega, by simp, by omega, ?_, ?_, by omega⟩ ?_
  ·show (h.push _).get id = _
   rw [Heap.get_push, if_neg (by omega)]; exact hg
  ·show (h.push _).get h.nx = _
   rw [Heap.get_push, if_pos rfl, Zgx]
  have rc := Xg Ji l hlt
  rintro m vs h2 ⟨k, id2, rfl, hk, hid2, hne, hg1, hg2, rfl⟩
  refine ZI UK (loc := UY.loc 123) 100 [0, 1, 5, 6, 7, 8, 9] ?_
  refine Eq.mpr (Zyb (row encG l) l.length s id (s.length + 1) (s.length + 1) (i : Nat) id2 (s.length + 1) (s.length + 1) (k : Nat) h2 _) ?_
  refine Qz (fun hkl => ?_) (fun hkg => ?_)
  ·have hkl : k ≤ s.length := by omega
   have off : ∀ j : Nat, 0 + (((j : Nat) : Int)).toNat * 1 = j := fun j => by omega
   have bnd : ∀ j : Nat, j ≤ s.length → (0 : Int) ≤ (j : Nat) ∧ ((j : Nat) : Int) < ((s.length + 1 : Nat) : Int) := fun j hj => ⟨by omega, by omega⟩
   have read1 : ∀ j : Nat, j ≤ s.length → Zj h2 id j 1 = some [.b (tab l s i j)] := fun j hj => by
    simp only [Zj, hg1]
    have := WM (tab l s i) (s.length + 1) (s.length + 1) j (by omega)
    rw [if_pos (by omega)] at this
    exact Zcm this
   have read2 : ∀ j : Nat, j < k → Zj h2 id2 j 1 = some [.b (tab l s (i + 1) j)] := fun j hj => by
    simp only [Zj, hg2]
    have := WM (tab l s (i + 1)) k (s.length + 1) j (by omega)
    rw [if_pos hj] at this
    exact Zcm this
   have put : ∀ (b : Bool), b = tab l s (i + 1) k → ∃ h3, ZN h2 id2 k [.b b] = some h3 ∧ Xy UY 85 [0, 1, 5, 6, 7, 8, 9] [0, 1, 5, 6, 7, 8, 9] (TabN l s i id) (s.length + 1 - k)
     (Xi (post (flat (Xx (post (flat (Zv (post (flat (Za Tryz.f123)))))))))) ((post (flat (Xx (post (flat (Zv (post (flat (Za Tryz.f123))))))))).drop 1)
     (VQ [0, 1, 5, 6, 9] (Zc1 UY 85 [0, 1, 5, 6, 9] (Qs (post (flat (Zv (post (flat (Za Tryz.f123))))))) ((post (flat (Zv (post (flat (Za Tryz.f123)))))).drop 1)
      (VQ [0, 1, 5, 6, 9] (Xy UY 85 [0, 1, 5, 6, 9] [0, 1, 5, 6, 9] (TabO l s) (l.length - i) (Xi (post (flat (Za Tryz.f123)))) ((post (flat (Za Tryz.f123))).drop 1) (FinS UY Tryz.f123 fun v h => ∃ r, Frz h v r ∧ r = .b (M l s))))))
     .normal 85 [lst encG l, .s s, bsl id (s.length + 1), .i .i64 (i : Nat), bsl id2 (s.length + 1), .i .i64 (IntKind.i64.wrap ((k : Nat) + 1)), lst encG l] h3 := by
    intro b hb
    refine ⟨_, Zdv hg2 (by omega) hb, rfl, s.length + 1 - (k + 1), by omega, k + 1, id2, ?_, by omega, by simpa using hid2, hne, ?_, by simp, rfl⟩
    ·rw [Zf (by omega)]; rfl
    ·rw [Heap.get_set, if_neg hne]; exact hg1
   have prev : 0 < k → IntKind.i64.wrap (((k : Nat) : Int) - 1) = ((k - 1 : Nat) : Int) := fun h => by rw [Xu (by omega) (by omega)]; omega
   refine ⟨bnd_nat hlt, l[i].k, by rw [Int.toNat_natCast, rc]; rfl, Zd (fun h2k => ?_) (fun h2k => ?_)⟩
   ·have hkd : l[i].k = 2 := by simpa using h2k
    refine ⟨bnd k hkl, rfl, _, by rw [off]; exact read1 k hkl, Zd (fun hb => ?_) (fun hb => ?_)⟩
    ·refine ⟨bnd k hkl, rfl, ?_⟩
     rw [off]
     refine put true ?_
     cases k with
     | zero => rw [Zgs hlt hkd, hb]
     | succ k => rw [Zju hlt hkd (by omega), hb, Bool.true_or]
    ·refine QF (fun hpos => ?_) (fun hz => ?_)
     ·rw [prev hpos]
      refine ⟨bnd (k - 1) (by omega), rfl, _, by rw [off]; exact read2 (k - 1) (by omega), bnd k hkl, rfl, ?_⟩
      rw [off]
      refine put _ ?_
      obtain ⟨k', rfl⟩ : ∃ k', k = k' + 1 := ⟨k - 1, by omega⟩
      rw [Zju hlt hkd (by omega), hb, Bool.false_or]; rfl
     ·refine ⟨bnd k hkl, rfl, ?_⟩
      rw [off]
      refine put _ ?_
      subst hz
      rw [Zgs hlt hkd, hb]
   ·have hkd : l[i].k ≠ 2 := by simpa using h2k
    refine QF (fun hpos => ?_) (fun hz => ?_)
    ·rw [prev hpos]
     obtain ⟨k', rfl⟩ : ∃ k', k = k' + 1 := ⟨k - 1, by omega⟩
     have hsk : k' < s.length := by omega
     rw [show k' + 1 - 1 = k' by omega]
     refine ⟨bnd k' (by omega), rfl, _, by rw [off]; exact read1 k' (by omega), Zd (fun hb => ?_) (fun hb => ?_)⟩
     ·refine ⟨bnd_nat hlt, _, _, _, _, _, by rw [Int.toNat_natCast]; exact Zr Ji hlt, s[k'], ⟨by omega, by simp [hsk]⟩, _, Zn2 l[i] _ (by have := hs.2 _ (List.getElem_mem hlt); omega), bnd (k' + 1) hkl, rfl, ?_⟩
      rw [off]
      refine put _ ?_
      rw [Zn1 hlt hkd hsk, hb, Bool.true_and]
     ·refine ⟨bnd (k' + 1) hkl, rfl, ?_⟩
      rw [off]
      refine put _ ?_
      rw [Zn1 hlt hkd hsk, hb, Bool.false_and]
    ·subst hz
     refine ⟨rfl, s.length + 1 - 1, by omega, 1, id2, ?_, by omega, hid2, hne, hg1, ?_, rfl⟩
     ·rw [Zf (by omega)]; rfl
     ·rw [hg2, Zoc _ (Zqf hlt hkd)]
  ·refine Ze [0, 1, 6, 7, 9] (by kernel_rfl) rfl rfl ?_
   refine ZI UK (loc := UY.loc 123) 100 [0, 1, 5, 6, 9] ?_
   refine Eq.mpr (Zyc (row encG l) l.length s (i : Nat) id2 (s.length + 1) (s.length + 1) h2 _) ?_
   refine ⟨rfl, [0, 1, 5, 6, 9], rfl, ?_⟩
   refine ZI UK (loc := UY.loc 123) 100 [0, 1, 5, 6, 9] ?_
   refine Eq.mpr (Zyd (row encG l) l.length s (i : Nat) id2 (s.length + 1) (s.length + 1) h2 _) ?_
   refine ⟨rfl, l.length - (i + 1), by omega, i + 1, id2, ?_, by omega, hid2, ?_, rfl⟩
   ·rw [Zf (by omega)]; rfl
   ·rw [hg2, show k = s.length + 1 by omega]
 ·refine Zjq fun vs2 ht => Jh [1, 5] ht (by kernel_rfl) rfl rfl rfl ?_
  refine Zm UK (loc := UY.loc 123) 100 [4] ?_
  refine Eq.mpr (Zye s id (s.length + 1) (s.length + 1) h _) ?_
  have he : i = l.length := by omega
  subst he
  refine ⟨⟨by omega, by omega⟩, rfl, M l s, ?_, Zs (.inr rfl) rfl (.b _) rfl⟩
  have := WM (tab l s l.length) (s.length + 1) (s.length + 1) s.length (by omega)
  rw [if_pos (by omega), Zti] at this
  rw [show 0 + (((s.length : Nat) : Int)).toNat * 1 = s.length by omega]
  simp only [Zj, hg]
  exact Zcm this
end Go.Y
