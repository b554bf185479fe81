/- Configurations that may be: souffleurref21.May. -/
import Derived.Test.YtkcgmnhojldoiaaGreatFC5
import Derived.Test.YtkcgmnhojldoiaaGreatFT6
namespace Go.Y
open Go.Proofs
set_option maxRecDepth 1000000
set_option maxHeartbeats 0
def Qd (c : Cfg) : List (List UInt8) := [c.c0, c.c1, c.c2, c.c3, c.c4, c.c5, c.c6, c.c7, c.c8, c.c9]
def WP (s : List UInt8) : Bool := !ltI 32 s.length
def Zfd (c : Cfg) : Bool := memL c.vars && !ltI 4 c.stack.length
def XZ (m : Mdl) (c : Cfg) : Bool := !ltI c.use (-1) && !leI m.ps.length c.use && !ltI c.tmo (-1) && !ltI 9 c.tmo && !ltI c.mode 0 && !ltI 3 c.mode && ((c.err != 0) == (c.mode == 3)) && !ltI c.ela 0 && !(ltI 0 c.ela && c.mode != 1) && (c.mode != 1 || (XE m c).op == 12)
def mayL (m : Mdl) (c : Cfg) : Bool := Wc m c && (Zfd c && (Qd c).all WP && XZ m c)

theorem Zsc (c : Cfg) {i : Nat} (h : i < (Qd c).length) : Zh 1 (List.drop (0 + 2 + ((i : Nat) : Int).toNat * 1) (cfgC c)) = some [.s (Qd c)[i]] := by
 match i, h with
 | 0, _ => rfl
 | 1, _ => rfl
 | 2, _ => rfl
 | 3, _ => rfl
 | 4, _ => rfl
 | 5, _ => rfl
 | 6, _ => rfl
 | 7, _ => rfl
 | 8, _ => rfl
 | 9, _ => rfl
 | n + 10, h => exact absurd h (by simp [Qd])

theorem Zod (m : Mdl) (c : Cfg) (bm : BdM m) (bc : BdC c) : PCon UY 24 [.agg (mdlC m), .agg (cfgC c)] (· = .b (mayL m c)) := by
 refine Zt UK (fn := Tryz.f24) (by kernel_rfl) (by kernel_rfl) rfl ?_
 refine Zp UK 130 (fun K => ZDc (row ZC m.ins) m.ins.length (row ZD m.ws) m.ws.length (row ZF m.ps) m.ps.length m.lat m.mat c.pc (row ZE c.vars) c.vars.length c.c0 c.c1 c.c2 c.c3 c.c4 c.c5 c.c6 c.c7 c.c8 c.c9 (row encI c.stack) c.stack.length c.mode c.err c.use c.tmo c.ela (row encI c.before) c.before.length (row encI c.after) c.after.length (row Zn c.sides) c.sides.length .empty K) rfl (by kernel_rfl) ?_
 have b1 := bm.ps
 have b2 := bc.sd
 have hg : (Heap.empty.push (.arr (cfgC c) true)).get 0 = some (.arr (cfgC c) true) := rfl
 generalize hH : Heap.empty.push (.arr (cfgC c) true) = H at hg
 have no : ∀ (so : List Nat) (vs : List V) (h : Heap), mayL m c = false → resV UY Tryz.f24 (so.zip vs) = some (.b false) → AtV so (FinS UY Tryz.f24 fun v h => ∃ r, Frz h v r ∧ r = .b (mayL m c)) .ret 130 vs h := fun so vs h hn hv => Zl (.inr rfl) hv ⟨_, .b _, by rw [hn]⟩
 generalize hP : PreV UY 130 [2, 3, 4, 5, 7, 11, 12, 16, 21] (post (flat (Za Tryz.f24))) (FinS UY Tryz.f24 fun v h => ∃ r, Frz h v r ∧ r = .b (mayL m c)) = P
 refine ⟨_, _, _, (Zo hg 20 1).trans rfl, Zd (fun h => ?_) (fun h => ⟨_, _, _, (Zo hg 1 1).trans rfl, _, Zqt c.vars (by have := bc.vr; omega) bc.vn, Zd (fun h1 => ?_) (fun h1 => ⟨_, _, _, (Zo hg 12 1).trans rfl, Zd (fun h2 => ?_) (fun h2 => ?_)⟩)⟩)⟩
 ·have h : ¬ c.sides.length = m.ps.length := by simp at h; omega
  subst hP; exact no _ _ _ (by unfold mayL Wc; rw [decide_eq_false h]; rfl) rfl
 ·have h1 : memL c.vars = false := by simpa using h1
  subst hP; exact no _ _ _ (by unfold mayL Zfd; rw [h1]; simp) rfl
 ·subst hP; exact no _ _ _ (by unfold mayL Zfd; rw [h2]; simp) rfl
 have hle : c.sides.length = m.ps.length := by simp at h; omega
 have h1 : memL c.vars = true := by simpa using h1
 have hd : Zfd c = true := by unfold Zfd; rw [h1, h2]; rfl
 subst hP
 refine ⟨rfl, ZK [2, 3, 5, 7, 11, 12, 16, 21] [2, 3, 4, 5, 7, 11, 12, 16, 21, 26] rfl (by kernel_rfl) (fun k vs h => ∃ (i : Nat) (v7 : Option (Nat × Nat)) (cs16 : List V) (n16 : Nat) (c16 : Option Nat) (v21 : Option (Nat × Nat)), vs = [.lb (mdlC m), .p (some (0, 0)), .i .i64 (i : Nat), .p v7, lst ZF m.ps, .i .i64 m.ps.length, .ts cs16 n16 c16, .p v21] ∧ i ≤ c.sides.length ∧ k = c.sides.length - i ∧ (List.range i).all (Zaw m c) = true ∧ h = H) c.sides.length Zu ⟨0, _, _, _, _, _, rfl, by omega, by omega, rfl, rfl⟩ ?_⟩
 rintro k vs h ⟨i, v7, cs16, n16, c16, v21, rfl, hi, rfl, hp, rfl⟩
 refine Zq UK (fun K => ZDd (row ZC m.ins) m.ins.length (row ZD m.ws) m.ws.length (row ZF m.ps) m.ps.length m.lat m.mat 0 v7 c16 cs16 n16 v21 (i : Nat) h K) rfl ?_
 refine ⟨_, _, _, (Zo hg 20 1).trans rfl, Zg (fun hlt => ?_) (fun hge => ?_)⟩
 ·have h2 : i < m.ps.length := by omega
  have ha := Zg0 hlt h2
  have bs := bc.sb _ (List.getElem_mem hlt)
  have bp := bm.pr _ (List.getElem_mem h2)
  have bs1 := bs.ag
  have bs2 := bs.ln
  have bs3 := bs.ty
  have no2 : Zaw m c i = false → mayL m c = false := fun hn => by unfold mayL; rw [Wc, Zbf hlt hn, Bool.and_false]; rfl
  refine ⟨_, _, _, (Zo hg 20 1).trans rfl, bnd_nat hlt, _, _, _, _, _, _, _, _, _, _, _, _, _, _, _,  by rw [Int.toNat_natCast]; exact Zr (f := Zn) (k := 11) (fun _ => rfl) hlt, bnd_nat h2, _, _, _, _, by rw [Int.toNat_natCast]; exact Zr (f := ZF) (k := 2) QV h2, _, Zds c.sides[i] m.ps[i].1 m.ps[i].2 bp.nm (by omega) (by omega) (by omega) (fun x hx => by have := bs.el x hx; omega), Zd (fun hc => no _ _ _ (no2 ?_) rfl) (fun hc => ⟨_, _, _, (Zo hg 20 1).trans rfl, bnd_nat hlt, c.sides[i].buffer, ?_, Zd (fun hd => no _ _ _ (no2 ?_) rfl) (fun hd => ?_)⟩)⟩
  ·have hc : Jd c.sides[i] m.ps[i].2.length m.ps[i].1 (Xm m.ps[i].1 m.ps[i].2) = false := by simpa using hc
   rw [ha, hc]; rfl
  ·rw [Int.toNat_natCast, Xg (f := Zn) (k := 11) (fun _ => rfl) c.sides hlt]; rfl
  ·rw [ha, hd]; simp
  ·have hc : Jd c.sides[i] m.ps[i].2.length m.ps[i].1 (Xm m.ps[i].1 m.ps[i].2) = true := by simpa using hc
   exact ⟨rfl, c.sides.length - (i + 1), by omega, i + 1, _, _, _, _, _, by rw [Zf (by omega)]; rfl, by omega, rfl, Xj hp (by rw [ha, hc, hd]; rfl), rfl⟩
 have hs : Wc m c = true := by
  have he : i = c.sides.length := by omega
  rw [he] at hp
  unfold Wc; rw [hp, decide_eq_true hle]; rfl
 have e : mayL m c = ((Qd c).all WP && XZ m c) := by unfold mayL; rw [hs, hd]; rfl
 rw [e] at no ⊢
 refine Ze [2, 3, 7, 11, 12, 16, 21, 26] (by kernel_rfl) rfl rfl ?_
 refine Zp UK 130 (fun K => ZDe (row ZC m.ins) m.ins.length (row ZD m.ws) m.ws.length (row ZF m.ps) m.ps.length m.lat m.mat 0 v7 c16 cs16 n16 v21 (i : Nat) h K) rfl (by kernel_rfl) ?_
 refine ⟨rfl, ZK [2, 3, 6, 7, 11, 12, 16, 21, 26] [2, 3, 4, 6, 7, 11, 12, 16, 21, 26] rfl (by kernel_rfl) (fun k vs h' => ∃ (j : Nat), vs = [.lb (mdlC m), .p (some (0, 0)), .i .i64 (j : Nat), .p v7, lst ZF m.ps, .i .i64 m.ps.length, .ts cs16 n16 c16, .p v21, .i .i64 (i : Nat)] ∧ j ≤ 10 ∧ k = 10 - j ∧ ((Qd c).take j).all WP = true ∧ h' = h) 10 Zu ⟨0, rfl, by omega, by omega, rfl, rfl⟩ ?_⟩
 rintro k vs h' ⟨j, rfl, hj, rfl, hq, rfl⟩
 refine Zq UK (fun K => ZDf (row ZC m.ins) m.ins.length (row ZD m.ws) m.ws.length (row ZF m.ps) m.ps.length m.lat m.mat 0 v7 c16 cs16 n16 v21 (i : Nat) (j : Nat) h' K) rfl ?_
 refine Zd (fun hlt => ?_) (fun hge => ?_)
 ·have hlt : j < 10 := by simp [ltI] at hlt; omega
  have hlt' : j < (Qd c).length := hlt
  refine ⟨⟨by omega, by omega⟩, _, (Zo hg _ _).trans (Zsc c hlt'), Zd (fun hc => no _ _ _ ?_ rfl) (fun hc => ?_)⟩
  ·rw [QT hlt' (by unfold WP; rw [hc]; rfl)]; rfl
  ·exact ⟨rfl, 10 - (j + 1), by omega, j + 1, by rw [Zf (by omega)]; rfl, by omega, rfl, Xo hlt' hq (by unfold WP; rw [hc]; rfl), rfl⟩
 ·have hge : j = 10 := by simp [ltI] at hge; omega
  subst hge
  have hq : (Qd c).all WP = true := hq
  rw [hq, Bool.true_and] at no ⊢
  refine Ze [2, 3, 7, 11, 12, 16, 21, 26] (by kernel_rfl) rfl rfl ?_
  refine ZB UK (fun K => ZDg (row ZC m.ins) m.ins.length (row ZD m.ws) m.ws.length (row ZF m.ps) m.ps.length m.lat m.mat 0 v7 c16 cs16 n16 v21 (i : Nat) h' K) rfl ?_
  have fin : ∀ x : Bool, x = XZ m c → Fin UY Tryz.f24 [4] (fun v h => ∃ r, Frz h v r ∧ r = .b (XZ m c)) .ret 130 [.b x] h' := fun x hx => Zs (.inr rfl) rfl (.b _) (by rw [hx])
  have L : ∀ o (n : Int), Zh 1 (List.drop o (cfgC c)) = some [.i .i64 n] → Zj h' 0 o 1 = some [.i .i64 n] := fun o n he => (Zo hg o 1).trans he
  refine ⟨c.use, L _ _ rfl, Zd (fun t1 => fin _ (by simp [XZ, t1])) (fun t1 => ⟨c.use, L _ _ rfl, Zd (fun t2 => fin _ (by simp [XZ, t2])) (fun t2 => ⟨c.tmo, L _ _ rfl, Zd (fun t3 => fin _ (by simp [XZ, t3])) (fun t3 => ⟨c.tmo, L _ _ rfl, Zd (fun t4 => fin _ (by simp [XZ, t4])) (fun t4 => ⟨c.mode, L _ _ rfl, Zd (fun t5 => fin _ (by simp [XZ, t5])) (fun t5 => ⟨c.mode, L _ _ rfl, Zd (fun t6 => fin _ (by simp [XZ, t6])) (fun t6 => ⟨c.err, L _ _ rfl, c.mode, L _ _ rfl, Zd (fun t7 => fin _ ?_) (fun t7 => ⟨c.ela, L _ _ rfl, Zd (fun t8 => fin _ (by simp [XZ, t8])) (fun t8 => ⟨c.ela, L _ _ rfl, Zd (fun t9 => ⟨c.mode, L _ _ rfl, Zd (fun u1 => fin _ (by simp [XZ, t9, u1])) (fun u1 => ⟨c.mode, L _ _ rfl, Zd (fun u2 => by rw [u2] at u1; cases u1) (fun u2 => ?_)⟩)⟩) (fun t9 => ⟨c.mode, L _ _ rfl, Zd (fun u2 => fin _ ?_) (fun u2 => ?_)⟩)⟩)⟩)⟩)⟩)⟩)⟩)⟩)⟩)⟩
  ·have t7 : ((c.err != 0) == (c.mode == 3)) = false := by simpa using t7
   simp only [XZ, t7, Bool.and_false, Bool.false_and]
  ·have t7 : ((c.err != 0) == (c.mode == 3)) = true := by simpa using t7
   refine ⟨_, _, _, _, _, _, _, _, _, _, _, _, _, _, _, _, _, _, _, _, _, _, _, _, _, _, _, _, _, _, _, (Zo hg 0 21).trans rfl, _, _, _, _, _, _, _, _, _, _, _, _, _, _, _, _, _, Zio m c, fin _ ?_⟩
   simp only [XZ, t1, t2, t3, t4, t5, t6, t7, t8, t9, u1, Bool.not_false, Bool.not_true, Bool.true_and, Bool.and_true, Bool.and_false, Bool.false_or]
  ·have t7 : ((c.err != 0) == (c.mode == 3)) = true := by simpa using t7
   simp only [XZ, t1, t2, t3, t4, t5, t6, t7, t8, t9, u2, Bool.not_false, Bool.not_true, Bool.true_and, Bool.and_true, Bool.false_and, Bool.true_or]
  ·have t7 : ((c.err != 0) == (c.mode == 3)) = true := by simpa using t7
   refine ⟨_, _, _, _, _, _, _, _, _, _, _, _, _, _, _, _, _, _, _, _, _, _, _, _, _, _, _, _, _, _, _, (Zo hg 0 21).trans rfl, _, _, _, _, _, _, _, _, _, _, _, _, _, _, _, _, _, Zio m c, fin _ ?_⟩
   simp only [XZ, t1, t2, t3, t4, t5, t6, t7, t8, t9, u2, Bool.not_false, Bool.not_true, Bool.true_and, Bool.and_true, Bool.false_and, Bool.and_false, Bool.false_or]
theorem Zzo (s : List UInt8) : PCon UY 174 [.s s] (· = .b (ltI 32 s.length)) :=
 Zz UK (fn := Tryz.f174) (by kernel_rfl) (by kernel_rfl) rfl (fun K => Zy0 s .empty K) rfl (Zs (.inr rfl) rfl (.b _) rfl)

theorem Zqv (c : Cfg) {h : Heap} {id : Nat} (hg : h.get id = some (.arr (cfgC c) true)) :
  Con UY 216 [.sl (some (id, 2)) 10 (some 10) 1, .fn (.func 174) [] []] h fun v h' => ∃ n : Int, v = .i .i64 n ∧ leI 0 n = !(Qd c).all WP ∧ h' = h := by
 refine ZL UK (fn := Tryz.f216) (by kernel_rfl) (by kernel_rfl) ?_
 refine Zp UK 19 (fun K => Zt8 id h K) rfl (by kernel_rfl) ?_
 refine ⟨rfl, ZK [0, 1, 7, 8] [0, 1, 4, 7, 8] rfl (by kernel_rfl) (fun m vs h' => ∃ i : Nat, vs = [.sl (some (id, 2)) 10 (some 10) 1, .fn (.func 174) [] [], .i .i64 10, .i .i64 (i : Nat)] ∧ i ≤ 10 ∧ ((Qd c).take i).all WP = true ∧ m = 10 - i ∧ h' = h) 10 Zu ⟨0, rfl, by omega, rfl, by omega, rfl⟩ ?_⟩
 rintro m vs h' ⟨i, rfl, hi, hq, rfl, rfl⟩
 refine Zq UK (fun K => Zt9 id 10 (i : Nat) h' K) rfl ?_
 refine Zd (fun hlt => ?_) (fun hge => ?_)
 ·have hlt : i < 10 := by simp [ltI] at hlt; omega
  have hlt' : i < (Qd c).length := hlt
  have hcut : Zj h' id (2 + ((i : Nat) : Int).toNat * 1) 1 = some [.s (Qd c)[i]] := by
   rw [Zo hg]
   have := Zsc c hlt'
   rwa [Nat.zero_add] at this
  refine ⟨⟨by omega, by omega⟩, rfl, _, hcut, _, Zzo _, Zd (fun hc => ?_) (fun hc => ?_)⟩
  ·refine Zl (.inr rfl) rfl (.now ⟨(i : Nat), rfl, ?_, rfl⟩)
   rw [QT hlt' (by unfold WP; rw [hc]; rfl)]; simp [leI]
  ·refine ⟨rfl, 10 - (i + 1), by omega, i + 1, by rw [Zf (by omega)]; rfl, by omega, Xo hlt' hq (by unfold WP; rw [hc]; rfl), rfl, rfl⟩
 ·have hge : i = 10 := by simp [ltI] at hge; omega
  subst hge
  refine Ze [] (by kernel_rfl) rfl rfl ?_
  refine ZB UK (fun K => Zua h' K) rfl ?_
  have hq : (Qd c).all WP = true := hq
  exact finC (.inr rfl) rfl (.now ⟨-1, rfl, by rw [hq]; rfl, rfl⟩)
theorem Ziq (c : Cfg) {h : Heap} {id : Nat} (hg : h.get id = some (.arr (cfgC c) true)) :
  Con UY 173 [.sl (some (id, 2)) 10 (some 10) 1, .fn (.func 174) [] []] h fun v h' => v = .b (!(Qd c).all WP) ∧ h' = h := by
 refine ZL UK (fn := Tryz.f173) (by kernel_rfl) (by kernel_rfl) ?_
 refine ZB UK (fun K => Zub id h K) rfl ?_
 refine (Zqv c hg).mono fun v h' ⟨n, e1, e2, e3⟩ => ⟨n, e1, ?_⟩
 subst e3
 rw [e2]
 exact finC (.inr rfl) rfl (.now ⟨rfl, rfl⟩)

def Zax (m : Mdl) (c : Cfg) : Bool := Zfd c && (Qd c).all WP && XZ m c
theorem Zqw (m : Mdl) (c : Cfg) (bc : BdC c) : PCon UY 128 [.agg (mdlC m), .agg (cfgC c)] (· = .b (Zax m c)) := by
 refine Zz UK (fn := Tryz.f128) (by kernel_rfl) (by kernel_rfl) rfl (fun K => Zzh (row ZC m.ins) m.ins.length (row ZD m.ws) m.ws.length (row ZF m.ps) m.ps.length m.lat m.mat c.pc (row ZE c.vars) c.vars.length c.c0 c.c1 c.c2 c.c3 c.c4 c.c5 c.c6 c.c7 c.c8 c.c9 (row encI c.stack) c.stack.length c.mode c.err c.use c.tmo c.ela (row encI c.before) c.before.length (row encI c.after) c.after.length (row Zn c.sides) c.sides.length .empty K) rfl ?_
 have hg : (Heap.empty.push (.arr (cfgC c) true)).get 0 = some (.arr (cfgC c) true) := rfl
 have fin : ∀ (h : Heap) (x : Bool), x = Zax m c → Fin UY Tryz.f128 [4] (fun v h => ∃ r, Frz h v r ∧ r = .b (Zax m c)) .ret 78 [.b x] h := fun h x hx => Zs (.inr rfl) rfl (.b _) (by rw [hx])
 have L : ∀ o (n : Int), Zh 1 (List.drop o (cfgC c)) = some [.i .i64 n] → Zj (Heap.empty.push (.arr (cfgC c) true)) 0 o 1 = some [.i .i64 n] := fun o n he => (Zo hg o 1).trans he
 refine ⟨_, _, _, (Zo hg 1 1).trans rfl, _, Zt7 c.vars (by have := bc.vr; omega), Zd (fun h1 => fin _ _ ?_) (fun h1 => ⟨_, _, _, (Zo hg 12 1).trans rfl, Zd (fun h2 => fin _ _ ?_) (fun h2 => ⟨⟨fun h => (by cases h), _, _, rfl, Nat.le_of_ble_eq_true rfl⟩, (Ziq c hg).mono fun v h' ⟨e1, e2⟩ => ⟨_, e1, ?_⟩⟩)⟩)⟩
 ·have h1 : memL c.vars = false := by simpa using h1
  simp [Zax, Zfd, h1]
 ·simp [Zax, Zfd, h2]
 subst e2
 have h1 : memL c.vars = true := by simpa using h1
 have e : Zax m c = ((Qd c).all WP && XZ m c) := by simp [Zax, Zfd, h1, h2]
 rw [e] at fin ⊢
 refine Zd (fun hc => fin _ _ ?_) (fun hc => ?_)
 ·have hc : (Qd c).all WP = false := by simpa using hc
  rw [hc]; rfl
 have hc : (Qd c).all WP = true := by simpa using hc
 rw [hc, Bool.true_and] at fin ⊢
 refine ⟨c.use, L _ _ rfl, Zd (fun t1 => fin _ _ (by simp [XZ, t1])) (fun t1 => ⟨c.use, L _ _ rfl, Zd (fun t2 => fin _ _ (by simp [XZ, t2])) (fun t2 => ⟨c.tmo, L _ _ rfl, Zd (fun t3 => fin _ _ (by simp [XZ, t3])) (fun t3 => ⟨c.tmo, L _ _ rfl, Zd (fun t4 => fin _ _ (by simp [XZ, t4])) (fun t4 => ⟨c.mode, L _ _ rfl, Zd (fun t5 => fin _ _ (by simp [XZ, t5])) (fun t5 => ⟨c.mode, L _ _ rfl, Zd (fun t6 => fin _ _ (by simp [XZ, t6])) (fun t6 => ⟨c.err, L _ _ rfl, c.mode, L _ _ rfl, Zd (fun t7 => fin _ _ ?_) (fun t7 => ⟨c.mode, L _ _ rfl, Zd (fun t8 => ⟨c.ela, L _ _ rfl, Zd (fun t9 => ?_) (fun t9 => fin _ _ ?_)⟩) (fun t8 => ⟨c.ela, L _ _ rfl, fin _ _ ?_⟩)⟩)⟩)⟩)⟩)⟩)⟩)⟩)⟩
 ·have t7 : ((c.err != 0) == (c.mode == 3)) = false := by simpa using t7
  simp only [XZ, t7, Bool.and_false, Bool.false_and]
 ·have t7 : ((c.err != 0) == (c.mode == 3)) = true := by simpa using t7
  have t8 : (c.mode != 1) = false := by simpa using t8
  have t9 : ltI c.ela 0 = false := by simp [leI, ltI] at t9 ⊢; omega
  refine ⟨_, _, _, _, _, _, _, _, _, _, _, _, _, _, _, _, _, _, _, _, _, _, _, _, _, _, _, _, _, _, _, (Zo hg 0 21).trans rfl, _, _, _, _, _, _, _, _, _, _, _, _, _, _, _, _, _, Zn7 m c, fin _ _ ?_⟩
  simp only [XZ, t1, t2, t3, t4, t5, t6, t7, t8, t9, Bool.not_false, Bool.not_true, Bool.true_and, Bool.and_true, Bool.false_and, Bool.and_false, Bool.false_or]
 ·have t9 : ltI c.ela 0 = true := by simp [leI, ltI] at t9 ⊢; omega
  simp only [XZ, t9, Bool.not_true, Bool.and_false, Bool.false_and]
 ·have t7 : ((c.err != 0) == (c.mode == 3)) = true := by simpa using t7
  have t8 : (c.mode != 1) = true := by simpa using t8
  simp only [XZ, t1, t2, t3, t4, t5, t6, t7, t8, Bool.not_false, Bool.not_true, Bool.true_and, Bool.and_true, Bool.true_or]
  simp only [ltI]
  rw [Bool.eq_iff_iff]
  simp
  omega

theorem Zoe (m : Mdl) (c : Cfg) (bm : BdM m) (bc : BdC c) : PCon UY 82 [.agg (mdlC m), .agg (cfgC c)] (· = .b (ZW m.ps m.lat m.mat && mayL m c)) := by
 refine Zz UK (fn := Tryz.f82) (by kernel_rfl) (by kernel_rfl) rfl (fun K => ZC4 (row ZC m.ins) m.ins.length (row ZD m.ws) m.ws.length (row ZF m.ps) m.ps.length m.lat m.mat c.pc (row ZE c.vars) c.vars.length c.c0 c.c1 c.c2 c.c3 c.c4 c.c5 c.c6 c.c7 c.c8 c.c9 (row encI c.stack) c.stack.length c.mode c.err c.use c.tmo c.ela (row encI c.before) c.before.length (row encI c.after) c.after.length (row Zn c.sides) c.sides.length .empty K) rfl ?_
 have e : mayL m c = (Wc m c && Zax m c) := rfl
 refine ⟨_, Zs7 m.ins m.ws m.ps m.lat m.mat, Zd (fun h1 => ⟨_, Zqu m c bm bc, Zd (fun h2 => ⟨_, Zqw m c bc, Zs (.inr rfl) rfl (.b _) ?_⟩) (fun h2 => Zs (.inr rfl) rfl (.b _) ?_)⟩) (fun h1 => Zs (.inr rfl) rfl (.b _) ?_)⟩
 ·rw [e, h1, h2]; rfl
 ·rw [e, h1, h2]; rfl
 ·rw [h1]; rfl
end Go.Y
