/- A configuration that waits, as fault sees it: by contracts. -/
import Derived.Test.YtkcgmnhojldoiaaGreatFC18
import Derived.Test.YtkcgmnhojldoiaaGreatFT4
import Derived.Test.YtkcgmnhojldoiaaGreatGAct2
namespace Go.Y
open Go.Proofs
set_option maxRecDepth 1000000
set_option maxHeartbeats 0
abbrev QB (m : Mdl) (c : Cfg) (L A : List Int) : List V := [lst ZC m.ins, lst ZD m.ws, lst ZF m.ps, .i .i64 m.lat, .i .i64 m.mat, .i .i64 c.pc, lst ZE c.vars, .s c.c0, .s c.c1, .s c.c2, .s c.c3, .s c.c4, .s c.c5, .s c.c6, .s c.c7, .s c.c8, .s c.c9, lst encI c.stack, .i .i64 c.mode, .i .i64 c.err, .i .i64 c.use, .i .i64 c.tmo, .i .i64 c.ela, lst encI c.before, lst encI c.after, lst Zn c.sides, lst encI L, lst encI A]
theorem Zq9 (h : Heap) (m : Mdl) (c : Cfg) (L A : List Int) : Frz h (.agg (QB m c L A)) (.agg (QB m c L A)) :=
 .agg _ _ (.cons _ _ _ _ (Qx _ _ _ _) (.cons _ _ _ _ (Qx _ _ _ _) (.cons _ _ _ _ (Qx _ _ _ _) (.cons _ _ _ _ (.i _ _) (.cons _ _ _ _ (.i _ _) (.cons _ _ _ _ (.i _ _) (.cons _ _ _ _ (Qx _ _ _ _)
  (.cons _ _ _ _ (.s _) (.cons _ _ _ _ (.s _) (.cons _ _ _ _ (.s _) (.cons _ _ _ _ (.s _) (.cons _ _ _ _ (.s _) (.cons _ _ _ _ (.s _) (.cons _ _ _ _ (.s _) (.cons _ _ _ _ (.s _) (.cons _ _ _ _ (.s _) (.cons _ _ _ _ (.s _)
  (.cons _ _ _ _ (Qx _ _ _ _) (.cons _ _ _ _ (.i _ _) (.cons _ _ _ _ (.i _ _) (.cons _ _ _ _ (.i _ _) (.cons _ _ _ _ (.i _ _) (.cons _ _ _ _ (.i _ _) (.cons _ _ _ _ (Qx _ _ _ _) (.cons _ _ _ _ (Qx _ _ _ _) (.cons _ _ _ _ (Qx _ _ _ _) (.cons _ _ _ _ (Qx _ _ _ _) (.cons _ _ _ _ (Qx _ _ _ _) .nil))))))))))))))))))))))))))))

theorem Zra (hs : XK UY.P 177) (hcm : ZU UY.P 178) (m : Mdl) (c : Cfg) (bm : BdM m) (bc : BdC c) : PCon UY 83 [.agg (mdlC m), .agg (cfgC c)] (· = .agg (QB m c (XY m c) (Xd m c))) := by
 refine Zz UK (fn := Tryz.f83) (by kernel_rfl) (by kernel_rfl) rfl (fun K => ZDi (row ZC m.ins) m.ins.length (row ZD m.ws) m.ws.length (row ZF m.ps) m.ps.length m.lat m.mat c.pc (row ZE c.vars) c.vars.length c.c0 c.c1 c.c2 c.c3 c.c4 c.c5 c.c6 c.c7 c.c8 c.c9 (row encI c.stack) c.stack.length c.mode c.err c.use c.tmo c.ela (row encI c.before) c.before.length (row encI c.after) c.after.length (row Zn c.sides) c.sides.length .empty K) rfl ?_
 have hl := Zcr bm bc
 exact ⟨_, _, _, Zj4 m c bm bc, _, _, _, Zhd hs hcm m.ins m.ws (XY m c) c.use (by omega), Zs (.inr rfl) rfl (Zq9 _ _ _ _ _) rfl⟩

theorem Zz3 (m : Mdl) (c : Cfg) (L A : List Int) (p : Int) (p0 : 0 ≤ p) (p1 : p < c.sides.length) : PCon UY 85 [.agg (QB m c L A), .i .i64 p] (· = .b (VH m c p)) := by
 refine Zz UK (fn := Tryz.f85) (by kernel_rfl) (by kernel_rfl) rfl (fun K => ZDj (row ZC m.ins) m.ins.length (row ZD m.ws) m.ws.length (row ZF m.ps) m.ps.length m.lat m.mat c.pc (row ZE c.vars) c.vars.length c.c0 c.c1 c.c2 c.c3 c.c4 c.c5 c.c6 c.c7 c.c8 c.c9 (row encI c.stack) c.stack.length c.mode c.err c.use c.tmo c.ela (row encI c.before) c.before.length (row encI c.after) c.after.length (row Zn c.sides) c.sides.length (row encI L) L.length (row encI A) A.length p .empty K) rfl ?_
 exact ⟨⟨p0, p1⟩, _, _, _, _, _, _, _, _, _, _, _, _, _, _, _,  (Zam c p0 p1).1, _, Zt3 (XA c p) m.mat, Zs (.inr rfl) rfl (.b _) rfl⟩
def Zlm (m : Mdl) (c : Cfg) (L : List Int) (p : Int) : Bool := (XA c p).eof && !Zav m.ws L p c.use
theorem Zz4 (hs : XK UY.P 177) (hcm : ZU UY.P 178) (m : Mdl) (c : Cfg) (L A : List Int) (hL : L.length < 2 ^ 26) (p : Int) (p0 : 0 ≤ p) (p1 : p < c.sides.length) : PCon UY 86 [.agg (QB m c L A), .i .i64 p] (· = .b (Zlm m c L p)) := by
 refine Zz UK (fn := Tryz.f86) (by kernel_rfl) (by kernel_rfl) rfl (fun K => ZDk (row ZC m.ins) m.ins.length (row ZD m.ws) m.ws.length (row ZF m.ps) m.ps.length m.lat m.mat c.pc (row ZE c.vars) c.vars.length c.c0 c.c1 c.c2 c.c3 c.c4 c.c5 c.c6 c.c7 c.c8 c.c9 (row encI c.stack) c.stack.length c.mode c.err c.use c.tmo c.ela (row encI c.before) c.before.length (row encI c.after) c.after.length (row Zn c.sides) c.sides.length (row encI L) L.length (row encI A) A.length p .empty K) rfl ?_
 refine ⟨⟨p0, p1⟩, _, Zj3 c p0 p1, Zd (fun h1 => ⟨_, Zow hs hcm m.ins m.ws L p c.use hL, Zs (.inr rfl) rfl (.b _) ?_⟩) (fun h1 => Zs (.inr rfl) rfl (.b _) ?_)⟩
 ·unfold Zlm; rw [h1]; rfl
 ·unfold Zlm; rw [h1]; rfl
theorem Zun (m : Mdl) (c : Cfg) (L A : List Int) (hm : m.mat < 2 ^ 40) (bc : BdC c) (p : Int) (p0 : 0 ≤ p) (p1 : p < c.sides.length) : PCon UY 132 [.agg (QB m c L A), .i .i64 p] (· = .b (Zag m c p)) := by
 refine Zz UK (fn := Tryz.f132) (by kernel_rfl) (by kernel_rfl) rfl (fun K => Zzq (row ZC m.ins) m.ins.length (row ZD m.ws) m.ws.length (row ZF m.ps) m.ps.length m.lat m.mat c.pc (row ZE c.vars) c.vars.length c.c0 c.c1 c.c2 c.c3 c.c4 c.c5 c.c6 c.c7 c.c8 c.c9 (row encI c.stack) c.stack.length c.mode c.err c.use c.tmo c.ela (row encI c.before) c.before.length (row encI c.after) c.after.length (row Zn c.sides) c.sides.length (row encI L) L.length (row encI A) A.length p .empty K) rfl ?_
 obtain ⟨h1, h2⟩ := Zam c p0 p1
 refine ⟨⟨p0, p1⟩, _, _, _, _, _, _, _, _, _, _, _, _, _, _, _,  h1, _, Zt4 (XA c p) m.mat hm (bc.bu _ h2), Zd (fun c1 => Zs (.inr rfl) rfl (.b _) ?_) (fun c1 => ⟨⟨p0, p1⟩, _, _, _, _, _, _, _, _, _, _, _, _, _, _, _,  h1, _, Zt2 (XA c p), Zs (.inr rfl) rfl (.b _) ?_⟩)⟩
 ·unfold Zag; rw [c1]; rfl
 ·unfold Zag; rw [c1]; rfl
theorem Zrb (m : Mdl) (c : Cfg) (L A : List Int) (bm : BdM m) (bc : BdC c) (i : Nat) (h1 : i < c.sides.length) (h2 : i < m.ps.length) : PCon UY 133 [.agg (QB m c L A), .i .i64 (i : Nat)] (· = .b (Jk m c i)) := by
 refine Zz UK (fn := Tryz.f133) (by kernel_rfl) (by kernel_rfl) rfl (fun K => Zzr (row ZC m.ins) m.ins.length (row ZD m.ws) m.ws.length (row ZF m.ps) m.ps.length m.lat m.mat c.pc (row ZE c.vars) c.vars.length c.c0 c.c1 c.c2 c.c3 c.c4 c.c5 c.c6 c.c7 c.c8 c.c9 (row encI c.stack) c.stack.length c.mode c.err c.use c.tmo c.ela (row encI c.before) c.before.length (row encI c.after) c.after.length (row Zn c.sides) c.sides.length (row encI L) L.length (row encI A) A.length (i : Nat) .empty K) rfl ?_
 have hst := Zj1 h1 h2
 have bs := bc.sb _ (List.getElem_mem h1)
 have bp := bm.pr _ (List.getElem_mem h2)
 have hrow : Zh 11 (List.drop (((i : Nat) : Int).toNat * 11) (row Zn c.sides)) = some (Zn c.sides[i]) := by rw [Int.toNat_natCast]; exact Zr (f := Zn) (k := 11) (fun _ => rfl) h1
 have hrp : Zh 2 (List.drop (((i : Nat) : Int).toNat * 2) (row ZF m.ps)) = some (ZF m.ps[i]) := by rw [Int.toNat_natCast]; exact Zr (f := ZF) (k := 2) QV h2
 rw [hst]
 refine ⟨bnd_nat h1, _, _, _, _, _, _, _, _, _, _, _, _, _, _, _,  hrow, bnd_nat h2, _, _, _, _, hrp, Zd (fun c1 => Zs (.inr rfl) rfl (.b _) (by rw [c1]; rfl)) (fun c1 => ⟨_, _, _, Zn4 c.sides[i] m.ps[i].1 m.ps[i].2 bs bp.ed, Zd (fun c2 => Zs (.inr rfl) rfl (.b _) (by rw [c1, c2]; rfl)) (fun c2 => ⟨_, Zlc c.sides[i] m.ps[i].1 m.ps[i].2 bs bp.ed, Zs (.inr rfl) rfl (.b _) (by rw [c1, c2]; rfl)⟩)⟩)⟩

theorem Zrc (m : Mdl) (c : Cfg) (L A : List Int) (so : Int → Bool) (hA : A.length < 2 ^ 28) (h0 : ∀ p ∈ A, 0 ≤ p) (hso : ∀ p : Int, 0 ≤ p → p < c.sides.length → PCon UY 85 [.agg (QB m c L A), .i .i64 p] (· = .b (so p))) (h : Heap) :
  Con UY 84 [.agg (QB m c L A), .fn (.func 85) [.agg (QB m c L A)] []] h fun v h' => v = .i .i64 (Xl A c.sides.length so) ∧ h' = h := by
 refine ZL UK (fn := Tryz.f84) (by kernel_rfl) (by kernel_rfl) ?_
 refine Zp UK 27 (fun K => Zy8 (row ZC m.ins) m.ins.length (row ZD m.ws) m.ws.length (row ZF m.ps) m.ps.length m.lat m.mat c.pc (row ZE c.vars) c.vars.length c.c0 c.c1 c.c2 c.c3 c.c4 c.c5 c.c6 c.c7 c.c8 c.c9 (row encI c.stack) c.stack.length c.mode c.err c.use c.tmo c.ela (row encI c.before) c.before.length (row encI c.after) c.after.length (row Zn c.sides) c.sides.length (row encI L) L.length (row encI A) A.length h K) rfl (by kernel_rfl) ?_
 refine ⟨rfl, ZK [1, 2, 8, 9, 10] [1, 2, 4, 8, 9, 10] rfl (by kernel_rfl) (fun k vs h' => ∃ (i : Nat), vs = [.fn (.func 85) [.agg (QB m c L A)] [], .lb (QB m c L A), lst encI A, .i .i64 A.length, .i .i64 (i : Nat)] ∧ i ≤ A.length ∧ k = A.length - i ∧ (A.take i).any (fun p => ltI p c.sides.length && so p) = false ∧ h' = h) A.length Zu ⟨0, rfl, by omega, by omega, rfl, rfl⟩ ?_⟩
 rintro k vs h' ⟨i, rfl, hi, rfl, hno, rfl⟩
 refine Zq UK (fun K => Zy9 (row ZC m.ins) m.ins.length (row ZD m.ws) m.ws.length (row ZF m.ps) m.ps.length m.lat m.mat c.pc (row ZE c.vars) c.vars.length c.c0 c.c1 c.c2 c.c3 c.c4 c.c5 c.c6 c.c7 c.c8 c.c9 (row encI c.stack) c.stack.length c.mode c.err c.use c.tmo c.ela (row encI c.before) c.before.length (row encI c.after) c.after.length (row Zn c.sides) c.sides.length (row encI L) L.length (row encI A) A.length (i : Nat) h' K) rfl ?_
 refine Zg (fun hlt => ?_) (fun hge => ?_)
 ·have hT : (A.take (i + 1)).any (fun p => ltI p c.sides.length && so p) = ((A.take i).any (fun p => ltI p c.sides.length && so p) || (ltI A[i] c.sides.length && so A[i])) := by
   rw [List.take_succ_eq_append_getElem hlt, List.any_append]; simp
  have p0 := h0 _ (List.getElem_mem hlt)
  refine ⟨bnd_nat hlt, _, Xw A hlt, Zd (fun c1 => ⟨_, hso A[i] p0 (by simpa [ltI] using c1), Zd (fun c2 => ?_) (fun c2 => ?_)⟩) (fun c1 => ?_)⟩
  ·exact Zl (.inr rfl) rfl (.now ⟨by rw [Wy hlt hno (by rw [c1, c2]; rfl)]; rfl, rfl⟩)
  ·exact ⟨rfl, A.length - (i + 1), by omega, i + 1, by rw [Zf (by omega)]; rfl, by omega, rfl, by rw [hT, hno, c1, c2]; rfl, rfl⟩
  ·exact ⟨rfl, A.length - (i + 1), by omega, i + 1, by rw [Zf (by omega)]; rfl, by omega, rfl, by rw [hT, hno, c1]; rfl, rfl⟩
 ·refine Ze [] (by kernel_rfl) rfl rfl ?_
  refine ZB UK (fun K => Zza h' K) rfl ?_
  rw [List.take_of_length_le hge] at hno
  exact finC (.inr rfl) rfl (.now ⟨by rw [JH hno]; rfl, rfl⟩)

theorem Zrd (m : Mdl) (c : Cfg) (L A : List Int) (so : Int → Bool) (hA : A.length < 2 ^ 28) (h0 : ∀ p ∈ A, 0 ≤ p) (hso : ∀ p : Int, 0 ≤ p → p < c.sides.length → PCon UY 86 [.agg (QB m c L A), .i .i64 p] (· = .b (so p))) (h : Heap) :
  Con UY 84 [.agg (QB m c L A), .fn (.func 86) [.agg (QB m c L A)] []] h fun v h' => v = .i .i64 (Xl A c.sides.length so) ∧ h' = h := by
 refine ZL UK (fn := Tryz.f84) (by kernel_rfl) (by kernel_rfl) ?_
 refine Zp UK 27 (fun K => Zzb (row ZC m.ins) m.ins.length (row ZD m.ws) m.ws.length (row ZF m.ps) m.ps.length m.lat m.mat c.pc (row ZE c.vars) c.vars.length c.c0 c.c1 c.c2 c.c3 c.c4 c.c5 c.c6 c.c7 c.c8 c.c9 (row encI c.stack) c.stack.length c.mode c.err c.use c.tmo c.ela (row encI c.before) c.before.length (row encI c.after) c.after.length (row Zn c.sides) c.sides.length (row encI L) L.length (row encI A) A.length h K) rfl (by kernel_rfl) ?_
 refine ⟨rfl, ZK [1, 2, 8, 9, 10] [1, 2, 4, 8, 9, 10] rfl (by kernel_rfl) (fun k vs h' => ∃ (i : Nat), vs = [.fn (.func 86) [.agg (QB m c L A)] [], .lb (QB m c L A), lst encI A, .i .i64 A.length, .i .i64 (i : Nat)] ∧ i ≤ A.length ∧ k = A.length - i ∧ (A.take i).any (fun p => ltI p c.sides.length && so p) = false ∧ h' = h) A.length Zu ⟨0, rfl, by omega, by omega, rfl, rfl⟩ ?_⟩
 rintro k vs h' ⟨i, rfl, hi, rfl, hno, rfl⟩
 refine Zq UK (fun K => Zzc (row ZC m.ins) m.ins.length (row ZD m.ws) m.ws.length (row ZF m.ps) m.ps.length m.lat m.mat c.pc (row ZE c.vars) c.vars.length c.c0 c.c1 c.c2 c.c3 c.c4 c.c5 c.c6 c.c7 c.c8 c.c9 (row encI c.stack) c.stack.length c.mode c.err c.use c.tmo c.ela (row encI c.before) c.before.length (row encI c.after) c.after.length (row Zn c.sides) c.sides.length (row encI L) L.length (row encI A) A.length (i : Nat) h' K) rfl ?_
 refine Zg (fun hlt => ?_) (fun hge => ?_)
 ·have hT : (A.take (i + 1)).any (fun p => ltI p c.sides.length && so p) = ((A.take i).any (fun p => ltI p c.sides.length && so p) || (ltI A[i] c.sides.length && so A[i])) := by
   rw [List.take_succ_eq_append_getElem hlt, List.any_append]; simp
  have p0 := h0 _ (List.getElem_mem hlt)
  refine ⟨bnd_nat hlt, _, Xw A hlt, Zd (fun c1 => ⟨_, hso A[i] p0 (by simpa [ltI] using c1), Zd (fun c2 => ?_) (fun c2 => ?_)⟩) (fun c1 => ?_)⟩
  ·exact Zl (.inr rfl) rfl (.now ⟨by rw [Wy hlt hno (by rw [c1, c2]; rfl)]; rfl, rfl⟩)
  ·exact ⟨rfl, A.length - (i + 1), by omega, i + 1, by rw [Zf (by omega)]; rfl, by omega, rfl, by rw [hT, hno, c1, c2]; rfl, rfl⟩
  ·exact ⟨rfl, A.length - (i + 1), by omega, i + 1, by rw [Zf (by omega)]; rfl, by omega, rfl, by rw [hT, hno, c1]; rfl, rfl⟩
 ·refine Ze [] (by kernel_rfl) rfl rfl ?_
  refine ZB UK (fun K => Zzd h' K) rfl ?_
  rw [List.take_of_length_le hge] at hno
  exact finC (.inr rfl) rfl (.now ⟨by rw [JH hno]; rfl, rfl⟩)

theorem Zre (m : Mdl) (c : Cfg) (L A : List Int) (so : Int → Bool) (hA : A.length < 2 ^ 28) (h0 : ∀ p ∈ A, 0 ≤ p) (hso : ∀ p : Int, 0 ≤ p → p < c.sides.length → PCon UY 132 [.agg (QB m c L A), .i .i64 p] (· = .b (so p))) (h : Heap) :
  Con UY 84 [.agg (QB m c L A), .fn (.func 132) [.agg (QB m c L A)] []] h fun v h' => v = .i .i64 (Xl A c.sides.length so) ∧ h' = h := by
 refine ZL UK (fn := Tryz.f84) (by kernel_rfl) (by kernel_rfl) ?_
 refine Zp UK 27 (fun K => Zze (row ZC m.ins) m.ins.length (row ZD m.ws) m.ws.length (row ZF m.ps) m.ps.length m.lat m.mat c.pc (row ZE c.vars) c.vars.length c.c0 c.c1 c.c2 c.c3 c.c4 c.c5 c.c6 c.c7 c.c8 c.c9 (row encI c.stack) c.stack.length c.mode c.err c.use c.tmo c.ela (row encI c.before) c.before.length (row encI c.after) c.after.length (row Zn c.sides) c.sides.length (row encI L) L.length (row encI A) A.length h K) rfl (by kernel_rfl) ?_
 refine ⟨rfl, ZK [1, 2, 8, 9, 10] [1, 2, 4, 8, 9, 10] rfl (by kernel_rfl) (fun k vs h' => ∃ (i : Nat), vs = [.fn (.func 132) [.agg (QB m c L A)] [], .lb (QB m c L A), lst encI A, .i .i64 A.length, .i .i64 (i : Nat)] ∧ i ≤ A.length ∧ k = A.length - i ∧ (A.take i).any (fun p => ltI p c.sides.length && so p) = false ∧ h' = h) A.length Zu ⟨0, rfl, by omega, by omega, rfl, rfl⟩ ?_⟩
 rintro k vs h' ⟨i, rfl, hi, rfl, hno, rfl⟩
 refine Zq UK (fun K => Zzf (row ZC m.ins) m.ins.length (row ZD m.ws) m.ws.length (row ZF m.ps) m.ps.length m.lat m.mat c.pc (row ZE c.vars) c.vars.length c.c0 c.c1 c.c2 c.c3 c.c4 c.c5 c.c6 c.c7 c.c8 c.c9 (row encI c.stack) c.stack.length c.mode c.err c.use c.tmo c.ela (row encI c.before) c.before.length (row encI c.after) c.after.length (row Zn c.sides) c.sides.length (row encI L) L.length (row encI A) A.length (i : Nat) h' K) rfl ?_
 refine Zg (fun hlt => ?_) (fun hge => ?_)
 ·have hT : (A.take (i + 1)).any (fun p => ltI p c.sides.length && so p) = ((A.take i).any (fun p => ltI p c.sides.length && so p) || (ltI A[i] c.sides.length && so A[i])) := by
   rw [List.take_succ_eq_append_getElem hlt, List.any_append]; simp
  have p0 := h0 _ (List.getElem_mem hlt)
  refine ⟨bnd_nat hlt, _, Xw A hlt, Zd (fun c1 => ⟨_, hso A[i] p0 (by simpa [ltI] using c1), Zd (fun c2 => ?_) (fun c2 => ?_)⟩) (fun c1 => ?_)⟩
  ·exact Zl (.inr rfl) rfl (.now ⟨by rw [Wy hlt hno (by rw [c1, c2]; rfl)]; rfl, rfl⟩)
  ·exact ⟨rfl, A.length - (i + 1), by omega, i + 1, by rw [Zf (by omega)]; rfl, by omega, rfl, by rw [hT, hno, c1, c2]; rfl, rfl⟩
  ·exact ⟨rfl, A.length - (i + 1), by omega, i + 1, by rw [Zf (by omega)]; rfl, by omega, rfl, by rw [hT, hno, c1]; rfl, rfl⟩
 ·refine Ze [] (by kernel_rfl) rfl rfl ?_
  refine ZB UK (fun K => Zzg h' K) rfl ?_
  rw [List.take_of_length_le hge] at hno
  exact finC (.inr rfl) rfl (.now ⟨by rw [JH hno]; rfl, rfl⟩)

/-! ### dead -/
def Zhf (m : Mdl) (c : Cfg) (A : List Int) : Bool := ltI c.tmo 0 && ltI (Xl A c.sides.length (Zag m c)) 0 && !(List.range c.sides.length).any (Jk m c)
theorem Zz5 (m : Mdl) (c : Cfg) (L A : List Int) (bm : BdM m) (bc : BdC c) (hm : m.mat < 2 ^ 40) (hn : c.sides.length = m.ps.length) (hA : A.length < 2 ^ 28) (h0 : ∀ p ∈ A, 0 ≤ p) : PCon UY 87 [.agg (QB m c L A)] (· = .b (Zhf m c A)) := by
 refine Zt UK (fn := Tryz.f87) (by kernel_rfl) (by kernel_rfl) rfl ?_
 refine Zp UK 26 (fun K => ZDl (row ZC m.ins) m.ins.length (row ZD m.ws) m.ws.length (row ZF m.ps) m.ps.length m.lat m.mat c.pc (row ZE c.vars) c.vars.length c.c0 c.c1 c.c2 c.c3 c.c4 c.c5 c.c6 c.c7 c.c8 c.c9 (row encI c.stack) c.stack.length c.mode c.err c.use c.tmo c.ela (row encI c.before) c.before.length (row encI c.after) c.after.length (row Zn c.sides) c.sides.length (row encI L) L.length (row encI A) A.length .empty K) rfl (by kernel_rfl) ?_
 have hsd := bc.sd
 refine Zd (fun c0 => Zl (.inr rfl) (v := .b false) rfl ⟨_, .b _, ?_⟩) (fun c0 => (Zre m c L A (Zag m c) hA h0 (fun p => Zun m c L A hm bc p) .empty).mono fun v h' ⟨e1, e2⟩ => ⟨_, e1, Zd (fun c1 => Zl (.inr rfl) (v := .b false) rfl ⟨_, .b _, ?_⟩) (fun c1 => ⟨rfl, ?_⟩)⟩)
 ·have : ltI c.tmo 0 = false := by simp [leI, ltI] at c0 ⊢; omega
  unfold Zhf; rw [this]; rfl
 ·have : ltI (Xl A c.sides.length (Zag m c)) 0 = false := by simp [leI, ltI] at c1 ⊢; omega
  unfold Zhf; rw [this, Bool.and_false]; rfl
 have c0 : ltI c.tmo 0 = true := by simp [leI, ltI] at c0 ⊢; omega
 have c1 : ltI (Xl A c.sides.length (Zag m c)) 0 = true := by simp [leI, ltI] at c1 ⊢; omega
 have hd : Zhf m c A = !(List.range c.sides.length).any (Jk m c) := by unfold Zhf; rw [c0, c1]; rfl
 rw [hd]
 subst e2
 refine ZK [1, 18, 19] [1, 2, 18, 19] rfl (by kernel_rfl) (fun k vs _ => ∃ (i : Nat), vs = [.lb (QB m c L A), .i .i64 c.sides.length, .i .i64 (i : Nat)] ∧ i ≤ c.sides.length ∧ k = c.sides.length - i ∧ (List.range i).any (Jk m c) = false) c.sides.length Zu ⟨0, rfl, by omega, by omega, rfl⟩ ?_
 rintro k vs h ⟨i, rfl, hi, rfl, hno⟩
 refine Zq UK (fun K => ZDm (row ZC m.ins) m.ins.length (row ZD m.ws) m.ws.length (row ZF m.ps) m.ps.length m.lat m.mat c.pc (row ZE c.vars) c.vars.length c.c0 c.c1 c.c2 c.c3 c.c4 c.c5 c.c6 c.c7 c.c8 c.c9 (row encI c.stack) c.stack.length c.mode c.err c.use c.tmo c.ela (row encI c.before) c.before.length (row encI c.after) c.after.length (row Zn c.sides) c.sides.length (row encI L) L.length (row encI A) A.length (i : Nat) h K) rfl ?_
 refine Zg (fun hlt => ?_) (fun hge => ?_)
 ·refine ⟨_, Zrb m c L A bm bc i hlt (by omega), Zd (fun c2 => ?_) (fun c2 => ?_)⟩
  ·exact Zl (.inr rfl) rfl ⟨_, .b _, by rw [Zj0 hlt c2]; rfl⟩
  ·exact ⟨rfl, c.sides.length - (i + 1), by omega, i + 1, by rw [Zf (by omega)]; rfl, by omega, rfl, Zg8 hno c2⟩
 ·refine Ze [] (by kernel_rfl) rfl rfl ?_
  refine ZB UK (fun K => ZDn h K) rfl ?_
  have he : i = c.sides.length := by omega
  rw [he] at hno
  exact Zs (.inr rfl) rfl (.b _) (by rw [hno]; rfl)
theorem Zox {l : List Int} {n : Nat} {so : Int → Bool} (h0 : ∀ p ∈ l, 0 ≤ p) : ltI (Xl l n so) 0 = !l.any (fun p => ltI p n && so p) := by
 unfold Xl
 cases h : l.find? (fun p => ltI p n && so p) with
 | none =>
  have : l.any (fun p => ltI p n && so p) = false := by
   rw [List.any_eq_false]; intro x hx hp
   have := List.find?_eq_none.1 h x hx
   exact this hp
  rw [this]; rfl
 | some p =>
  have h1 := List.mem_of_find?_eq_some h
  have h2 := List.find?_some h
  have h3 : l.any (fun p => ltI p n && so p) = true := List.any_eq_true.2 ⟨p, h1, h2⟩
  have := h0 p h1
  rw [h3]; simp [ltI]; omega
theorem Zz6 (l : List Nat) (f g : Nat → Bool) : l.any (fun i => f i || g i) = (l.any f || l.any g) := by
 induction l with
 | nil => rfl
 | cons a l ih => simp only [List.any_cons, ih]; cases f a <;> cases g a <;> simp
theorem Zrf (m : Mdl) (c : Cfg) : (List.range c.sides.length).any (fun i => Zan m c (i : Nat)) = (Xd m c).any (fun p => ltI p c.sides.length && Zag m c p) := by
 have h0 := Zct m c
 rw [Bool.eq_iff_iff, List.any_eq_true, List.any_eq_true]
 constructor
 ·rintro ⟨i, hi, h⟩
  unfold Zan at h
  simp only [Bool.and_eq_true] at h
  exact ⟨(i : Nat), by simpa using h.1.1, by rw [h.1.2, h.2]; rfl⟩
 ·rintro ⟨p, hp, h⟩
  have p0 := h0 p hp
  simp only [Bool.and_eq_true] at h
  have hlt : p < c.sides.length := by simpa [ltI] using h.1
  refine ⟨p.toNat, List.mem_range.2 (by omega), ?_⟩
  have e : ((p.toNat : Nat) : Int) = p := by omega
  unfold Zan
  rw [e, h.1, h.2]
  simpa using hp
theorem Zoy (m : Mdl) (c : Cfg) : Zhf m c (Xd m c) = Zg7 m c := by
 unfold Zhf Zg7
 rw [Zz6, Zrf, Zox (Zct m c)]
 cases ltI c.tmo 0 <;> cases (Xd m c).any (fun p => ltI p c.sides.length && Zag m c p) <;> simp

theorem Zsd (hs : XK UY.P 177) (hcm : ZU UY.P 178) (m : Mdl) (c : Cfg) (bm : BdM m) (bc : BdC c) : PCon UY 39 [.agg (mdlC m), .agg (cfgC c)] (· = .tup [.i .i64 (XD m c).1, .i .i64 (XD m c).2]) := by
 refine Zz UK (fn := Tryz.f39) (by kernel_rfl) (by kernel_rfl) rfl (fun K => ZDh (row ZC m.ins) m.ins.length (row ZD m.ws) m.ws.length (row ZF m.ps) m.ps.length m.lat m.mat c.pc (row ZE c.vars) c.vars.length c.c0 c.c1 c.c2 c.c3 c.c4 c.c5 c.c6 c.c7 c.c8 c.c9 (row encI c.stack) c.stack.length c.mode c.err c.use c.tmo c.ela (row encI c.before) c.before.length (row encI c.after) c.after.length (row Zn c.sides) c.sides.length .empty K) rfl ?_
 have out : ∀ (h : Heap) (a b : Int), XD m c = (a, b) → Fin UY Tryz.f39 [4, 5] (fun v h => ∃ r, Frz h v r ∧ r = .tup [.i .i64 (XD m c).1, .i .i64 (XD m c).2]) .ret 41 [.i .i64 a, .i .i64 b] h := fun h a b he => Zh8 (.inr rfl) rfl (.i _ _) (.i _ _) (by rw [he])
 refine ⟨_, Zoe m c bm bc, Zd (fun h => out _ _ _ ?_) (fun h => Zd (fun h2 => out _ _ _ ?_) (fun h2 => Zd (fun h3 => out _ _ _ ?_) (fun h3 => ?_)))⟩
 ·have h : (ZW m.ps m.lat m.mat && mayL m c) = false := (Bool.not_eq_true' _).mp h
  unfold XD; rw [if_pos h]
 ·have h : ¬ (ZW m.ps m.lat m.mat && mayL m c) = false := by simpa using h
  have h2 : c.mode = 3 := by simpa using h2
  unfold XD; rw [if_neg h, if_pos h2]
 ·have h : ¬ (ZW m.ps m.lat m.mat && mayL m c) = false := by simpa using h
  have h2 : ¬ c.mode = 3 := by simpa using h2
  have h3 : c.mode ≠ 1 := by simpa using h3
  unfold XD; rw [if_neg h, if_neg h2, if_pos h3]
 have hb : ZW m.ps m.lat m.mat = true ∧ mayL m c = true := by simpa using h
 have h : ¬ (ZW m.ps m.lat m.mat && mayL m c) = false := by simpa using h
 have h2 : ¬ c.mode = 3 := by simpa using h2
 have h3 : ¬ c.mode ≠ 1 := by simpa using h3
 have hmat := Zd5 hb.1
 have hlen := Zd4 hb.2
 have hA0 := Zct m c
 have hAl := Zcu bm bc
 have hLl := Zcr bm bc
 have hf : XD m c = if 0 ≤ Xl (Xd m c) c.sides.length (VH m c) then (2, Xl (Xd m c) c.sides.length (VH m c)) else
   if 0 ≤ Xl (Xd m c) c.sides.length (Zlm m c (XY m c)) then (3, Xl (Xd m c) c.sides.length (Zlm m c (XY m c))) else if Zhf m c (Xd m c) then (1, -1) else (0, -1) := by
  rw [Zoy]
  conv => lhs; unfold XD
  rw [if_neg h, if_neg h2, if_neg h3]
  rfl
 have hlook := Zra hs hcm m c bm bc
 generalize Xd m c = A at hA0 hAl hf hlook
 generalize XY m c = L at hLl hf hlook
 refine ⟨_, _, _, _, _, _, _, _, _, _, _, _, _, _, _, _, _, _, _, _, _, _, _, _, _, _, _, _, _, _, _, _, _, _, _, _, _, _, _, _, _, _, _, _, _, _, _, _,  hlook, (Zrc m c L A (VH m c) (by omega) hA0 (fun p => Zz3 m c L A p) .empty).mono fun v h' ⟨e1, e2⟩ => ⟨_, e1, Qz (fun c1 => out _ _ _ (by rw [hf, if_pos c1])) (fun c1 => (Zrd m c L A (Zlm m c L) (by omega) hA0 (fun p => Zz4 hs hcm m c L A (by omega) p) h').mono fun v2 h2' ⟨e3, e4⟩ => ⟨_, e3, Qz (fun c2 => out _ _ _ (by rw [hf, if_neg (by omega), if_pos c2])) (fun c2 => ⟨_, Zz5 m c L A bm bc hmat hlen (by omega) hA0, Zd (fun c3 => out _ _ _ (by rw [hf, if_neg (by omega), if_neg (by omega), if_pos c3])) (fun c3 => out _ _ _ (by rw [hf, if_neg (by omega), if_neg (by omega), if_neg (by rw [c3]; decide)]))⟩)⟩)⟩⟩

theorem of12 (hs : XK UY.P 177) (hcm : ZU UY.P 178) (m : Mdl) (c : Cfg) (bm : BdM m) (bc : BdC c) : PCon UY 12 [.agg (mdlC m), .agg (cfgC c)] (· = .i .i64 (XD m c).1) :=
 Zz UK (fn := Tryz.f12) (by kernel_rfl) (by kernel_rfl) rfl (fun K => ZDp (row ZC m.ins) m.ins.length (row ZD m.ws) m.ws.length (row ZF m.ps) m.ps.length m.lat m.mat c.pc (row ZE c.vars) c.vars.length c.c0 c.c1 c.c2 c.c3 c.c4 c.c5 c.c6 c.c7 c.c8 c.c9 (row encI c.stack) c.stack.length c.mode c.err c.use c.tmo c.ela (row encI c.before) c.before.length (row encI c.after) c.after.length (row Zn c.sides) c.sides.length .empty K) rfl ⟨_, _, Zsd hs hcm m c bm bc, Zs (.inr rfl) rfl (.i _ _) rfl⟩

def WT (m : Mdl) (c : Cfg) : Int × Int := if (XD m c).1 = 0 then (-1, -1) else ((XD m c).2, atL m c)
theorem Zoz (hs : XK UY.P 177) (hcm : ZU UY.P 178) (m : Mdl) (c : Cfg) (bm : BdM m) (bc : BdC c) : PCon UY 11 [.agg (mdlC m), .agg (cfgC c)] (· = .tup [.i .i64 (WT m c).1, .i .i64 (WT m c).2]) := by
 refine Zz UK (fn := Tryz.f11) (by kernel_rfl) (by kernel_rfl) rfl (fun K => ZDo (row ZC m.ins) m.ins.length (row ZD m.ws) m.ws.length (row ZF m.ps) m.ps.length m.lat m.mat c.pc (row ZE c.vars) c.vars.length c.c0 c.c1 c.c2 c.c3 c.c4 c.c5 c.c6 c.c7 c.c8 c.c9 (row encI c.stack) c.stack.length c.mode c.err c.use c.tmo c.ela (row encI c.before) c.before.length (row encI c.after) c.after.length (row Zn c.sides) c.sides.length .empty K) rfl ?_
 refine ⟨_, _, Zsd hs hcm m c bm bc, Zd (fun h => Zh8 (.inr rfl) rfl (.i _ _) (.i _ _) ?_) (fun h => ?_)⟩
 ·have h : (XD m c).1 = 0 := by simpa using h
  unfold WT; rw [if_pos h]
 have h : ¬ (XD m c).1 = 0 := by simpa using h
 have hR := Zj4 m c bm bc
 have fin : ∀ x : Int, x = atL m c → Fin UY Tryz.f11 [4, 5] (fun v h => ∃ r, Frz h v r ∧ r = .tup [.i .i64 (WT m c).1, .i .i64 (WT m c).2]) .ret 50 [.i .i64 (XD m c).2, .i .i64 x] .empty := fun x hx => Zh8 (.inr rfl) rfl (.i _ _) (.i _ _) (by unfold WT; rw [if_neg h, hx])
 have ha : atL m c = (match XY m c with
  | [] => -1
  | k :: _ => if k < 0 then -1 else match m.ws[k.toNat]? with
   | some w => w.at'
   | none => -1) := rfl
 rw [ha] at fin
 generalize XY m c = L at hR fin
 refine ⟨_, _, _, hR, ?_⟩
 cases L with
 | nil => exact Zd (fun _ => fin _ rfl) (fun h => by cases h)
 | cons k L =>
  refine Zd (fun h => by simp at h; omega) (fun _ => ⟨⟨by omega, by simp⟩, k, rfl, Zw (fun h => fin _ (by simp [h])) (fun h0 => ⟨⟨by omega, by simp⟩, k, rfl, Qz (fun h1 => fin _ ?_) (fun h1 => ⟨⟨by omega, by simp⟩, k, rfl, ⟨h0, h1⟩, (m.ws[k.toNat]'(by omega)).at', ?_, fin _ ?_⟩)⟩)⟩)
  ·simp only; rw [if_neg (by omega), List.getElem?_eq_none (by omega)]
  ·rw [Xg QU m.ws (by omega)]; rfl
  ·simp only; rw [if_neg (by omega), List.getElem?_eq_getElem (by omega)]

theorem Zln {m : Mdl} {c : Cfg} (h : (XD m c).1 = 0) : (XD m c).2 = -1 := by
 unfold XD at h ⊢
 split
 ·rfl
 ·split
  ·rfl
  ·split
   ·rfl
   ·rename_i h1 h2 h3
    rw [if_neg h1, if_neg h2, if_neg h3] at h
    split
    ·rename_i h4; rw [if_pos h4] at h; cases h
    ·rename_i h4; rw [if_neg h4] at h
     split
     ·rename_i h5; rw [if_pos h5] at h; cases h
     ·rename_i h5; rw [if_neg h5] at h
      split <;> rfl
theorem Zo0 (m : Mdl) (c : Cfg) : 0 ≤ (XD m c).1 := by
 unfold XD
 repeat' split
 all_goals simp
theorem ZDy (hs : XK UY.P 177) (hcm : ZU UY.P 178) (m : Mdl) (c : Cfg) (bm : BdM m) (bc : BdC c) : PCon UY 7 [.agg (mdlC m), .agg (cfgC c)] (· = .b true) := by
 refine Zz UK (fn := Tryz.f7) (by kernel_rfl) (by kernel_rfl) rfl (fun K => f7_0 (row ZC m.ins) m.ins.length (row ZD m.ws) m.ws.length (row ZF m.ps) m.ps.length m.lat m.mat c.pc (row ZE c.vars) c.vars.length c.c0 c.c1 c.c2 c.c3 c.c4 c.c5 c.c6 c.c7 c.c8 c.c9 (row encI c.stack) c.stack.length c.mode c.err c.use c.tmo c.ela (row encI c.before) c.before.length (row encI c.after) c.after.length (row Zn c.sides) c.sides.length .empty K) rfl ?_
 have hp := Zo0 m c
 refine ⟨_, _, Zoq m c bm bc, Zw (fun h => ⟨_, Zuj m c bm bc, _, _, Zoz hs hcm m c bm bc, _, of12 hs hcm m c bm bc, ?_⟩) (fun h => ⟨_, _, Zoz hs hcm m c bm bc, _, of12 hs hcm m c bm bc, ?_⟩)⟩
 ·have hw : WT m c = ((XD m c).2, atL m c) := by unfold WT; rw [if_neg (by omega)]
  rw [hw]
  refine Zd (fun _ => Zd (fun _ => Zs (.inr rfl) rfl (.b _) (by simp)) (fun h => by simp at h)) (fun h => by simp at h)
 ·have h0 : (XD m c).1 = 0 := by omega
  have hw : WT m c = (-1, -1) := by unfold WT; rw [if_pos h0]
  rw [hw, Zln h0]
  refine Zd (fun _ => Zd (fun _ => Zs (.inr rfl) rfl (.b _) rfl) (fun h => by cases h)) (fun h => by simp at h)
end Go.Y
