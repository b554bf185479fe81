/- souffleurref20.Heeds, by its contract. -/
import Derived.Test.YtkcgmnhojldoiaaGreatGSortK
namespace Go.Y
open Go.Proofs
set_option maxRecDepth 1000000
set_option maxHeartbeats 0
def Zfh (ws : List Wat) (use p : Int) (k : Int) : Bool := match cnt ws k with
 | some w => QY use p w
 | none => false
theorem Zq1 (ws : List Wat) (use p : Int) (l : List Int) : (l.filterMap (cnt ws)).any (QY use p) = (cntL ws l).any (Zfh ws use p) := by
 induction l with
 | nil => rfl
 | cons a l ih =>
  unfold cntL isC at ih ⊢
  cases h : cnt ws a with
  | none => simp [h] at ih ⊢; exact ih
  | some w => simp [h, Zfh] at ih ⊢; rw [ih]
theorem Wx (l : List Int) (p : Int) : l.contains p = l.any (fun x => x == p) := by
 induction l with
 | nil => rfl
 | cons a l ih => rw [List.contains_cons, List.any_cons, ih]; congr 1; exact Bool.eq_iff_iff.2 ⟨fun h => by simpa using (by simpa using h : p = a).symm, fun h => by simpa using (by simpa using h : a = p).symm⟩

theorem Zlj (ins : List Ins) (ws : List Wat) (l : List Int) (p use : Int) (hl : l.length < 2 ^ 26) : PCon UY 43 [.agg (XX ins ws), lst encI l, .i .i64 p, .i .i64 use] (· = .b (Zav ws l p use)) := by
 refine Zt UK (fn := Tryz.f43) (by kernel_rfl) (by kernel_rfl) rfl ?_
 refine Zp UK 68 (fun K => ZCi (row ZC ins) ins.length (row ZD ws) ws.length (row encI l) l.length p use .empty K) rfl (by kernel_rfl) ?_
 have hP := Zd2 ins ws l use hl
 have hPl := Zal ws l use
 have hC := Zdu ins ws l (by omega)
 have hCl := Zfb ws l
 have hall : ∀ k ∈ cntL ws l, isC ws k = true := fun k hk => (List.mem_filter.1 hk).2
 have he : Zav ws l p use = ((JG ws l use).any (fun x => x == p) && (cntL ws l).any (Zfh ws use p)) := by unfold Zav; rw [Zq1, Wx]
 rw [he]
 generalize JG ws l use = P at hP hPl
 generalize cntL ws l = L at hC hCl hall
 refine ⟨_, _, _, hP, rfl, ZK [1, 2, 3, 4, 5, 9, 10, 11] [1, 2, 3, 4, 5, 9, 10, 11] rfl (by kernel_rfl) (fun m vs _ => ∃ i : Nat, vs = [lst encI l, .i .i64 p, .i .i64 use, .lb (XX ins ws), .undef, .b ((P.take i).any fun x => x == p), lst encI P, .i .i64 (i : Nat)] ∧ i ≤ P.length ∧ m = P.length - i) P.length Zu ⟨0, rfl, by omega, by omega⟩ ?_⟩
 rintro m vs h ⟨i, rfl, hi, rfl⟩
 refine Zq UK (fun K => ZCj (row ZC ins) ins.length (row ZD ws) ws.length (row encI l) l.length p use none (row encI P) P.length ((P.take i).any fun x => x == p) (i : Nat) h K) rfl ?_
 refine Zg (fun hlt => ?_) (fun hge => ?_)
 ·have hT : (P.take (i + 1)).any (fun x => x == p) = ((P.take i).any (fun x => x == p) || P[i] == p) := by
   rw [List.take_succ_eq_append_getElem hlt, List.any_append]; simp
  refine Zd (fun hb => ?_) (fun hb => ⟨bnd_nat hlt, _, Xw P hlt, ?_⟩)
  ·exact ⟨rfl, P.length - (i + 1), by omega, i + 1, by rw [Zf (by omega), hT, hb]; rfl, by omega, rfl⟩
  ·exact ⟨rfl, P.length - (i + 1), by omega, i + 1, by rw [Zf (by omega), hT, hb]; rfl, by omega, rfl⟩
 rw [List.take_of_length_le hge]
 generalize (P.any fun x => x == p) = about
 refine Ze [1, 2, 3, 4, 5, 9] (by kernel_rfl) rfl rfl ?_
 refine Zp UK 68 (fun K => ZCk (row ZC ins) ins.length (row ZD ws) ws.length (row encI l) l.length p use about h K) rfl (by kernel_rfl) ?_
 refine ⟨_, _, _, hC, rfl, ZK [1, 2, 3, 4, 5, 9, 10, 12] [1, 2, 3, 4, 5, 8, 9, 10, 12] rfl (by kernel_rfl) (fun m vs _ => ∃ i : Nat, vs = [lst encI l, .i .i64 p, .i .i64 use, .lb (XX ins ws), .undef, .b about, lst encI L, .i .i64 (i : Nat)] ∧ i ≤ L.length ∧ m = L.length - i ∧ (about = true → (L.take i).any (Zfh ws use p) = false)) L.length Zu ⟨0, rfl, by omega, by omega, fun _ => rfl⟩ ?_⟩
 rintro m vs h' ⟨j, rfl, hj, rfl, hno⟩
 refine Zq UK (fun K => ZCl (row ZC ins) ins.length (row ZD ws) ws.length (row encI l) l.length p use about none (row encI L) L.length (j : Nat) h' K) rfl ?_
 refine Zg (fun hlt => ?_) (fun hge2 => ?_)
 ·obtain ⟨w, hw, k0, k1, hwk⟩ := Zn8 (hall L[j] (List.getElem_mem hlt))
  have hwk' : ws[L[j].toNat]'(by omega) = w := by
   have := List.getElem?_eq_getElem (show L[j].toNat < ws.length by omega)
   rw [this] at hwk; exact Option.some.inj hwk
  have hk : Zfh ws use p L[j] = QY use p w := by unfold Zfh; rw [hw]
  have hT : (L.take (j + 1)).any (Zfh ws use p) = ((L.take j).any (Zfh ws use p) || QY use p w) := by
   rw [List.take_succ_eq_append_getElem hlt, List.any_append]; simp [hk]
  have yes : about = true → QY use p w = true → (true : Bool) = (about && L.any (Zfh ws use p)) := fun h1 h2 => by
   rw [h1, Bool.true_and]
   exact (List.any_eq_true.2 ⟨L[j], List.getElem_mem hlt, by rw [hk]; exact h2⟩).symm
  refine ⟨bnd_nat hlt, L[j], Xw L hlt, ⟨k0, k1⟩, w.kind, w.peer, w.pk, w.text, w.to, w.own, w.at', ?_, Zd (fun hb => Zd (fun c4 => ?_) (fun c4 => Zd (fun c3 => ⟨_, of91 w use, Zd (fun c5 => ?_) (fun c5 => ?_)⟩) (fun c3 => ?_))) (fun hb => ?_)⟩
  ·have := Zr (f := ZD) (k := 7) QU (l := ws) (i := L[j].toNat) (by omega)
   rw [this, hwk']
  ·exact Zl (.inr rfl) rfl ⟨_, .b _, by rw [← yes hb (by unfold QY; rw [c4]; rfl)]⟩
  ·exact Zl (.inr rfl) rfl ⟨_, .b _, by rw [← yes hb (by unfold QY; rw [c4, c3, c5]; rfl)]⟩
  ·exact ⟨rfl, L.length - (j + 1), by omega, j + 1, by rw [Zf (by omega)]; rfl, by omega, rfl, fun hb => by rw [hT, hno hb]; unfold QY; rw [c4, c3, c5]; rfl⟩
  ·exact ⟨rfl, L.length - (j + 1), by omega, j + 1, by rw [Zf (by omega)]; rfl, by omega, rfl, fun hb => by rw [hT, hno hb]; unfold QY; rw [c4, c3]; rfl⟩
  ·exact ⟨rfl, L.length - (j + 1), by omega, j + 1, by rw [Zf (by omega)]; rfl, by omega, rfl, fun hb' => by rw [hb'] at hb; cases hb⟩
 ·refine Ze [] (by kernel_rfl) rfl rfl ?_
  refine ZB UK (fun K => ZCm h' K) rfl ?_
  rw [List.take_of_length_le hge2] at hno
  refine Zs (.inr rfl) rfl (.b _) ?_
  cases about with
  | false => rfl
  | true => rw [hno rfl]; rfl
theorem Zuh (s : Side) (m : Int) : 0 ≤ JV s m := by unfold JV; split <;> omega
theorem Zzp (s : Side) (m : Int) (hm : m < 2 ^ 40) (hb : s.buffer.length < 2 ^ 40) : PCon UY 80 [.agg (Zn s), .i .i64 m] (· = .i .i64 (JV s m)) := by
 refine Zt UK (fn := Tryz.f80) (by kernel_rfl) (by kernel_rfl) rfl ?_
 refine Zp UK 28 (fun K => ZB5 s.on s.shut s.eof s.place s.clock s.typed (row encT s.lines) s.lines.length s.fly (row encI s.ages) s.ages.length s.ready s.buffer m .empty K) rfl (by kernel_rfl) ?_
 have h0 := Zuh s m
 refine ⟨rfl, ZK [1, 2, 5] [1, 2, 5] rfl (by kernel_rfl) (fun k vs _ => ∃ i : Nat, vs = [.i .i64 m, .lb (Zn s), .i .i64 (i : Nat)] ∧ (i : Int) ≤ JV s m ∧ k = (JV s m).toNat - i) (JV s m).toNat Zu ⟨0, rfl, by omega, by omega⟩ ?_⟩
 rintro k vs h ⟨i, rfl, hi, rfl⟩
 refine Zq UK (fun K => ZB6 s.on s.shut s.eof s.place s.clock s.typed (row encT s.lines) s.lines.length s.fly (row encI s.ages) s.ages.length s.ready s.buffer m (i : Nat) h K) rfl ?_
 have done : (i : Int) = JV s m → TriL UY ((post (flat (Za Tryz.f80))).drop 1) ⟨mk 28 (([5] : List Nat).zip (pick [1, 2, 5] [5] [.i .i64 m, .lb (Zn s), .i .i64 (i : Nat)])), [], h⟩ (FinS UY Tryz.f80 fun v h => ∃ r, Frz h v r ∧ r = .i .i64 (JV s m)) := fun he =>
  ZB UK (fun K => ZB7 (i : Nat) h K) rfl (Zs (.inr rfl) rfl (.i _ _) (by rw [he]))
 have hmin : (i : Int) ≤ JV s m → (s.ready.length : Int) ≤ i ∨ m ≤ i ∨ m - i ≤ s.buffer.length → (i : Int) = JV s m := by
  unfold JV
  split <;> omega
 have hmax : (i : Int) < s.ready.length → (i : Int) < m → (s.buffer.length : Int) < m - i → (i : Int) + 1 ≤ JV s m := by
  unfold JV
  split <;> omega
 refine Zw (fun c1 => Zw (fun c2 => ?_) (fun c2 => Ze [5] (by kernel_rfl) rfl rfl (done (hmin hi (.inr (.inl c2)))))) (fun c1 => Ze [5] (by kernel_rfl) rfl rfl (done (hmin hi (.inl c1))))
 rw [show IntKind.i64.wrap (m - (i : Int)) = m - i from Xu (by omega) (by omega)]
 refine Zw (fun c3 => ?_) (fun c3 => Ze [5] (by kernel_rfl) rfl rfl (done (hmin hi (.inr (.inr c3)))))
 have := hmax c1 c2 c3
 exact ⟨rfl, (JV s m).toNat - (i + 1), by omega, i + 1, by rw [Xu (by omega) (by omega)]; rfl, by omega, rfl⟩

theorem Zui (ws : List Wat) (l : List Int) (use : Int) : ∀ x ∈ Xq ws l use, 0 ≤ x := by
 intro x hx
 unfold Xq at hx
 obtain ⟨w, _, hw⟩ := List.mem_filterMap.1 hx
 unfold WO at hw
 split at hw
 ·cases hw
 ·rename_i hn
  simp only [Option.some.injEq] at hw
  omega
theorem Zct (m : Mdl) (c : Cfg) : ∀ x ∈ Xd m c, 0 ≤ x := fun x hx => by
 unfold Xd JG at hx
 rcases Zfa.1 hx with h | h
 ·cases h
 ·exact Zui _ _ _ x h
theorem Zcu {m : Mdl} {c : Cfg} (bm : BdM m) (bc : BdC c) : (Xd m c).length < 2 ^ 22 := by
 have h1 := Zal m.ws (XY m c) c.use
 have h2 := Zcr bm bc
 unfold Xd; omega
theorem Zd3 (m : Mdl) (c : Cfg) (bm : BdM m) (bc : BdC c) : PCon UY 42 [.agg (XX m.ins m.ws), lst encI (XY m c), .i .i64 c.use] (· = lst encI (Xd m c)) :=
 Zd2 m.ins m.ws (XY m c) c.use (by have := Zcr bm bc; omega)
theorem Zam (c : Cfg) {p : Int} (h0 : 0 ≤ p) (h : p < c.sides.length) : Zh 11 (List.drop (p.toNat * 11) (row Zn c.sides)) = some (Zn (XA c p)) ∧ XA c p ∈ c.sides := by
 have hlt : p.toNat < c.sides.length := by omega
 have e : XA c p = c.sides[p.toNat] := by unfold XA; rw [List.getElem?_eq_getElem hlt]; rfl
 rw [e]
 exact ⟨Zr (f := Zn) (k := 11) (fun _ => rfl) hlt, List.getElem_mem hlt⟩

/-! ### Read -/
def Zan (m : Mdl) (c : Cfg) (p : Int) : Bool := (Xd m c).contains p && ltI p c.sides.length && Zag m c p
theorem Zon (m : Mdl) (c : Cfg) (p : Int) (bm : BdM m) (bc : BdC c) (hm : m.mat < 2 ^ 40) : PCon UY 35 [.agg (mdlC m), .agg (cfgC c), .i .i64 p] (· = .b (Zan m c p)) := by
 refine Zt UK (fn := Tryz.f35) (by kernel_rfl) (by kernel_rfl) rfl ?_
 refine Zp UK 53 (fun K => ZCu (row ZC m.ins) m.ins.length (row ZD m.ws) m.ws.length (row ZF m.ps) m.ps.length m.lat m.mat c.pc (row ZE c.vars) c.vars.length c.c0 c.c1 c.c2 c.c3 c.c4 c.c5 c.c6 c.c7 c.c8 c.c9 (row encI c.stack) c.stack.length c.mode c.err c.use c.tmo c.ela (row encI c.before) c.before.length (row encI c.after) c.after.length (row Zn c.sides) c.sides.length p .empty K) rfl (by kernel_rfl) ?_
 have hA := Zd3 m c bm bc
 have hA0 := Zct m c
 have hAl := Zcu bm bc
 have hr : Zan m c p = ((Xd m c).any (fun x => x == p) && ltI p c.sides.length && Zag m c p) := by unfold Zan; rw [Wx]
 rw [hr]
 generalize Xd m c = A at hA hA0 hAl
 refine ⟨_, _, _, Zcs m c bm bc, _, _, _, hA, rfl, ZK [2, 3, 4, 6, 7, 8, 9] [2, 3, 4, 6, 7, 8, 9] rfl (by kernel_rfl) (fun k vs _ => ∃ (i : Nat), vs = [.i .i64 p, .lb (mdlC m), .lb (cfgC c), .b false, lst encI A, .i .i64 (i : Nat), .rf] ∧ i ≤ A.length ∧ k = A.length - i ∧ ((A.take i).any (fun x => x == p) && ltI p c.sides.length) = false) A.length Zu ⟨0, rfl, by omega, by omega, rfl⟩ ?_⟩
 rintro k vs h ⟨i, rfl, hi, rfl, hno⟩
 refine Zq UK (fun K => ZCv (row ZC m.ins) m.ins.length (row ZD m.ws) m.ws.length (row ZF m.ps) m.ps.length m.lat m.mat c.pc (row ZE c.vars) c.vars.length c.c0 c.c1 c.c2 c.c3 c.c4 c.c5 c.c6 c.c7 c.c8 c.c9 (row encI c.stack) c.stack.length c.mode c.err c.use c.tmo c.ela (row encI c.before) c.before.length (row encI c.after) c.after.length (row Zn c.sides) c.sides.length p none (row encI A) A.length (i : Nat) h K) rfl ?_
 refine Zg (fun hlt => ?_) (fun hge => ?_)
 ·have hT : (A.take (i + 1)).any (fun x => x == p) = ((A.take i).any (fun x => x == p) || A[i] == p) := by
   rw [List.take_succ_eq_append_getElem hlt, List.any_append]; simp
  refine ⟨bnd_nat hlt, _, Xw A hlt, Zd (fun c1 => Zd (fun c2 => ?_) (fun c2 => ?_)) (fun c1 => ?_)⟩
  ·have e1 : A[i] = p := by simpa using c1
   have p0 : 0 ≤ p := by rw [← e1]; exact hA0 _ (List.getElem_mem hlt)
   have p1 : p < c.sides.length := by simpa [ltI] using c2
   obtain ⟨hs, hmem⟩ := Zam c p0 p1
   have ha : A.any (fun x => x == p) = true := List.any_eq_true.2 ⟨A[i], List.getElem_mem hlt, c1⟩
   have hrd : (A.any (fun x => x == p) && ltI p c.sides.length && Zag m c p) = (ltI 0 (JV (XA c p) m.mat) || Zle (XA c p)) := by rw [ha, c2]; rfl
   rw [hrd]
   refine ⟨⟨p0, p1⟩, _, _, _, _, _, _, _, _, _, _, _, _, _, _, _,  hs, _, Zzp (XA c p) m.mat hm (bc.bu _ hmem), Zd (fun c3 => ?_) (fun c3 => ⟨⟨p0, p1⟩, _, _, _, _, _, _, _, _, _, _, _, _, _, _, _,  hs, _, Zyv (XA c p), ?_⟩)⟩
   ·exact Zl (.inr rfl) rfl ⟨_, .b _, by rw [c3]; rfl⟩
   ·exact Zl (.inr rfl) rfl ⟨_, .b _, by rw [c3]; rfl⟩
  ·exact ⟨rfl, A.length - (i + 1), by omega, i + 1, by rw [Zf (by omega)]; rfl, by omega, rfl, by rw [c2, Bool.and_false]⟩
  ·exact ⟨rfl, A.length - (i + 1), by omega, i + 1, by rw [Zf (by omega)]; rfl, by omega, rfl, by rw [hT, c1, Bool.or_false]; exact hno⟩
 ·refine Ze [] (by kernel_rfl) rfl rfl ?_
  refine ZB UK (fun K => ZCw h K) rfl ?_
  rw [List.take_of_length_le hge] at hno
  exact Zs (.inr rfl) rfl (.b _) (by rw [hno]; rfl)

/-! ### Dead -/
def Zg7 (m : Mdl) (c : Cfg) : Bool := ltI c.tmo 0 && !(List.range c.sides.length).any (fun i => Zan m c (i : Nat) || Jk m c i)
theorem Zg8 {p : Nat → Bool} {i : Nat} (h : (List.range i).any p = false) (h1 : p i = false) : (List.range (i + 1)).any p = false := by
 rw [List.range_succ, List.any_append, h]; simp [h1]
theorem Zj0 {p : Nat → Bool} {i n : Nat} (hi : i < n) (h : p i = true) : (List.range n).any p = true := List.any_eq_true.2 ⟨i, List.mem_range.2 hi, h⟩
theorem Zj1 {m : Mdl} {c : Cfg} {i : Nat} (h1 : i < c.sides.length) (h2 : i < m.ps.length) : Jk m c i = (!(c.sides[i].fly == []) || ltI 0 (Zk7 c.sides[i] m.ps[i].1 m.ps[i].2).length || Zau c.sides[i] m.ps[i].1 m.ps[i].2) := by
 simp only [Jk, List.getElem?_eq_getElem h1, List.getElem?_eq_getElem h2]

theorem Zoo (m : Mdl) (c : Cfg) (bm : BdM m) (bc : BdC c) (hm : m.mat < 2 ^ 40) (hn : c.sides.length = m.ps.length) : PCon UY 44 [.agg (mdlC m), .agg (cfgC c)] (· = .b (Zg7 m c)) := by
 refine Zt UK (fn := Tryz.f44) (by kernel_rfl) (by kernel_rfl) rfl ?_
 refine Zp UK 51 (fun K => ZCx (row ZC m.ins) m.ins.length (row ZD m.ws) m.ws.length (row ZF m.ps) m.ps.length m.lat m.mat c.pc (row ZE c.vars) c.vars.length c.c0 c.c1 c.c2 c.c3 c.c4 c.c5 c.c6 c.c7 c.c8 c.c9 (row encI c.stack) c.stack.length c.mode c.err c.use c.tmo c.ela (row encI c.before) c.before.length (row encI c.after) c.after.length (row Zn c.sides) c.sides.length .empty K) rfl (by kernel_rfl) ?_
 have hsd := bc.sd
 refine Zd (fun c0 => Zl (.inr rfl) (v := .b false) rfl ⟨_, .b _, ?_⟩) (fun c0 => ⟨rfl, ?_⟩)
 ·have : ltI c.tmo 0 = false := by simp [leI, ltI] at c0 ⊢; omega
  unfold Zg7; rw [this]; rfl
 have c0 : ltI c.tmo 0 = true := by simp [leI, ltI] at c0 ⊢; omega
 have hd : Zg7 m c = !(List.range c.sides.length).any (fun i => Zan m c (i : Nat) || Jk m c i) := by unfold Zg7; rw [c0]; rfl
 rw [hd]
 refine ZK [2, 3, 4, 5, 9] [2, 3, 4, 5, 9] rfl (by kernel_rfl) (fun k vs _ => ∃ (i : Nat), vs = [.lb (mdlC m), .lb (cfgC c), .b false, .i .i64 (i : Nat), .b false] ∧ i ≤ c.sides.length ∧ k = c.sides.length - i ∧ (List.range i).any (fun i => Zan m c (i : Nat) || Jk m c i) = false) c.sides.length Zu ⟨0, rfl, by omega, by omega, rfl⟩ ?_
 rintro k vs h ⟨i, rfl, hi, rfl, hno⟩
 refine Zq UK (fun K => ZCy (row ZC m.ins) m.ins.length (row ZD m.ws) m.ws.length (row ZF m.ps) m.ps.length m.lat m.mat c.pc (row ZE c.vars) c.vars.length c.c0 c.c1 c.c2 c.c3 c.c4 c.c5 c.c6 c.c7 c.c8 c.c9 (row encI c.stack) c.stack.length c.mode c.err c.use c.tmo c.ela (row encI c.before) c.before.length (row encI c.after) c.after.length (row Zn c.sides) c.sides.length (i : Nat) h K) rfl ?_
 refine Zg (fun hlt => ?_) (fun hge => ?_)
 ·have h2 : i < m.ps.length := by omega
  have hst := Zj1 hlt h2
  have bs := bc.sb _ (List.getElem_mem hlt)
  have bp := bm.pr _ (List.getElem_mem h2)
  have yes : (Zan m c (i : Nat) || Jk m c i) = true → AtV [2, 3, 4, 5, 9] (FinS UY Tryz.f44 fun v h => ∃ r, Frz h v r ∧ r = .b (!(List.range c.sides.length).any (fun i => Zan m c (i : Nat) || Jk m c i))) .ret 51 [.lb (mdlC m), .lb (cfgC c), .b false, .i .i64 (i : Nat), .b false] h := fun hy =>
   Zl (.inr rfl) rfl ⟨_, .b _, by rw [Zj0 (p := fun i => Zan m c (i : Nat) || Jk m c i) hlt hy]; rfl⟩
  have hrow : Zh 11 (List.drop (((i : Nat) : Int).toNat * 11) (row Zn c.sides)) = some (Zn c.sides[i]) := by rw [Int.toNat_natCast]; exact Zr (f := Zn) (k := 11) (fun _ => rfl) hlt
  have hrp : Zh 2 (List.drop (((i : Nat) : Int).toNat * 2) (row ZF m.ps)) = some (ZF m.ps[i]) := by rw [Int.toNat_natCast]; exact Zr (f := ZF) (k := 2) QV h2
  refine ⟨bnd_nat hlt, _, _, _, _, _, _, _, _, _, _, _, _, _, _, _,  hrow, _, Zon m c (i : Nat) bm bc hm, Zd (fun c1 => yes (by rw [c1]; rfl)) (fun c1 => Zd (fun c2 => yes (by rw [hst, c2]; simp)) (fun c2 => ⟨bnd_nat h2, _, _, _, _, hrp, _, _, _, Zlg c.sides[i] m.ps[i].1 m.ps[i].2 bs bp, Zd (fun c3 => yes (by rw [hst, c3]; simp)) (fun c3 => ⟨bnd_nat h2, _, _, _, _, hrp, _, Zip c.sides[i] m.ps[i].1 m.ps[i].2 bs bp, Zd (fun c4 => yes (by rw [hst, c4]; simp)) (fun c4 => ?_)⟩)⟩))⟩
  exact ⟨rfl, c.sides.length - (i + 1), by omega, i + 1, by rw [Zf (by omega)]; rfl, by omega, rfl, Zg8 (p := fun i => Zan m c (i : Nat) || Jk m c i) hno (by rw [hst, c1, c2, c3, c4]; rfl)⟩
 ·refine Ze [] (by kernel_rfl) rfl rfl ?_
  refine ZB UK (fun K => ZCz h K) rfl ?_
  have he : i = c.sides.length := by omega
  rw [he] at hno
  exact Zs (.inr rfl) rfl (.b _) (by rw [hno]; rfl)
theorem Zj2 {α : Type} {p : α → Bool} : ∀ {l : List α} {i : Nat} (h : i < l.length), (l.take i).any p = false → p l[i] = true → l.find? p = some l[i]
 | [], i, h, _, _ => absurd h (by simp)
 | a :: l, 0, _, _, hp => by rw [List.find?_cons, show p a = true from hp]; rfl
 | a :: l, i + 1, h, hn, hp => by
  rw [List.take_succ_cons, List.any_cons, Bool.or_eq_false_iff] at hn
  rw [List.find?_cons, hn.1]
  exact Zj2 (l := l) (i := i) (by simpa using h) hn.2 hp
theorem Zop {α : Type} {p : α → Bool} {l : List α} (h : l.any p = false) : l.find? p = none := by
 rw [List.find?_eq_none]
 intro x hx hp
 have := List.any_eq_true.2 ⟨x, hx, hp⟩
 rw [h] at this; cases this
theorem Wy {l : List Int} {n : Nat} {so : Int → Bool} {i : Nat} (h : i < l.length) (hn : (l.take i).any (fun p => ltI p n && so p) = false) (hp : (ltI l[i] n && so l[i]) = true) : Xl l n so = l[i] := by
 unfold Xl; rw [Zj2 h hn hp]
theorem JH {l : List Int} {n : Nat} {so : Int → Bool} (h : l.any (fun p => ltI p n && so p) = false) : Xl l n so = -1 := by
 unfold Xl; rw [Zop h]

def XD (m : Mdl) (c : Cfg) : Int × Int :=
 if (ZW m.ps m.lat m.mat && mayL m c) = false then (0, -1) else if c.mode = 3 then (4, -1) else if c.mode ≠ 1 then (0, -1) else
 if 0 ≤ Xl (Xd m c) c.sides.length (VH m c) then (2, Xl (Xd m c) c.sides.length (VH m c)) else
 if 0 ≤ Xl (Xd m c) c.sides.length (Zcl m c) then (3, Xl (Xd m c) c.sides.length (Zcl m c)) else
 if Zg7 m c then (1, -1) else (0, -1)

theorem Zd4 {m : Mdl} {c : Cfg} (h : mayL m c = true) : c.sides.length = m.ps.length := by
 unfold mayL Wc at h
 simp only [Bool.and_eq_true, decide_eq_true_eq] at h
 exact h.1.1
theorem Zd5 {m : Mdl} (h : ZW m.ps m.lat m.mat = true) : m.mat < 2 ^ 40 := by
 unfold ZW at h
 simp only [Bool.and_eq_true, leI, decide_eq_true_eq] at h
 omega
theorem Zq2 (c : Cfg) {p : Int} (h0 : 0 ≤ p) (h : p < c.sides.length) : Zh 1 (List.drop 10 (List.drop (p.toNat * 11) (row Zn c.sides))) = some [.s (XA c p).buffer] := by
 have hlt : p.toNat < c.sides.length := by omega
 have e : XA c p = c.sides[p.toNat] := by unfold XA; rw [List.getElem?_eq_getElem hlt]; rfl
 rw [e, Xg (f := Zn) (k := 11) (fun _ => rfl) c.sides hlt]; rfl
theorem Zj3 (c : Cfg) {p : Int} (h0 : 0 ≤ p) (h : p < c.sides.length) : Zh 1 (List.drop 2 (List.drop (p.toNat * 11) (row Zn c.sides))) = some [.b (XA c p).eof] := by
 have hlt : p.toNat < c.sides.length := by omega
 have e : XA c p = c.sides[p.toNat] := by unfold XA; rw [List.getElem?_eq_getElem hlt]; rfl
 rw [e, Xg (f := Zn) (k := 11) (fun _ => rfl) c.sides hlt]; rfl

theorem Zoq (m : Mdl) (c : Cfg) (bm : BdM m) (bc : BdC c) : PCon UY 18 [.agg (mdlC m), .agg (cfgC c)] (· = .tup [.i .i64 (XD m c).1, .i .i64 (XD m c).2]) := by
 refine Zt UK (fn := Tryz.f18) (by kernel_rfl) (by kernel_rfl) rfl ?_
 refine Zp UK 112 (fun K => ZCo (row ZC m.ins) m.ins.length (row ZD m.ws) m.ws.length (row ZF m.ps) m.ps.length m.lat m.mat c.pc (row ZE c.vars) c.vars.length c.c0 c.c1 c.c2 c.c3 c.c4 c.c5 c.c6 c.c7 c.c8 c.c9 (row encI c.stack) c.stack.length c.mode c.err c.use c.tmo c.ela (row encI c.before) c.before.length (row encI c.after) c.after.length (row Zn c.sides) c.sides.length .empty K) rfl (by kernel_rfl) ?_
 have bps := bm.ps
 have out : ∀ (so : List Nat) (vs : List V) (h : Heap) (a b : Int), XD m c = (a, b) → resV UY Tryz.f18 (so.zip vs) = some (.tup [.i .i64 a, .i .i64 b]) → AtV so (FinS UY Tryz.f18 fun v h => ∃ r, Frz h v r ∧ r = .tup [.i .i64 (XD m c).1, .i .i64 (XD m c).2]) .ret 112 vs h := fun so vs h a b he hv =>
  Zl (.inr rfl) hv ⟨_, .tup _ _ (.cons _ _ _ _ (.i _ _) (.cons _ _ _ _ (.i _ _) .nil)), by rw [he]⟩
 refine ⟨_, Zkz m.ins m.ws m.ps m.lat m.mat (fun p hp x hx => (bm.pr p hp).nm x hx) (by omega), Zd (fun h => out _ _ _ _ _ ?_ rfl) (fun h => ⟨_, Zod m c bm bc, Zd (fun h1 => out _ _ _ _ _ ?_ rfl) (fun h1 => Zd (fun h2 => out _ _ _ _ _ ?_ rfl) (fun h2 => Zd (fun h3 => out _ _ _ _ _ ?_ rfl) (fun h3 => ?_)))⟩)⟩
 ·have h : ZW m.ps m.lat m.mat = false := by simpa using h
  unfold XD; rw [h]; rfl
 ·have h1 : mayL m c = false := by simpa using h1
  unfold XD; rw [h1, Bool.and_false]; rfl
 ·have h : ZW m.ps m.lat m.mat = true := by simpa using h
  have h1 : mayL m c = true := by simpa using h1
  have h2 : c.mode = 3 := by simpa using h2
  unfold XD; rw [h, h1, if_neg (by decide), if_pos h2]
 ·have h : ZW m.ps m.lat m.mat = true := by simpa using h
  have h1 : mayL m c = true := by simpa using h1
  have h2 : ¬ c.mode = 3 := by simpa using h2
  have h3 : c.mode ≠ 1 := by simpa using h3
  unfold XD; rw [h, h1, if_neg (by decide), if_neg h2, if_pos h3]
 have h : ZW m.ps m.lat m.mat = true := by simpa using h
 have h1 : mayL m c = true := by simpa using h1
 have h2 : ¬ c.mode = 3 := by simpa using h2
 have h3 : ¬ c.mode ≠ 1 := by simpa using h3
 have hmat := Zd5 h
 have hlen := Zd4 h1
 have hf : XD m c = if 0 ≤ Xl (Xd m c) c.sides.length (VH m c) then (2, Xl (Xd m c) c.sides.length (VH m c)) else
   if 0 ≤ Xl (Xd m c) c.sides.length (Zcl m c) then (3, Xl (Xd m c) c.sides.length (Zcl m c)) else if Zg7 m c then (1, -1) else (0, -1) := by
  conv => lhs; unfold XD
  rw [h, h1, if_neg (by decide), if_neg h2, if_neg h3]
 have hA := Zd3 m c bm bc
 have hA0 := Zct m c
 have hAl := Zcu bm bc
 have hLl := Zcr bm bc
 have hR := Zcs m c bm bc
 have hlost : ∀ p, Zcl m c p = ((XA c p).eof && !Zav m.ws (XY m c) p c.use) := fun _ => rfl
 generalize Xd m c = A at hA hA0 hAl hf
 generalize XY m c = L at hA hLl hR hlost
 refine ⟨_, _, _, hR, _, _, _, hA, rfl, ZK [2, 3, 6, 7, 8, 19] [2, 3, 4, 5, 6, 7, 8, 19] rfl (by kernel_rfl) (fun k vs _ => ∃ (i : Nat), vs = [.lb (mdlC m), .lb (cfgC c), lst encI L, lst encI A, .i .i64 (i : Nat), .rf] ∧ i ≤ A.length ∧ k = A.length - i ∧ (A.take i).any (fun p => ltI p c.sides.length && VH m c p) = false) A.length Zu ⟨0, rfl, by omega, by omega, rfl⟩ ?_⟩
 rintro k vs h' ⟨i, rfl, hi, rfl, hno⟩
 refine Zq UK (fun K => ZCp (row ZC m.ins) m.ins.length (row ZD m.ws) m.ws.length (row ZF m.ps) m.ps.length m.lat m.mat c.pc (row ZE c.vars) c.vars.length c.c0 c.c1 c.c2 c.c3 c.c4 c.c5 c.c6 c.c7 c.c8 c.c9 (row encI c.stack) c.stack.length c.mode c.err c.use c.tmo c.ela (row encI c.before) c.before.length (row encI c.after) c.after.length (row Zn c.sides) c.sides.length none (row encI L) L.length none (row encI A) A.length (i : Nat) h' K) rfl ?_
 refine Zg (fun hlt => ?_) (fun hge => ?_)
 ·have hT : (A.take (i + 1)).any (fun p => ltI p c.sides.length && VH m c p) = ((A.take i).any (fun p => ltI p c.sides.length && VH m c p) || (ltI A[i] c.sides.length && VH m c A[i])) := by
   rw [List.take_succ_eq_append_getElem hlt, List.any_append]; simp
  have p0 := hA0 _ (List.getElem_mem hlt)
  refine ⟨bnd_nat hlt, _, Xw A hlt, Zd (fun c1 => ⟨bnd_nat hlt, _, Xw A hlt, ⟨p0, by simpa [ltI] using c1⟩, _, Zq2 c p0 (by simpa [ltI] using c1), Zd (fun c2 => ⟨bnd_nat hlt, _, Xw A hlt, ?_⟩) (fun c2 => ?_)⟩) (fun c1 => ?_)⟩
  ·have hfi := Wy (so := VH m c) hlt hno (by rw [c1]; exact c2)
   exact out _ _ _ _ _ (by rw [hf, hfi, if_pos p0]) rfl
  ·exact ⟨rfl, A.length - (i + 1), by omega, i + 1, by rw [Zf (by omega)]; rfl, by omega, rfl, by rw [hT, hno, c1]; exact c2⟩
  ·exact ⟨rfl, A.length - (i + 1), by omega, i + 1, by rw [Zf (by omega)]; rfl, by omega, rfl, by rw [hT, hno, c1]; rfl⟩
 have hn1 : Xl A c.sides.length (VH m c) = -1 := JH (by rw [List.take_of_length_le hge] at hno; exact hno)
 rw [hn1, if_neg (by decide)] at hf
 refine Ze [2, 3, 6, 7, 8, 19] (by kernel_rfl) rfl rfl ?_
 refine Zp UK 112 (fun K => ZCq (row ZC m.ins) m.ins.length (row ZD m.ws) m.ws.length (row ZF m.ps) m.ps.length m.lat m.mat c.pc (row ZE c.vars) c.vars.length (row encI c.stack) c.stack.length c.mode c.err c.use c.tmo c.ela (row encI c.before) c.before.length (row encI c.after) c.after.length (row Zn c.sides) c.sides.length none (row encI L) L.length none (row encI A) A.length (i : Nat) c.c0 c.c1 c.c2 c.c3 c.c4 c.c5 c.c6 c.c7 c.c8 c.c9 h' K) rfl (by kernel_rfl) ?_
 refine ⟨rfl, ZK [2, 3, 6, 7, 8, 9, 19] [2, 3, 4, 5, 6, 7, 8, 9, 19] rfl (by kernel_rfl) (fun k vs _ => ∃ (j : Nat), vs = [.lb (mdlC m), .lb (cfgC c), lst encI L, lst encI A, .i .i64 (i : Nat), .i .i64 (j : Nat), .rf] ∧ j ≤ A.length ∧ k = A.length - j ∧ (A.take j).any (fun p => ltI p c.sides.length && Zcl m c p) = false) A.length Zu ⟨0, rfl, by omega, by omega, rfl⟩ ?_⟩
 rintro k vs h2' ⟨j, rfl, hj, rfl, hnj⟩
 refine Zq UK (fun K => ZCr (row ZC m.ins) m.ins.length (row ZD m.ws) m.ws.length (row ZF m.ps) m.ps.length m.lat m.mat c.pc (row ZE c.vars) c.vars.length (row encI c.stack) c.stack.length c.mode c.err c.use c.tmo c.ela (row encI c.before) c.before.length (row encI c.after) c.after.length (row Zn c.sides) c.sides.length none (row encI L) L.length none (row encI A) A.length (i : Nat) c.c0 c.c1 c.c2 c.c3 c.c4 c.c5 c.c6 c.c7 c.c8 c.c9 (j : Nat) h2' K) rfl ?_
 refine Zg (fun hlt => ?_) (fun hge2 => ?_)
 ·have hT : (A.take (j + 1)).any (fun p => ltI p c.sides.length && Zcl m c p) = ((A.take j).any (fun p => ltI p c.sides.length && Zcl m c p) || (ltI A[j] c.sides.length && Zcl m c A[j])) := by
   rw [List.take_succ_eq_append_getElem hlt, List.any_append]; simp
  have p0 := hA0 _ (List.getElem_mem hlt)
  refine ⟨bnd_nat hlt, _, Xw A hlt, Zd (fun c1 => ⟨bnd_nat hlt, _, Xw A hlt, ⟨p0, by simpa [ltI] using c1⟩, _, Zj3 c p0 (by simpa [ltI] using c1), Zd (fun c2 => ⟨bnd_nat hlt, _, Xw A hlt, _, Zlj m.ins m.ws L A[j] c.use (by omega), Zd (fun c3 => ⟨bnd_nat hlt, _, Xw A hlt, ?_⟩) (fun c3 => ?_)⟩) (fun c2 => ?_)⟩) (fun c1 => ?_)⟩
  ·have hfi := Wy (so := Zcl m c) hlt hnj (by rw [c1, hlost, c2, c3]; rfl)
   exact out _ _ _ _ _ (by rw [hf, hfi, if_pos p0]) rfl
  ·exact ⟨rfl, A.length - (j + 1), by omega, j + 1, by rw [Zf (by omega)]; rfl, by omega, rfl, by rw [hT, hnj, c1, hlost, c3]; simp⟩
  ·exact ⟨rfl, A.length - (j + 1), by omega, j + 1, by rw [Zf (by omega)]; rfl, by omega, rfl, by rw [hT, hnj, c1, hlost, c2]; rfl⟩
  ·exact ⟨rfl, A.length - (j + 1), by omega, j + 1, by rw [Zf (by omega)]; rfl, by omega, rfl, by rw [hT, hnj, c1]; rfl⟩
 have hn2 : Xl A c.sides.length (Zcl m c) = -1 := JH (by rw [List.take_of_length_le hge2] at hnj; exact hnj)
 rw [hn2, if_neg (by decide)] at hf
 refine Ze [2, 3] (by kernel_rfl) rfl rfl ?_
 refine ZB UK (fun K => ZCs (row ZC m.ins) m.ins.length (row ZD m.ws) m.ws.length (row ZF m.ps) m.ps.length m.lat m.mat c.pc (row ZE c.vars) c.vars.length (row encI c.stack) c.stack.length c.mode c.err c.use c.tmo c.ela (row encI c.before) c.before.length (row encI c.after) c.after.length (row Zn c.sides) c.sides.length c.c0 c.c1 c.c2 c.c3 c.c4 c.c5 c.c6 c.c7 c.c8 c.c9 h2' K) rfl ?_
 refine ⟨_, Zoo m c bm bc hmat hlen, Zd (fun h4 => ?_) (fun h4 => ?_)⟩
 ·exact Zh8 (.inr rfl) rfl (.i _ _) (.i _ _) (by rw [hf, h4]; rfl)
 ·exact Zh8 (.inr rfl) rfl (.i _ _) (.i _ _) (by rw [hf, h4]; rfl)

def atL (m : Mdl) (c : Cfg) : Int := match XY m c with
 | [] => -1
 | k :: _ => if k < 0 then -1 else match m.ws[k.toNat]? with
  | some w => w.at'
  | none => -1
theorem Zuj (m : Mdl) (c : Cfg) (bm : BdM m) (bc : BdC c) : PCon UY 19 [.agg (mdlC m), .agg (cfgC c)] (· = .i .i64 (atL m c)) := by
 refine Zz UK (fn := Tryz.f19) (by kernel_rfl) (by kernel_rfl) rfl (fun K => ZCt (row ZC m.ins) m.ins.length (row ZD m.ws) m.ws.length (row ZF m.ps) m.ps.length m.lat m.mat c.pc (row ZE c.vars) c.vars.length c.c0 c.c1 c.c2 c.c3 c.c4 c.c5 c.c6 c.c7 c.c8 c.c9 (row encI c.stack) c.stack.length c.mode c.err c.use c.tmo c.ela (row encI c.before) c.before.length (row encI c.after) c.after.length (row Zn c.sides) c.sides.length .empty K) rfl ?_
 have fin : ∀ x : Int, x = atL m c → Fin UY Tryz.f19 [4] (fun v h => ∃ r, Frz h v r ∧ r = .i .i64 (atL m c)) .ret 37 [.i .i64 x] .empty := fun x hx => Zs (.inr rfl) rfl (.i _ _) (by rw [hx])
 have hR := Zcs m c bm bc
 have ha : atL m c = (match XY m c with
  | [] => -1
  | k :: _ => if k < 0 then -1 else match m.ws[k.toNat]? with
   | some w => w.at'
   | none => -1) := rfl
 rw [ha] at fin ⊢
 generalize XY m c = L at hR fin
 refine ⟨_, _, _, hR, ?_⟩
 cases L with
 | nil => exact Zd (fun _ => fin _ rfl) (fun h => by cases h)
 | cons k L =>
  refine Zd (fun h => by simp at h; omega) (fun _ => ⟨⟨by omega, by simp⟩, k, rfl, Zw (fun h => fin _ (by simp [h])) (fun h0 => ⟨⟨by omega, by simp⟩, k, rfl, Qz (fun h1 => fin _ ?_) (fun h1 => ⟨⟨by omega, by simp⟩, k, rfl, ⟨h0, h1⟩, (m.ws[k.toNat]'(by omega)).at', ?_, fin _ ?_⟩)⟩)⟩)
  ·simp only; rw [if_neg (by omega), List.getElem?_eq_none (by omega)]
  ·rw [Xg QU m.ws (by omega)]; rfl
  ·simp only; rw [if_neg (by omega), List.getElem?_eq_getElem (by omega)]
end Go.Y
