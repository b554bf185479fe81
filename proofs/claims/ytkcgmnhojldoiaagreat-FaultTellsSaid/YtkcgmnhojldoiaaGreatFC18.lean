/- rule.Peers, by its contract. -/
import Derived.Test.YtkcgmnhojldoiaaGreatFC15
namespace Go.Y
open Go.Proofs
set_option maxRecDepth 1000000
set_option maxHeartbeats 0
noncomputable abbrev rng129 : List Code := Vk (flat (Za Tryz.f129))
noncomputable abbrev Zhc : List V := (mk 34 (([5, 7, 13] : List Nat).zip [.p (some (0, 0)), .p (some (1, 0)), .fn (.func 217) [] [.p (some (3, 0)), .p (some (2, 0))]])).map V.plain
def P129 (ins : List Ins) (ws : List Wat) (l : List Int) (use : Int) (i : Nat) (h : Heap) : Prop :=
 h.get 4 = some (.loop (rngL rng129 Zhc (UY.loc 129) .ready none)) ∧ h.get 3 = some (.arr [lst encI l] true) ∧ h.get 2 = some (.arr (XX ins ws) true) ∧ h.get 0 = some (.arr [.i .i64 use] true) ∧ 5 ≤ h.nx ∧
  ∃ a n c k, h.get 1 = some (.arr [.sl a n c k] true) ∧ OutI h a n c k (Xq ws (l.take i) use) ∧ (Xq ws (l.take i) use = [] → a = none) ∧ ∀ j o, a = some (j, o) → 5 ≤ j

theorem OutI.fr {h h' : Heap} {a : Option (Nat × Nat)} {n : Nat} {c : Option Nat} {k : Nat} {out : List Int} (hO : OutI h a n c k out) (hn : h.nx ≤ h'.nx) (hs : ∀ j, a = some (j, 0) → h'.get j = h.get j) : OutI h' a n c k out := by
 rcases hO with h1 | ⟨id, rfl, h2, h3, h4, h5, h6⟩
 ·exact .inl h1
 ·exact .inr ⟨id, rfl, h2, h3, h4, by omega, by rw [hs id rfl, h6]⟩
theorem Zd9 : ∀ (x y : List V), Zh x.length (x ++ y) = some x
 | [], y => by cases y <;> rfl
 | v :: x, y => by simp [Zh, Zd9 x y]

theorem Zhd (hs : XK UY.P 177) (hcm : ZU UY.P 178) (ins : List Ins) (ws : List Wat) (l : List Int) (use : Int) (hl : l.length < 2 ^ 26) : PCon UY 129 [.agg (XX ins ws), lst encI l, .i .i64 use] (· = lst encI (JG ws l use)) := by
 have hb1 : JL UY 177 := ⟨Tryz.f177, _, by kernel_rfl, rfl⟩
 have hb2 : JL UY 178 := ⟨Tryz.f178, _, by kernel_rfl, rfl⟩
 refine Zt UK (fn := Tryz.f129) (by kernel_rfl) (by kernel_rfl) rfl ?_
 refine Zhb UK 34 (fun K => Zzu (row ZC ins) ins.length (row ZD ws) ws.length (row encI l) l.length use .empty K) rfl (by kernel_rfl) ?_
 refine (Zou ins ws l _).mono fun v h' ⟨e1, e2⟩ => ⟨v, rfl, rfl, ?_⟩
 have e1 : v = .fn (.func 217) [] [.p (some (3, 0)), .p (some (2, 0))] := e1.trans (by simp only [Heap.nx_pushT, Heap.nx_push]; rfl)
 subst e1
 have gg : ∀ (H : Heap) (o1 o2 o3 o4 : YObj) (t : Option TypeId), H = (((Heap.empty.push o1).pushT t o2).push o3).push o4 → H.get 0 = some o1 ∧ H.get 1 = some o2 ∧ H.get 2 = some o3 ∧ H.get 3 = some o4 ∧ H.nx = 4 := by
  rintro H o1 o2 o3 o4 t rfl
  have e0 : Heap.empty.nx = 0 := rfl
  refine ⟨?_, ?_, ?_, ?_, ?_⟩
  all_goals simp [Heap.get_push, Heap.get_pushT, e0]
 obtain ⟨g0, g1, g2, g3, gn⟩ := gg h' _ _ _ _ _ e2
 have g0 : h'.get 0 = some (.arr [.i .i64 use] true) := g0
 clear e2
 refine Zd7 UK (loc := UY.loc 129) (l := rng129) (f := 217) (fa := []) (fc := [.p (some (3, 0)), .p (some (2, 0))]) (by kernel_rfl) (by kernel_rfl) ?_
 rw [gn]
 have hA0 : P129 ins ws l use 0 (h'.push (.loop (rngL rng129 Zhc (UY.loc 129) .ready none))) := by
  refine ⟨by rw [Heap.get_push, if_pos gn.symm], by rw [Heap.get_push, if_neg (by omega), g3], by rw [Heap.get_push, if_neg (by omega), g2], by rw [Heap.get_push, if_neg (by omega), g0], by simp; omega, none, 0, some 0, 0, by rw [Heap.get_push, if_neg (by omega), g1], .inl ⟨rfl, rfl, rfl, rfl, rfl⟩, fun _ => rfl, fun j o h => by cases h⟩
 refine (Zj5 ins ws l (j1 := 3) (j := 2) (P129 ins ws l use) (fun _ => False) (by omega) (fun i h hA => ⟨hA.2.1, hA.2.2.1⟩) ?_ ?_ hA0).mono ?_
 ·rintro i h hi ⟨a1, a2, a3, a4, a5, a, n, c, k, b1, b2, bz, b3⟩ hc
  have e : Xq ws (l.take (i + 1)) use = Xq ws (l.take i) use := by rw [List.take_succ_eq_append_getElem hi, Zak, hc]; simp
  exact ⟨a1, a2, a3, a4, a5, a, n, c, k, b1, by rw [e]; exact b2, by rw [e]; exact bz, b3⟩
 ·rintro i h hi w ⟨a1, a2, a3, a4, a5, a, n, c, k, b1, b2, bz, b3⟩ hc
  have hlen : (Xq ws (l.take i) use).length ≤ i := by have := VI ws (l.take i) use; simp at this; omega
  have hS : Xq ws (l.take (i + 1)) use = Xq ws (l.take i) use ++ (WO use w).toList := by
   rw [List.take_succ_eq_append_getElem hi, Zak, hc]; rfl
  refine Zd8 UK (loc := UY.loc 129) (fuel := 100) (n := 34) [5, 7, 9] (so2 := []) a1 rfl (fun K => Zzv 0 1 (.fn (.func 217) [] [.p (some (3, 0)), .p (some (2, 0))]) l[i] w.kind w.peer w.pk w.text w.to w.own w.at' h K) rfl ?_
  refine ⟨rfl, rfl, _, a1, rfl, _, _, _, fun K => Zzw 0 1 w.kind w.peer w.pk w.text w.to w.own w.at' (h.set 4 (some (.loop (rngL rng129 Zhc (UY.loc 129) .busy none)))) K, rfl, rfl, ?_⟩
  generalize hH : h.set 4 (some (.loop (rngL rng129 Zhc (UY.loc 129) .busy none))) = H
  have k4 : H.get 4 = some (.loop (rngL rng129 Zhc (UY.loc 129) .busy none)) := by rw [← hH, Heap.get_set, if_pos rfl]
  have k3 : H.get 3 = some (.arr [lst encI l] true) := by rw [← hH, Heap.get_set, if_neg (by decide), a2]
  have k2 : H.get 2 = some (.arr (XX ins ws) true) := by rw [← hH, Heap.get_set, if_neg (by decide), a3]
  have k0 : H.get 0 = some (.arr [.i .i64 use] true) := by rw [← hH, Heap.get_set, if_neg (by decide), a4]
  have k1 : H.get 1 = some (.arr [.sl a n c k] true) := by rw [← hH, Heap.get_set, if_neg (by decide), b1]
  have kn : 5 ≤ H.nx := by rw [← hH]; simpa using a5
  have kL : OutI H a n c k (Xq ws (l.take i) use) := b2.fr (by rw [← hH]; simp) (fun j hj => by rw [← hH, Heap.get_set, if_neg (by have := b3 j 0 hj; omega)])
  clear a1 a2 a3 a4 a5 b1 b2 hH
  -- a round that goes on
  have go : ∀ (h2 : Heap) (a' : Option (Nat × Nat)) (n' : Nat) (c' : Option Nat) (k' : Nat), h2.get 4 = H.get 4 → h2.get 3 = H.get 3 → h2.get 2 = H.get 2 → h2.get 0 = H.get 0 → 5 ≤ h2.nx → h2.get 1 = some (.arr [.sl a' n' c' k'] true) → OutI h2 a' n' c' k' (Xq ws (l.take (i + 1)) use) → (Xq ws (l.take (i + 1)) use = [] → a' = none) → (∀ j o, a' = some (j, o) → 5 ≤ j) →
    RdK 4 (fun v h' => (v = .b true ∧ P129 ins ws l use (i + 1) h') ∨ (v = .b false ∧ False)) .normal 34 [] h2 := by
   intro h2 a' n' c' k' q4 q3 q2 q0 qn q1 qL qz qj
   refine ⟨_, q4.trans k4, .inl ⟨rfl, ?_⟩⟩
   refine ⟨by rw [Heap.get_set, if_pos rfl]; rfl, by rw [Heap.get_set, if_neg (by decide), q3, k3], by rw [Heap.get_set, if_neg (by decide), q2, k2], by rw [Heap.get_set, if_neg (by decide), q0, k0], by simpa using qn, a', n', c', k', by rw [Heap.get_set, if_neg (by decide), q1], qL.fr (by simp) (fun j hj => by rw [Heap.get_set, if_neg (by have := qj j 0 hj; omega)]), qz, qj⟩
  have stay : WO use w = none → RdK 4 (fun v h' => (v = .b true ∧ P129 ins ws l use (i + 1) h') ∨ (v = .b false ∧ False)) .normal 34 [] H := fun hn =>
   go H a n c k rfl rfl rfl rfl kn k1 (by rw [hS, hn]; simpa using kL) (by rw [hS, hn]; simpa using bz) b3
  refine ⟨use, (Zo k0 0 1).trans rfl, _, Zyw w use, Zd (fun c2 => Qz (fun c3 => ?_) (fun c3 => stay ?_)) (fun c2 => stay ?_)⟩
  ·have c2 : w.kind ≠ 2 := by simpa using c2
   have hp : WO use w = some (ofS w use) := by unfold WO; rw [if_neg (by omega)]
   obtain ⟨a', n', c', k', h2, q1, q2, q3, j', e1, e2⟩ := JF _ (ofS w use) kL.lst (by omega)
   have fr : ∀ j, j < 5 → h2.get j = H.get j := fun j hj => q3.2 j (by omega) (fun o ho => by have := b3 j o ho; omega)
   refine ⟨a, n, c, k, (Zo k1 0 1).trans rfl, a', n', c', k', h2, q1, h2.set 1 (some (.arr [.sl a' n' c' k'] true)), ?_, ?_⟩
   ·unfold ZN; rw [fr 1 (by decide), k1]; rfl
   ·refine go _ a' n' c' k' ?_ ?_ ?_ ?_ ?_ ?_ ?_ ?_ ?_
    ·rw [Heap.get_set, if_neg (by decide), fr 4 (by decide)]
    ·rw [Heap.get_set, if_neg (by decide), fr 3 (by decide)]
    ·rw [Heap.get_set, if_neg (by decide), fr 2 (by decide)]
    ·rw [Heap.get_set, if_neg (by decide), fr 0 (by decide)]
    ·have := q3.1; simp; omega
    ·rw [Heap.get_set, if_pos rfl]
    ·rw [hS, hp]
     exact (Zfg q2 (by simp)).fr (by simp) (fun j hj => by rw [Heap.get_set, if_neg (by rw [e1] at hj; cases hj; omega)])
    ·rw [hS, hp]; intro h; simp at h
    ·intro j o hj; rw [e1] at hj; cases hj; omega
  ·unfold WO; rw [if_pos (.inr c3)]
  ·have c2 : w.kind = 2 := by simpa using c2
   unfold WO; rw [if_pos (.inl c2)]
 ·rintro v h2 hA
  have hA := hA.resolve_right (fun h => h)
  obtain ⟨a1, a2, a3, a4, a5, a, n, c, k, b1, b2, bz, b3⟩ := hA
  refine ⟨_, a1, (fun h => by cases h), ?_⟩
  rw [List.take_length] at b2 bz
  show TriL UY (rng129.drop 1) _ _
  refine Zgl (n := 34) [5, 7] (vs := [.p (some (0, 0)), .p (some (1, 0))]) (by kernel_rfl) Zu rfl ?_
  refine ZB UK (fun K => Zzx 0 1 (h2.set 4 none) K) rfl ?_
  have k1 : (h2.set 4 none).get 1 = some (.arr [.sl a n c k] true) := by rw [Heap.get_set, if_neg (by decide), b1]
  have kL : OutI (h2.set 4 none) a n c k (Xq ws l use) := b2.fr (by simp) (fun j hj => by rw [Heap.get_set, if_neg (by have := b3 j 0 hj; omega)])
  have hres : JG ws l use = ZZ (Ww (Xq ws l use)) := (Zg4 _).symm
  have hbd := VI ws l use
  rw [hres]
  generalize Xq ws l use = zs at kL hbd bz
  generalize h2.set 4 none = H at k1 kL
  clear b2 b1 a1 a2 a3 a4 a5 hres
  rcases kL with ⟨rfl, rfl, rfl, rfl, rfl⟩ | ⟨id, rfl, rfl, rfl, rfl, hid, hg⟩
  ·refine ⟨none, 0, some 0, 0, (Zo k1 0 1).trans rfl, (Zof hb1 hs).mono fun v h3 ⟨e1, e2⟩ => ⟨e1, none, 0, some 0, 0, ?_, (Zg3 hb2 hcm).mono fun v h4 ⟨e3, e4⟩ => ⟨none, 0, some 0, 0, e3, ?_⟩⟩⟩
   ·rw [e2]; exact (Zo k1 0 1).trans rfl
   ·exact Zs (.inr rfl) rfl (.sln _ _ none (fun x hx => by cases hx)) (by rw [Zg4]; rfl)
  ·by_cases hz : zs = []
   ·have := bz hz; cases this
   have hg' : H.get id = some (.arr (We zs) true) := by rw [hg, rowI]
   have hid1 : id ≠ 1 := by have := b3 id 0 rfl; omega
   have hsl : (Ww zs).length = zs.length := List.length_mergeSort _
   refine ⟨_, _, _, _, (Zo k1 0 1).trans rfl, (Zqx hb1 hs hg' hz (by omega)).mono fun v h3 ⟨e1, e2⟩ => ⟨e1, some (id, 0), zs.length, none, 1, ?_, ?_⟩⟩
   ·rw [e2, Zo (cs := [.sl (some (id, 0)) zs.length none 1]) (wr := true) (by rw [Heap.get_set, if_neg (Ne.symm hid1), k1])]; rfl
   have hg2 : h3.get id = some (.arr (We (Ww zs)) true) := by rw [e2, Heap.get_set, if_pos rfl]
   have hc2 := Zir hb2 hcm (c := none) (k := 1) hg2 (fun e => by rw [e] at hsl; exact hz (List.eq_nil_of_length_eq_zero hsl.symm)) (by omega)
   rw [hsl] at hc2
   refine hc2.mono fun v h4 ⟨e3, e4⟩ => ⟨_, _, _, _, e3, ?_⟩
   subst e4
   refine Zs (.inr rfl) rfl (.sl id 0 _ none 1 (We (Zqy (Ww zs))) true (We (ZZ (Ww zs))) (We (ZZ (Ww zs))) none (by rw [Heap.get_set, if_pos rfl]) ?_ (fun _ h => by cases h) (by decide) ?_) ?_
   ·rw [List.drop_zero, Nat.mul_one]
    have h2 := Zd9 (We (ZZ (Ww zs))) (We (List.replicate ((Ww zs).length - (ZZ (Ww zs)).length) 0))
    rw [List.length_map] at h2
    rw [← h2, We, List.map_append]
   ·have := Za9 (ZZ (Ww zs)) (h3.set id (some (.arr (We (Zqy (Ww zs))) true)))
    rwa [rowI] at this
   ·show V.ts (We _) _ _ = V.ts (row encI _) _ _
    rw [rowI]
def idxL (l : List Int) (x : Int) : Int := if l.any (fun y => y == x) then (l.findIdx (fun y => y == x) : Nat) else -1
theorem Zul (l : List Int) (x : Int) : leI 0 (idxL l x) = l.contains x := by
 rw [Wx]; unfold idxL
 cases l.any (fun y => y == x) with
 | true => simp [leI]
 | false => rfl
theorem Zum (l : List Int) (x : Int) (hl : l.length < 2 ^ 28) : PCon UY 90 [lst encI l, .i .i64 x] (· = .i .i64 (idxL l x)) := by
  refine Zt UK (fn := Tryz.f90) (by kernel_rfl) (by kernel_rfl) rfl ?_
  refine Zp UK 19 (fun K => ZDv (row encI l) l.length x .empty K) rfl (by kernel_rfl) ?_
  refine ⟨rfl, ZK [0, 1, 7, 8] [0, 1, 4, 7, 8] rfl (by kernel_rfl) (fun m vs _ => ∃ i : Nat, vs = [lst encI l, .i .i64 x, .i .i64 l.length, .i .i64 (i : Nat)] ∧ i ≤ l.length ∧ (l.take i).any (fun y => y == x) = false ∧ m = l.length - i) l.length Zu ⟨0, rfl, by omega, rfl, by omega⟩ ?_⟩
  rintro m vs h ⟨i, rfl, hi, hno, rfl⟩
  refine Zq UK (fun K => ZDw (row encI l) l.length x (i : Nat) h K) rfl ?_
  refine Zg (fun hlt => ?_) (fun hge => ?_)
  · refine ⟨bnd_nat hlt, _, Xw l hlt, Zd (fun hc => ?_) (fun hc => ?_)⟩
    · refine Zl (.inr rfl) rfl ⟨_, .i _ _, ?_⟩
      have hc : (l[i] == x) = true := by have : x = l[i] := by simpa using hc
                                         simpa using this.symm
      have h1 : l.any (fun y => y == x) = true := List.any_eq_true.2 ⟨l[i], List.getElem_mem hlt, hc⟩
      have h2 : l.findIdx (fun y => y == x) = i := (List.findIdx_eq hlt).2 ⟨hc, fun j hj => by
        have := List.any_eq_false.1 hno l[j] (List.mem_take_iff_getElem.2 ⟨j, by omega, rfl⟩)
        simpa using this⟩
      unfold idxL
      rw [if_pos h1, h2]
    · refine ⟨rfl, l.length - (i + 1), by omega, i + 1, by rw [Zf (by omega)]; rfl, by omega, ?_, rfl⟩
      have hc : ¬ x = l[i] := by simpa using hc
      rw [List.take_succ_eq_append_getElem hlt, List.any_append, hno]
      simp only [List.any_cons, List.any_nil, Bool.or_false, Bool.false_or, beq_eq_false_iff_ne]
      exact fun e => hc e.symm
  · refine Ze [] (by kernel_rfl) rfl rfl ?_
    refine ZB UK (fun K => ZDx h K) rfl ?_
    rw [List.take_of_length_le hge] at hno
    exact Zs (.inr rfl) rfl (.i _ _) (by unfold idxL; rw [hno]; rfl)
theorem Zll (l : List Int) (x : Int) (hl : l.length < 2 ^ 28) : PCon UY 41 [lst encI l, .i .i64 x] (· = .b (l.contains x)) :=
 Zz UK (fn := Tryz.f41) (by kernel_rfl) (by kernel_rfl) rfl (fun K => ZB9 (row encI l) l.length x .empty K) rfl ⟨_, Zum l x hl, Zs (.inr rfl) rfl (.b _) (by rw [Zul])⟩

/-! ### Heeds -/
noncomputable abbrev rng131 : List Code := Vk (flat (Za Tryz.f131))
noncomputable abbrev Zea : List V := (mk 38 (([6, 7, 8, 20] : List Nat).zip [.p (some (0, 0)), .p (some (1, 0)), .p (some (2, 0)), .fn (.func 217) [] [.p (some (4, 0)), .p (some (3, 0))]])).map V.plain
def A131 (ins : List Ins) (ws : List Wat) (l : List Int) (p use : Int) (i : Nat) (h : Heap) : Prop :=
 h.get 5 = some (.loop (rngL rng131 Zea (UY.loc 131) .ready none)) ∧ h.get 4 = some (.arr [lst encI l] true) ∧ h.get 3 = some (.arr (XX ins ws) true) ∧ h.get 0 = some (.arr [.i .i64 p] true) ∧ h.get 1 = some (.arr [.i .i64 use] true) ∧
  h.get 2 = some (.arr [.b false] true) ∧ ((l.take i).filterMap (cnt ws)).any (QY use p) = false
def D131 (ws : List Wat) (l : List Int) (p use : Int) (h : Heap) : Prop :=
 h.get 5 = some (.loop (rngL rng131 Zea (UY.loc 131) .done (some .ret))) ∧ h.get 2 = some (.arr [.b true] true) ∧ (l.filterMap (cnt ws)).any (QY use p) = true

theorem Zz2 {τ : St} {j : Nat} {x : Bool} (h8 : lv 8 τ = .p (some (j, 0))) (hg : τ.h.get j = some (.arr [.b x] true)) : XJ UY Tryz.f131 τ = some (.b x) := by
 have hr : Tryz.f131.results.toList = [.cell 8 4] := by kernel_rfl
 have ht : UY.ty 4 = some ⟨1, 1, .bool, [.b false]⟩ := by kernel_rfl
 have h8 : τ.env.getD 8 .undef = .p (some (j, 0)) := h8
 unfold XJ
 rw [hr]
 simp only [Qi, Wg, ht, addr, h8, Xc, hg]
 rfl
theorem Zov {so : List Nat} {o : Out} {n : Nat} {vs : List V} {h : Heap} {j : Nat} {x : Bool} {R : V} (ho : o = .normal ∨ o = .ret) (hv : Zb0 (so.zip vs) 8 = some (.p (some (j, 0)))) (hg : h.get j = some (.arr [.b x] true)) (hR : .b x = R) :
  AtV so (FinS UY Tryz.f131 fun v h => ∃ r, Frz h v r ∧ r = R) o n vs h := by
 rintro τ _ rfl rfl
 exact ⟨ho, _, Zz2 (Za7 hv) hg, _, .b _, hR⟩
theorem Zhe (ws : List Wat) (use p : Int) (l : List Int) {i : Nat} (hi : i < l.length) {w : Wat} (hc : cnt ws l[i] = some w) : ((l.take (i + 1)).filterMap (cnt ws)).any (QY use p) = (((l.take i).filterMap (cnt ws)).any (QY use p) || QY use p w) := by
 rw [List.take_succ_eq_append_getElem hi, List.filterMap_append, List.any_append]; simp [hc]

theorem Zow (hs : XK UY.P 177) (hcm : ZU UY.P 178) (ins : List Ins) (ws : List Wat) (l : List Int) (p use : Int) (hl : l.length < 2 ^ 26) : PCon UY 131 [.agg (XX ins ws), lst encI l, .i .i64 p, .i .i64 use] (· = .b (Zav ws l p use)) := by
 refine Zt UK (fn := Tryz.f131) (by kernel_rfl) (by kernel_rfl) rfl ?_
 refine Zhb UK 38 (fun K => Zzy (row ZC ins) ins.length (row ZD ws) ws.length (row encI l) l.length p use .empty K) rfl (by kernel_rfl) ?_
 have hP := Zhd hs hcm ins ws l use hl
 have hPl := Zal ws l use
 have hun : Zav ws l p use = ((JG ws l use).contains p && (l.filterMap (cnt ws)).any (QY use p)) := rfl
 rw [hun]
 generalize JG ws l use = P at hP hPl
 have gg : ∀ (H : Heap) (o1 o2 o3 : YObj) (t : Option TypeId), H = ((Heap.empty.push o1).push o2).pushT t o3 → H.get 0 = some o1 ∧ H.get 1 = some o2 ∧ H.get 2 = some o3 ∧ H.nx = 3 := by
  rintro H o1 o2 o3 t rfl
  have e0 : Heap.empty.nx = 0 := rfl
  refine ⟨?_, ?_, ?_, ?_⟩
  all_goals simp [Heap.get_push, Heap.get_pushT, e0]
 generalize hH : ((Heap.empty.push _).push _).pushT _ _ = H
 obtain ⟨g0, g1, g2, gn⟩ := gg H _ _ _ _ hH.symm
 have g0 : H.get 0 = some (.arr [.i .i64 p] true) := g0
 have g1 : H.get 1 = some (.arr [.i .i64 use] true) := g1
 clear hH
 refine ⟨use, (Zo (h := H) (id := 1) g1 0 1).trans rfl, row encI P, P.length, none, hP, p, (Zo (h := H) (id := 0) g0 0 1).trans rfl, _, Zll P p (by omega), Zd (fun c1 => ?_) (fun c1 => ?_)⟩
 ·have c1 : P.contains p = false := by simpa using c1
  refine ⟨H.set 2 (some (.arr [.b false] true)), ?_, Zov (j := 2) (x := false) (.inr rfl) rfl (by rw [Heap.get_set, if_pos rfl]) (by rw [c1]; rfl)⟩
  show ZN H 2 0 [.b false] = _
  unfold ZN; rw [g2]; rfl
 have c1 : P.contains p = true := by simpa using c1
 rw [c1, Bool.true_and]
 refine (Zou ins ws l H).mono fun v h' ⟨e1, e2⟩ => ⟨v, rfl, rfl, ?_⟩
 rw [gn] at e1
 subst e1
 have k0 : h'.get 0 = some (.arr [.i .i64 p] true) := by rw [e2]; simp [Heap.get_push, gn, g0]
 have k1 : h'.get 1 = some (.arr [.i .i64 use] true) := by rw [e2]; simp [Heap.get_push, gn, g1]
 have k2 : h'.get 2 = some (.arr [.b false] true) := by rw [e2]; simp [Heap.get_push, gn, g2]
 have k3 : h'.get 3 = some (.arr (XX ins ws) true) := by rw [e2]; simp [Heap.get_push, gn]
 have k4 : h'.get 4 = some (.arr [lst encI l] true) := by rw [e2]; simp [Heap.get_push, gn]
 have kn : h'.nx = 5 := by rw [e2]; simp [gn]
 clear e2
 refine Zd7 UK (loc := UY.loc 131) (l := rng131) (f := 217) (fa := []) (fc := [.p (some (4, 0)), .p (some (3, 0))]) (by kernel_rfl) (by kernel_rfl) ?_
 rw [kn]
 have hA0 : A131 ins ws l p use 0 (h'.push (.loop (rngL rng131 Zea (UY.loc 131) .ready none))) :=
  ⟨by rw [Heap.get_push, if_pos kn.symm], by rw [Heap.get_push, if_neg (by omega), k4], by rw [Heap.get_push, if_neg (by omega), k3], by rw [Heap.get_push, if_neg (by omega), k0], by rw [Heap.get_push, if_neg (by omega), k1], by rw [Heap.get_push, if_neg (by omega), k2], rfl⟩
 refine (Zj5 ins ws l (j1 := 4) (j := 3) (A131 ins ws l p use) (D131 ws l p use) (by omega) (fun i h hA => ⟨hA.2.1, hA.2.2.1⟩) ?_ ?_ hA0).mono ?_
 ·rintro i h hi ⟨a1, a2, a3, a4, a5, a6, a7⟩ hc
  exact ⟨a1, a2, a3, a4, a5, a6, by rw [List.take_succ_eq_append_getElem hi, List.filterMap_append, List.any_append, a7]; simp [hc]⟩
 ·rintro i h hi w ⟨a1, a2, a3, a4, a5, a6, a7⟩ hc
  have hS := Zhe ws use p l hi hc
  rw [a7, Bool.false_or] at hS
  refine Zd8 UK (loc := UY.loc 131) (fuel := 100) (n := 38) [6, 7, 8, 10] (so2 := []) a1 rfl (fun K => Zzz 0 1 2 (.fn (.func 217) [] [.p (some (4, 0)), .p (some (3, 0))]) l[i] w.kind w.peer w.pk w.text w.to w.own w.at' h K) rfl ?_
  refine ⟨rfl, rfl, _, a1, rfl, _, _, _, fun K => Zz0 0 1 2 w.kind w.peer w.pk w.text w.to w.own w.at' (h.set 5 (some (.loop (rngL rng131 Zea (UY.loc 131) .busy none)))) K, rfl, rfl, ?_⟩
  generalize hH : h.set 5 (some (.loop (rngL rng131 Zea (UY.loc 131) .busy none))) = H2
  have b5 : H2.get 5 = some (.loop (rngL rng131 Zea (UY.loc 131) .busy none)) := by rw [← hH, Heap.get_set, if_pos rfl]
  have b4 : H2.get 4 = some (.arr [lst encI l] true) := by rw [← hH, Heap.get_set, if_neg (by decide), a2]
  have b3 : H2.get 3 = some (.arr (XX ins ws) true) := by rw [← hH, Heap.get_set, if_neg (by decide), a3]
  have b0 : H2.get 0 = some (.arr [.i .i64 p] true) := by rw [← hH, Heap.get_set, if_neg (by decide), a4]
  have b1 : H2.get 1 = some (.arr [.i .i64 use] true) := by rw [← hH, Heap.get_set, if_neg (by decide), a5]
  have b2 : H2.get 2 = some (.arr [.b false] true) := by rw [← hH, Heap.get_set, if_neg (by decide), a6]
  have go : QY use p w = false → RdK 5 (fun v h' => (v = .b true ∧ A131 ins ws l p use (i + 1) h') ∨ (v = .b false ∧ D131 ws l p use h')) .normal 38 [] H2 := fun hn =>
   ⟨_, b5, .inl ⟨rfl, by rw [Heap.get_set, if_pos rfl]; rfl, by rw [Heap.get_set, if_neg (by decide), b4], by rw [Heap.get_set, if_neg (by decide), b3], by rw [Heap.get_set, if_neg (by decide), b0], by rw [Heap.get_set, if_neg (by decide), b1], by rw [Heap.get_set, if_neg (by decide), b2], by rw [hS, hn]⟩⟩
  have st : ZN H2 2 0 [.b true] = some (H2.set 2 (some (.arr [.b true] true))) := by unfold ZN; rw [b2]; rfl
  have stop : QY use p w = true → RdK 5 (fun v h' => (v = .b true ∧ A131 ins ws l p use (i + 1) h') ∨ (v = .b false ∧ D131 ws l p use h')) .ret 38 [] (H2.set 2 (some (.arr [.b true] true))) := fun hy =>
   ⟨_, by rw [Heap.get_set, if_neg (by decide)]; exact b5, .inr ⟨rfl, by rw [Heap.get_set, if_pos rfl]; rfl, by rw [Heap.get_set, if_neg (by decide), Heap.get_set, if_pos rfl], List.any_eq_true.2 ⟨w, List.mem_filterMap.2 ⟨l[i], List.getElem_mem hi, hc⟩, hy⟩⟩⟩
  refine Zd (fun c4 => ⟨_, st, stop (by unfold QY; rw [c4]; rfl)⟩) (fun c4 => Zd (fun c3 => ⟨use, (Zo b1 0 1).trans rfl, _, Zyw w use, p, (Zo b0 0 1).trans rfl, Zd (fun c5 => ⟨_, st, stop (by unfold QY; rw [c4, c3, c5]; rfl)⟩) (fun c5 => go (by unfold QY; rw [c4, c3, c5]; rfl))⟩) (fun c3 => go (by unfold QY; rw [c4, c3]; rfl)))
 ·rintro v h2 (hA | hD)
  ·obtain ⟨a1, a2, a3, a4, a5, a6, a7⟩ := hA
   refine ⟨_, a1, (fun h => by cases h), ?_⟩
   rw [List.take_length] at a7
   show TriL UY (rng131.drop 1) _ _
   refine Zgl (n := 38) [6, 7, 8] (vs := [.p (some (0, 0)), .p (some (1, 0)), .p (some (2, 0))]) (by kernel_rfl) Zu rfl ?_
   refine Zq (slots := [8]) UK (K := fun o n vs h => AtV [8] (FinS UY Tryz.f131 fun v h => ∃ r, Frz h v r ∧ r = .b ((l.filterMap (cnt ws)).any (QY use p))) o n vs h) (fun K => Zz1 0 1 2 (h2.set 5 none) K) rfl ?_ |>.mono fun o σ' ho => ho σ' rfl rfl rfl
   refine ⟨(h2.set 5 none).set 2 (some (.arr [.b false] true)), ?_, Zov (j := 2) (x := false) (.inr rfl) rfl (by rw [Heap.get_set, if_pos rfl]) (by rw [a7])⟩
   unfold ZN; rw [Heap.get_set, if_neg (by decide), a6]; rfl
  ·obtain ⟨d1, d2, d3⟩ := hD
   refine ⟨_, d1, (fun h => by cases h), ?_⟩
   exact Zov (so := [8]) (vs := [.p (some (2, 0))]) (n := 38) (j := 2) (x := true) (.inr rfl) rfl (by rw [Heap.get_set, if_neg (by decide)]; exact d2) (by rw [d3]) _ Zu rfl rfl
end Go.Y
