/- Match, by contracts. -/
import Derived.Test.YtpddiafjmkjpmaaGMay
import Derived.Test.YtpddiafjmkjpmaaGA1
namespace Go.Y
open Go.Proofs
set_option maxRecDepth 100000

theorem in1_con {h : Heap} {id : Nat} {c : Int} (hc : hcells h id 0 1 = some [.i .u8 c]) (x : Span) : RCon Try.Y 94 [.agg (encS x), .p (some (id, 0))] h (.b (leI x.lo c && leI c x.hi)) := by
  refine ⟨h, ?_, fun _ _ => rfl, fun _ h => h⟩
  refine conz_of Try.Yok (fn := Try.f94) (by kernel_rfl) (by kernel_rfl) (end_rule Try.Yok (loc := Try.Y.loc 94) 100 [3] ?_)
  refine Eq.mpr (f94b_0 x.lo x.hi id h _) ?_
  refine ⟨_, hc, if_mk (fun h1 => ⟨_, hc, ?_⟩) (fun h1 => ?_)⟩
  · exact finC (.inr rfl) rfl (.now ⟨by rw [h1, Bool.true_and]; rfl, rfl⟩)
  · exact finC (.inr rfl) rfl (.now ⟨by rw [h1, Bool.false_and]; rfl, rfl⟩)

theorem indexIn (id : Nat) (l : List Span) (p : Span → Bool) (h : Heap) (hl : l.length < 2 ^ 30) (hp : ∀ x ∈ l, RCon Try.Y 94 [.agg (encS x), .p (some (id, 0))] h (.b (p x))) :
    Con Try.Y 114 [lst encS l, .fn (.func 94) [] [.p (some (id, 0))]] h fun v h' => ∃ n : Int, v = .i .i64 n ∧ leI 0 n = l.any p ∧ h' = h := by
  refine conz_of Try.Yok (fn := Try.f114) (by kernel_rfl) (by kernel_rfl) ?_
  refine pre_rule Try.Yok (n := 19) (loc := Try.Y.loc 114) 100 [0, 1, 7, 8] (by kernel_rfl) ?_
  refine Eq.mpr (f114b_0 (row encS l) l.length id h _) ?_
  refine ⟨rfl, loop2 [0, 1, 7, 8] [0, 1, 4, 7, 8] rfl (by kernel_rfl) (fun m vs h' => ∃ i : Nat, vs = [lst encS l, .fn (.func 94) [] [.p (some (id, 0))], .i .i64 l.length, .i .i64 (i : Nat)] ∧ i ≤ l.length ∧ (l.take i).any p = false ∧ m = l.length - i ∧ h' = h) l.length mk_len ⟨0, rfl, by omega, rfl, by omega, rfl⟩ ?_⟩
  rintro m vs h' ⟨i, rfl, hi, hno, rfl, rfl⟩
  refine all_rule Try.Yok (loc := Try.Y.loc 114) 100 [0, 1, 4, 7, 8] ?_
  refine Eq.mpr (f114b_1 (row encS l) l.length id (i : Nat) h' _) ?_
  refine if_lt_nat (fun hlt => ?_) (fun hge => ?_)
  · have hget : takeX 2 (List.drop ((i : Int).toNat * 2) (row encS l)) = some (encS l[i]) := by rw [Int.toNat_natCast]; exact row_get (f := encS) (k := 2) (fun _ => rfl) hlt
    refine ⟨bnd_nat hlt, _, _, hget, p l[i], hp l[i] (List.getElem_mem hlt), if_mk (fun hc => ?_) (fun hc => ?_)⟩
    · refine fin_at (.inr rfl) rfl (.now ⟨(i : Nat), rfl, ?_, rfl⟩)
      have : l.any p = true := List.any_eq_true.2 ⟨l[i], List.getElem_mem hlt, hc⟩
      rw [this]; simp [leI]
    · refine ⟨rfl, l.length - (i + 1), by omega, i + 1, ?_, by omega, ?_, rfl, rfl⟩
      · rw [wrap_succ (by omega)]; rfl
      · rw [List.take_succ_eq_append_getElem hlt, List.any_append, hno]; simp [hc]
  · refine roundW_exit [] (by kernel_rfl) rfl rfl ?_
    refine end_rule Try.Yok (loc := Try.Y.loc 114) 100 [4] ?_
    refine Eq.mpr (f114b_2 h' _) ?_
    rw [List.take_of_length_le hge] at hno
    exact finC (.inr rfl) rfl (.now ⟨-1, rfl, by rw [hno]; rfl, rfl⟩)

theorem containsIn (id : Nat) (l : List Span) (p : Span → Bool) (h : Heap) (hl : l.length < 2 ^ 30) (hp : ∀ x ∈ l, RCon Try.Y 94 [.agg (encS x), .p (some (id, 0))] h (.b (p x))) :
    Con Try.Y 93 [lst encS l, .fn (.func 94) [] [.p (some (id, 0))]] h fun v h' => v = .b (l.any p) ∧ h' = h := by
  refine conz_of Try.Yok (fn := Try.f93) (by kernel_rfl) (by kernel_rfl) (end_rule Try.Yok (loc := Try.Y.loc 93) 100 [4] ?_)
  refine Eq.mpr (f93b_0 (row encS l) l.length id h _) ?_
  refine (indexIn id l p h hl hp).mono fun v h' ⟨n, e1, e2, e3⟩ => ⟨n, e1, ?_⟩
  subst e3
  rw [e2]
  exact finC (.inr rfl) rfl (.now ⟨rfl, rfl⟩)

theorem fits_con (g : Glob) (c : Int) (hs : g.sp.length < 2 ^ 30) : PCon Try.Y 51 [.agg (encG g), .i .u8 c] (· = .b (fitsS g c)) := by
  refine pcon_of Try.Yok (fn := Try.f51) (by kernel_rfl) (by kernel_rfl) rfl (end_rule Try.Yok (loc := Try.Y.loc 51) 100 [4] ?_)
  refine Eq.mpr (f51_0 g.k g.b (row encS g.sp) g.sp.length c .empty _) ?_
  have hc : hcells (Heap.empty.push (.arr [.i .u8 c] true)) Heap.empty.nx 0 1 = some [.i .u8 c] := by simp [hcells, Heap.get_push, takeX]
  refine if_mk (fun h0 => ⟨_, hc, finV1 (.inr rfl) rfl (.b _) ?_⟩) (fun h0 => if_mk (fun h1 => finV1 (.inr rfl) rfl (.b _) ?_) (fun h1 => ?_))
  · have h0 : g.k = 0 := by simpa using h0
    simp [fitsS, h0]
  · have h0 : g.k ≠ 0 := by simpa using h0
    simp [fitsS, h0, h1]
  · have h0 : g.k ≠ 0 := by simpa using h0
    refine (containsIn _ g.sp (fun x => leI x.lo c && leI c x.hi) _ hs fun x _ => in1_con hc x).mono fun v h' ⟨e1, e2⟩ => ⟨_, e1, finV1 (.inr rfl) rfl (.b _) ?_⟩
    simp [fitsS, h0, h1]

def RFitsI (g : Glob) (c : Int) (m : Nat) (vs : List V) (_ : Heap) : Prop :=
  ∃ (i : Nat) (b : Bool), vs = [.i .u8 c, .lb (encG g), .b b, .i .i64 (i : Nat), .undef] ∧ b = (g.k == 1 || (g.sp.take i).any fun x => leI x.lo c && leI c x.hi) ∧ i ≤ g.sp.length ∧ m = g.sp.length - i

theorem rfits_con (g : Glob) (c : Int) (hs : g.sp.length < 2 ^ 30) : PCon Try.Y 76 [.agg (encG g), .i .u8 c] (· = .b (fitsS g c)) := by
  refine pcon_of Try.Yok (fn := Try.f76) (by kernel_rfl) (by kernel_rfl) rfl ?_
  refine pre_rule Try.Yok (n := 46) (loc := Try.Y.loc 76) 100 [1, 2, 4, 5, 6, 10] (by kernel_rfl) ?_
  refine Eq.mpr (f76_0 g.k g.b (row encS g.sp) g.sp.length c .empty _) ?_
  refine if_mk (fun h0 => fin_at (.inr rfl) rfl ⟨_, .b _, ?_⟩) (fun h0 => ?_)
  · have h0 : g.k = 0 := by simpa using h0
    simp [fitsS, h0, V.plain]
  have h0 : g.k ≠ 0 := by simpa using h0
  refine ⟨rfl, loop2 [1, 2, 5, 6, 10] [1, 2, 5, 6, 10] rfl (by kernel_rfl) (RFitsI g c) g.sp.length mk_len ⟨0, _, rfl, by simp, by omega, by omega⟩ ?_⟩
  rintro m vs h' ⟨i, b, rfl, hb, hi, rfl⟩
  refine all_rule Try.Yok (loc := Try.Y.loc 76) 100 [1, 2, 5, 6, 10] ?_
  refine Eq.mpr (f76_1 g.k g.b (row encS g.sp) g.sp.length c b (i : Nat) h' _) ?_
  refine if_lt_nat (fun hlt => ?_) (fun hge => ?_)
  · have rc := row_cons encS_len g.sp hlt
    rw [Int.toNat_natCast, rc, wrap_succ (by omega)]
    have next : ∀ b' : Bool, b' = (b || (leI g.sp[i].lo c && leI c g.sp[i].hi)) → RoundW Try.Y 46 [1, 2, 5, 6, 10] [1, 2, 5, 6, 10] (RFitsI g c) (g.sp.length - i)
        (loopId (post (flat (bodyOf Try.f76)))) ((post (flat (bodyOf Try.f76))).drop 1) (FinS Try.Y Try.f76 fun v h => ∃ r, Frz h v r ∧ r = .b (fitsS g c)) .normal 46 [.i .u8 c, .lb (encG g), .b b', .i .i64 ((i + 1 : Nat) : Int), .undef] h' := by
      intro b' hb'
      refine ⟨rfl, g.sp.length - (i + 1), by omega, i + 1, b', rfl, ?_, by omega, rfl⟩
      rw [hb', hb, List.take_succ_eq_append_getElem hlt, List.any_append, Bool.or_assoc]
      simp
    refine if_mk (fun hbt => next _ (by rw [hbt]; rfl)) (fun hbf => ?_)
    refine ⟨bnd_nat hlt, _, rfl, if_mk (fun h1 => ⟨bnd_nat hlt, _, rfl, next _ (by rw [hbf, h1]; rfl)⟩) (fun h1 => next _ (by rw [hbf, h1]; rfl))⟩
  · refine roundW_exit [5] (by kernel_rfl) rfl rfl ?_
    refine end_rule Try.Yok (loc := Try.Y.loc 76) 100 [4] ?_
    refine Eq.mpr (f76_2 b h' _) ?_
    rw [List.take_of_length_le hge] at hb
    refine finV1 (.inr rfl) rfl (.b _) ?_
    simp [fitsS, h0, hb, V.plain]
end Go.Y
