/- souffleurref16.Write and souffleurref17, by contracts. -/
import Derived.Test.YtpddiafjmkjpmaaGLine
import Derived.Test.YtpddiafjmkjpmaaGD7
namespace Go.Y
open Go.Proofs
set_option maxRecDepth 100000
set_option maxHeartbeats 1000000

/-! ### Write -/
theorem kd41 : Try.Y.kd 41 = some (.slice 3) := by kernel_rfl
theorem ty3 : Try.Y.ty 3 = some ⟨1, 8, .int .i64, [.i .i64 0]⟩ := by kernel_rfl
theorem colds1_rowI (l : List Int) : colds1 (row encI l) = true := by
  rw [rowI]
  induction l with
  | nil => rfl
  | cons a l ih => simp only [List.map_cons, colds1, ih, Bool.and_true]; rfl
theorem lstI_obj {h : Heap} {id : Nat} {l : List Int} (hid : id < h.nx) (hg : h.get id = some (.arr (row encI l) true)) : Lst encI 1 h (some (id, 0)) l.length none 1 l :=
  ⟨⟨row encI l, ⟨by rw [row_length encI_len], .inr ⟨id, rfl, rfl, rfl, hid, hg⟩⟩, colds1_rowI l, frzL_row (f := encI) (fun _ => rfl) _ l⟩, rfl⟩
theorem ints_app1 (l : List Int) (x : Int) {h : Heap} {a : Option (Nat × Nat)} {n : Nat} {c : Option Nat} {k : Nat} (hL : Lst encI 1 h a n c k l) (hl : l.length < 2 ^ 29) :
    ∃ a' n' c' k' h', appendH Try.Y h 41 41 (.sl a n c k) (.ts [.i .i64 x] 1 (some 1)) = some (.sl a' n' c' k', h') ∧ Lst encI 1 h' a' n' c' k' (l ++ [x]) ∧ Fr h a h' ∧ ∃ j, a' = some (j, 0) ∧ h.nx ≤ j :=
  Lst.app1 (Y := Try.Y) (e := 3) (te := ⟨1, 8, .int .i64, [.i .i64 0]⟩) x kd41 ty3 rfl (by decide) hL (.cons _ _ _ _ (.i _ _) .nil) rfl rfl rfl (by decide) hl
theorem ints_app0 (x : Int) (h : Heap) : appendH Try.Y h 41 41 (.ts [] 0 (some 0)) (.ts [.i .i64 x] 1 (some 1)) = some (.sl (some (h.nx, 0)) 1 none 1, h.push (.arr [.i .i64 x] true)) :=
  clone_app (n := 0) (cs := [.i .i64 x]) kd41 ty3 (by decide) (by decide) rfl rfl (by decide) h
theorem ints_copy (l : List Int) (h0 : l ≠ []) (hl : l.length < 2 ^ 29) (h : Heap) : appendH Try.Y h 41 41 (.ts [] 0 (some 0)) (lst encI l) = some (.sl (some (h.nx, 0)) l.length none 1, h.push (.arr (row encI l) true)) := by
  cases l with
  | nil => exact absurd rfl h0
  | cons a l =>
    have h1 := rowI_len (a :: l)
    simp only [List.length_cons] at h1 hl
    exact clone_app (n := l.length) (cs := row encI (a :: l)) kd41 ty3 (by decide) (by decide) (takeX_len (by rw [h1]; exact (Nat.mul_one _))) (rowI_all _) (by omega) h

def WrI (s : Side) (t : List UInt8) (m : Nat) (vs : List V) (h : Heap) : Prop :=
  ∃ (i : Nat) (v : V), vs = [.s t, .lb (sideC s), .lb side0, v, .i .i64 (i : Nat)] ∧ i ≤ t.length ∧ m = t.length - i ∧
    ((i = 0 ∧ s.ages = [] ∧ v = .ts [] 0 (some 0)) ∨ ∃ a l c k, v = .sl a l c k ∧ Lst encI 1 h a l c k (s.ages ++ List.replicate i 0))

theorem rwrite_con (s : Side) (cap : Int) (cs : List V) (n : Nat) (t : List UInt8) (hl : s.ages.length < 2 ^ 28) (hf : s.fly.length < 2 ^ 30) (ht : t.length < 2 ^ 28) :
    PCon Try.Y 109 [.agg (sideC s), .agg [.i .i64 cap, .ts cs n none], .s t] (· = .tup [.agg (sideC (writeS s cap t).1), .b (writeS s cap t).2]) := by
  refine pcon_of Try.Yok (fn := Try.f109) (by kernel_rfl) (by kernel_rfl) rfl ?_
  refine pre_rule Try.Yok (n := 38) (loc := Try.Y.loc 109) 100 [2, 3, 6, 7, 8, 9] (by kernel_rfl) ?_
  refine Eq.mpr (f109_0 s.on s.shut s.eof s.place s.clock s.typed (row encT s.lines) s.lines.length s.fly (row encI s.ages) s.ages.length s.ready s.buffer cap cs n t .empty _) ?_
  refine ⟨_, rroom_con s cap cs n, if_lt (fun hlt => ?_) (fun hge => ?_)⟩
  · have : writeS s cap t = (s, false) := by unfold writeS; rw [if_pos hlt]
    rw [this]
    refine fin_at (.inr rfl) (v := .tup [.agg (sideC s), .b false]) rfl ⟨_, .tup _ _ (.cons _ _ _ _ (frz_sideL (frz_ts _ _ _ _) (frz_ts _ _ _ _)) (.cons _ _ _ _ (.b _) .nil)), rfl⟩
  have hw : writeS s cap t = ({ s with fly := s.fly ++ t, ages := s.ages ++ List.replicate t.length 0 }, true) := by unfold writeS; rw [if_neg (by omega)]
  rw [hw]
  have main : ∀ (v : V) (h : Heap), ((s.ages = [] ∧ v = .ts [] 0 (some 0)) ∨ ∃ a l c k, v = .sl a l c k ∧ Lst encI 1 h a l c k s.ages) →
      PreV Try.Y 38 [2, 3, 6, 7, 8, 9] (post (flat (bodyOf Try.f109))) (FinS Try.Y Try.f109 fun v h => ∃ r, Frz h v r ∧ r = .tup [.agg (sideC { s with fly := s.fly ++ t, ages := s.ages ++ List.replicate t.length 0 }), .b true])
        .normal 38 [.s t, .lb (sideC s), .lb side0, .b false, v, .i .i64 0] h := by
    intro v h hv
    refine ⟨rfl, loop2 [2, 3, 6, 8, 9] [2, 3, 6, 8, 9] rfl (by kernel_rfl) (WrI s t) t.length mk_len ⟨0, v, rfl, by omega, by omega, ?_⟩ ?_⟩
    · rcases hv with ⟨h1, h2⟩ | ⟨a, l, c, k, h1, h2⟩
      · exact .inl ⟨rfl, h1, h2⟩
      · exact .inr ⟨a, l, c, k, h1, by simpa using h2⟩
    rintro m vs h ⟨i, v, rfl, hi, rfl, hv⟩
    have step : ∀ (a : Option (Nat × Nat)) (l : Nat) (c : Option Nat) (k : Nat) (h1 : Heap), i < t.length → Lst encI 1 h1 a l c k (s.ages ++ List.replicate i 0 ++ [0]) → RoundW Try.Y 38 [2, 3, 6, 8, 9] [2, 3, 6, 8, 9] (WrI s t) (t.length - i) (loopId (post (flat (bodyOf Try.f109)))) ((post (flat (bodyOf Try.f109))).drop 1)
        (FinS Try.Y Try.f109 fun v h => ∃ r, Frz h v r ∧ r = .tup [.agg (sideC { s with fly := s.fly ++ t, ages := s.ages ++ List.replicate t.length 0 }), .b true]) .normal 38 [.s t, .lb (sideC s), .lb side0, .sl a l c k, .i .i64 (IntKind.i64.wrap ((i : Nat) + 1))] h1 := by
      intro a l c k h1 hlt hL
      refine ⟨rfl, t.length - (i + 1), by omega, i + 1, .sl a l c k, by rw [wrap_succ (by omega)]; rfl, by omega, rfl, .inr ⟨a, l, c, k, rfl, ?_⟩⟩
      rw [List.replicate_succ', ← List.append_assoc]; exact hL
    have fin : ∀ (x : V) (h : Heap), Frz h x (lst encI (s.ages ++ List.replicate t.length 0)) → Fin Try.Y Try.f109 [6, 7] (fun v h => ∃ r, Frz h v r ∧ r = .tup [.agg (sideC { s with fly := s.fly ++ t, ages := s.ages ++ List.replicate t.length 0 }), .b true]) .ret 38
        [.lb (sideL { s with fly := s.fly ++ t } (lst encT s.lines) x), .b true] h := by
      intro x h hx
      exact finV2 (.inr rfl) rfl (frz_sideL (s := { s with fly := s.fly ++ t }) (frz_ts _ _ _ _) hx) (.b _) rfl
    refine all_rule Try.Yok (loc := Try.Y.loc 109) 100 [2, 3, 6, 8, 9] ?_
    rcases hv with ⟨rfl, h0, rfl⟩ | ⟨a, l, c, k, rfl, hL⟩
    · refine Eq.mpr (f109e_1 s.on s.shut s.eof s.place s.clock s.typed (row encT s.lines) s.lines.length s.fly (row encI s.ages) s.ages.length s.ready s.buffer t h _) ?_
      refine if_lt (fun hlt => ?_) (fun hge => ?_)
      · refine .inl ⟨_, _, _, _, _, ints_app0 0 h, step _ _ _ _ _ (by omega) ?_⟩
        rw [h0]
        exact lstI_obj (l := [0]) (by simp) (by simp; rfl)
      · refine roundW_exit [2, 3, 6, 8] (by kernel_rfl) rfl rfl ?_
        refine end_rule Try.Yok (loc := Try.Y.loc 109) 100 [6, 7] ?_
        refine Eq.mpr (f109e_2 s.on s.shut s.eof s.place s.clock s.typed (row encT s.lines) s.lines.length s.fly (row encI s.ages) s.ages.length s.ready s.buffer t h _) ?_
        refine ⟨by omega, fin _ _ ?_⟩
        have : t.length = 0 := by omega
        rw [h0, this]
        exact frz_ts _ _ _ _
    · refine Eq.mpr (f109_1 s.on s.shut s.eof s.place s.clock s.typed (row encT s.lines) s.lines.length s.fly (row encI s.ages) s.ages.length s.ready s.buffer t a l c k (i : Nat) h _) ?_
      refine if_lt_nat (fun hlt => ?_) (fun hge => ?_)
      · obtain ⟨a', l', c', k', h', q1, q2, _, _⟩ := ints_app1 (s.ages ++ List.replicate i 0) 0 hL (by simp; omega)
        exact ⟨a', l', c', k', h', q1, step _ _ _ _ _ hlt q2⟩
      · refine roundW_exit [2, 3, 6, 8] (by kernel_rfl) rfl rfl ?_
        refine end_rule Try.Yok (loc := Try.Y.loc 109) 100 [6, 7] ?_
        refine Eq.mpr (f109_2 s.on s.shut s.eof s.place s.clock s.typed (row encT s.lines) s.lines.length s.fly (row encI s.ages) s.ages.length s.ready s.buffer t a l c k h _) ?_
        refine ⟨by omega, fin _ _ ?_⟩
        have : i = t.length := by omega
        subst this
        exact hL.frz (by decide) encI_len
  by_cases h0 : s.ages = []
  · refine .inr ⟨?_, main _ _ (.inl ⟨h0, rfl⟩)⟩
    rw [h0]
    exact clone_app0 kd41 ty3 (by decide) _ _ _
  · exact .inl ⟨_, _, _, _, _, ints_copy s.ages h0 (by omega) _, main _ _ (.inr ⟨_, _, _, _, rfl, lstI_obj (by simp) (by simp)⟩)⟩

/-! ### echo -/
theorem recho_con (s : Side) (cap : Int) (l : List Plc) (t : List UInt8) (p0 : 0 ≤ s.place) (p1 : s.place < l.length) (hl : s.ages.length < 2 ^ 28) (hf : s.fly.length < 2 ^ 30) (ht : t.length < 2 ^ 28) :
    PCon Try.Y 78 [.agg (sideC s), .agg (peerC cap l), .s t] (· = .agg (sideC (echoS s cap l t))) := by
  refine pcon_of Try.Yok (fn := Try.f78) (by kernel_rfl) (by kernel_rfl) rfl (end_rule Try.Yok (loc := Try.Y.loc 78) 100 [6] ?_)
  refine Eq.mpr (f78_0 s.on s.shut s.eof s.place s.clock s.typed (row encT s.lines) s.lines.length s.fly (row encI s.ages) s.ages.length s.ready s.buffer cap (row encPl l) l.length t .empty _) ?_
  refine ⟨⟨p0, p1⟩, echoAt l s.place, place_echo p0 p1, if_mk (fun he => ?_) (fun he => ?_)⟩
  · have ew : echoS s cap l t = (writeS s cap t).1 := by unfold echoS; rw [if_pos he]
    rw [ew]
    have hw := rwrite_con s cap (row encPl l) l.length t hl hf ht
    generalize writeS s cap t = w at hw
    exact ⟨w.1.on, w.1.shut, w.1.eof, w.1.place, w.1.clock, w.1.typed, row encT w.1.lines, w.1.lines.length, none, w.1.fly, row encI w.1.ages, w.1.ages.length, none, w.1.ready, w.1.buffer, w.2, hw,
      finV1 (.inr rfl) rfl (frz_sideL (frz_ts _ _ _ _) (frz_ts _ _ _ _)) rfl⟩
  · have ew : echoS s cap l t = s := by unfold echoS; rw [he]; rfl
    rw [ew]
    exact finV1 (.inr rfl) rfl (frz_sideL (frz_ts _ _ _ _) (frz_ts _ _ _ _)) rfl
end Go.Y

/- souffleurref17.Type, by its contract. -/
namespace Go.Y
open Go.Proofs
set_option maxRecDepth 100000
set_option maxHeartbeats 2000000

/-- souffleurref16.May of any side. -/
theorem rmaySd_con (s : Side) (cap : Int) (l : List Plc) (hn : ∀ x ∈ l, x.name.length < 2 ^ 30) (hl : s.ages.length < 2 ^ 30) (hll : s.lines.length < 2 ^ 30) (hty : s.typed.length < 2 ^ 30) (hle : ∀ x ∈ s.lines, x.length < 2 ^ 30) :
    PCon Try.Y 24 [.agg (sideC s), .agg (peerC cap l)] (· = .b (maySd s l.length cap (peerS cap l))) := by
  unfold maySd
  cases hon : s.on with
  | true => rw [if_pos rfl]; exact rmayOn_con s cap (row encPl l) l.length _ (rpeer_con cap l hn) hl hon hty hle
  | false => rw [if_neg (by decide)]; exact rmayOff_con s cap (row encPl l) l.length _ (rpeer_con cap l hn) hl hon hty hle hll

theorem strs_copy (l : List (List UInt8)) (h0 : l ≠ []) (hl : l.length < 2 ^ 29) (h : Heap) : appendH Try.Y h 34 34 (.ts [] 0 (some 0)) (lst encT l) = some (.sl (some (h.nx, 0)) l.length none 1, h.push (.arr (row encT l) true)) := by
  cases l with
  | nil => exact absurd rfl h0
  | cons a l =>
    have h1 := rowT_len (a :: l)
    simp only [List.length_cons] at h1 hl
    exact clone_app (n := l.length) (cs := row encT (a :: l)) kd34 ty9 (by decide) (by decide) (takeX_len (by rw [h1]; exact Nat.mul_one _)) (rowT_all _) (by omega) h

theorem FrzAL.side0 {h : Heap} {s : Side} {ln ln' ag : V} (hl : FrzA h ln ln') : FrzAL h (sideL s ln ag) (sideL s ln' ag) := by
  have := FrzAL.side (s := s) (ag := ag) [] hl
  rwa [List.append_nil, List.append_nil] at this

/-- An echo of a side whose lines were just built. -/
theorem echo_cool (s : Side) (cap : Int) (l : List Plc) (t : List UInt8) {h : Heap} {a : Option (Nat × Nat)} {n : Nat} {c : Option Nat} {k : Nat} (hL : Lst encT 1 h a n c k s.lines) (p0 : 0 ≤ s.place) (p1 : s.place < l.length) (hl : s.ages.length < 2 ^ 28) (hf : s.fly.length < 2 ^ 30) (ht : t.length < 2 ^ 28) :
    Con Try.Y 78 [.agg (sideL s (.sl a n c k) (lst encI s.ages)), .agg (peerC cap l), .s t] h fun v _ => v = .agg (sideC (echoS s cap l t)) := by
  obtain ⟨D, hD, _⟩ := hL.afterZ (by decide) encT_len
  exact (Con.ofP D (.cons _ _ _ _ (.agg _ _ (FrzAL.side0 (.frz _ _ hD))) (FrzAL.refl _)) (recho_con s cap l t p0 p1 hl hf ht)).mono fun v h' ⟨e1, _⟩ => e1

def RTypeI (s : Side) (cap : Int) (l : List Plc) (t : List UInt8) (m : Nat) (vs : List V) (_ : Heap) : Prop :=
  ∃ (i : Nat) (s1 : Side), vs = [.s t, .lb (sideC s1), .lb (peerC cap l), .lb side0, .i .i64 (i : Nat)] ∧ i ≤ t.length ∧ m = t.length - i ∧ OkS s1 cap l.length ∧ typeL cap l (t.drop i) s1 = typeL cap l t s

theorem rtype_con (s : Side) (cap : Int) (l : List Plc) (t : List UInt8) (hn : ∀ x ∈ l, x.name.length < 2 ^ 30) (hle : ∀ x ∈ s.lines, x.length < 2 ^ 30) (hty0 : s.typed.length < 2 ^ 30)
    (hl : s.ages.length ≤ 1000) (hll : s.lines.length ≤ 1000) (hr : s.ready.length ≤ 1000) (hf : s.fly.length ≤ 1000) (ht : t.length ≤ 1000) :
    PCon Try.Y 34 [.agg (sideC s), .agg (peerC cap l), .s t] (· = .tup [.agg (sideC (typeS s cap l t).1), .i .i64 (typeS s cap l t).2]) := by
  refine pcon_of Try.Yok (fn := Try.f34) (by kernel_rfl) (by kernel_rfl) rfl ?_
  refine pre_rule Try.Yok (n := 71) (loc := Try.Y.loc 34) 100 [2, 3, 4, 6, 7, 8] (by kernel_rfl) ?_
  refine Eq.mpr (f34_0 s.on s.shut s.eof s.place s.clock s.typed (row encT s.lines) s.lines.length s.fly (row encI s.ages) s.ages.length s.ready s.buffer cap (row encPl l) l.length t .empty _) ?_
  have bad : ∀ (so : List Nat) (vs : List V) (h : Heap) (e : Int), typeS s cap l t = (side00, e) → resV Try.Y Try.f34 (so.zip vs) = some (.tup [.agg side0, .i .i64 e]) → AtV so (FinS Try.Y Try.f34 fun v h => ∃ r, Frz h v r ∧ r = .tup [.agg (sideC (typeS s cap l t).1), .i .i64 (typeS s cap l t).2]) .ret 71 vs h := by
    intro so vs h e he hv
    refine fin_at (.inr rfl) hv ⟨_, .tup _ _ (.cons _ _ _ _ (frz_00 h) (.cons _ _ _ _ (.i _ _) .nil)), ?_⟩
    rw [he]
  refine ⟨_, rmaySd_con s cap l hn (by omega) (by omega) hty0 hle, if_mk (fun h1 => bad _ _ _ 5 ?_ rfl) (fun h1 => if_mk (fun h2 => bad _ _ _ 11 ?_ rfl) (fun h2 => if_mk (fun h3 => bad _ _ _ 13 ?_ rfl) (fun h3 => ?_)))⟩
  · unfold typeS; rw [if_pos (by simpa using h1)]
  · unfold typeS; rw [if_neg (by simpa using h1), if_pos (by simpa using h2)]
  · unfold typeS; rw [if_neg (by simpa using h1), if_neg (by simpa using h2), if_pos h3]
  have h1 : maySd s l.length cap (peerS cap l) = true := by simpa using h1
  have h2 : s.on = true := by simpa using h2
  have hm : mayOn s l.length cap (peerS cap l) = true := by unfold maySd at h1; rw [h2] at h1; exact h1
  obtain ⟨c1, c2⟩ := peer_cap (mayOn_pm hm)
  have g0 := (OkS.of h3 h2 hr hf c1 c2 hm).1
  have hty : typeS s cap l t = match typeL cap l t s with
      | none => (side00, 9)
      | some s' => (s', 0) := by unfold typeS; rw [h1, h2, h3]; rfl
  refine ⟨rfl, loop2 [2, 3, 4, 6, 8] [2, 3, 4, 6, 7, 8] rfl (by kernel_rfl) (RTypeI s cap l t) t.length mk_len ⟨0, s, rfl, by omega, by omega, g0, rfl⟩ ?_⟩
  rintro m vs h ⟨i, s1, rfl, hi, rfl, g, hp⟩
  refine all_rule Try.Yok (loc := Try.Y.loc 34) 100 [2, 3, 4, 6, 7, 8] ?_
  refine Eq.mpr (f34_1 s1.place s1.clock s1.typed (row encT s1.lines) s1.lines.length s1.fly (row encI s1.ages) s1.ages.length s1.ready s1.buffer cap (row encPl l) l.length t s1.on s1.shut s1.eof false false false (i : Nat) h _) ?_
  have hrm := g.rm
  have hag := g.ag
  have hln := g.ln
  refine if_lt_nat (fun hlt => ?_) (fun hge => ?_)
  · rw [wrap_succ (i := i) (by omega)]
    have u10 : (((t[i].toNat : Nat) : Int) == 10) = (t[i] == 10) := by
      rw [show (10 : Int) = (((10 : UInt8).toNat : Nat) : Int) by decide, u8_eq]
    rw [List.drop_eq_getElem_cons hlt, typeL] at hp
    have next : ∀ (s2 : Side) (h : Heap), byteS s1 cap l t[i] = some s2 → RoundW Try.Y 71 [2, 3, 4, 6, 7, 8] [2, 3, 4, 6, 8] (RTypeI s cap l t) (t.length - i) (loopId (post (flat (bodyOf Try.f34)))) ((post (flat (bodyOf Try.f34))).drop 1)
        (FinS Try.Y Try.f34 fun v h => ∃ r, Frz h v r ∧ r = .tup [.agg (sideC (typeS s cap l t).1), .i .i64 (typeS s cap l t).2]) .normal 71 [.s t, .lb (sideC s2), .lb (peerC cap l), .lb side0, .undef, .i .i64 ((i + 1 : Nat) : Int)] h := by
      intro s2 h hb
      rw [hb] at hp
      exact ⟨rfl, t.length - (i + 1), by omega, i + 1, s2, rfl, by omega, rfl, g.byte c1 c2 hb, hp⟩
    refine ⟨t[i], ⟨by omega, by rw [Int.toNat_natCast]; exact List.getElem?_eq_getElem hlt⟩, ?_⟩
    rw [u10]
    refine if_mk (fun h10 => ?_) (fun h10 => ?_)
    · have hc : t[i] = 10 := by simpa using h10
      refine if_le (fun h2 => ?_) (fun h2 => ?_)
      · refine bad _ _ _ 9 ?_ rfl
        have : byteS s1 cap l t[i] = none := by unfold byteS; rw [if_pos hc, if_pos (by omega)]
        rw [this] at hp
        rw [hty, ← hp]
      have hb : byteS s1 cap l t[i] = some (echoS { s1 with lines := s1.lines ++ [s1.typed], typed := [] } cap l [13, 10]) := by unfold byteS; rw [if_pos hc, if_neg (by omega)]
      by_cases h0 : s1.lines = []
      · refine .inr ⟨by rw [h0]; exact clone_app0 kd34 ty9 (by decide) _ _ _, .inl ⟨_, _, _, _, _, strs_app0 s1.typed h, ?_⟩⟩
        have hL : Lst encT 1 (h.push (.arr [.s s1.typed] true)) (some (h.nx, 0)) 1 none 1 (s1.lines ++ [s1.typed]) := by
          have : s1.lines ++ [s1.typed] = [s1.typed] := by rw [h0]; rfl
          rw [this]
          exact lst_obj (l := [s1.typed]) (by simp) (by simp; rfl)
        refine (echo_cool { s1 with lines := s1.lines ++ [s1.typed], typed := [] } cap l [13, 10] hL g.p0 g.p1 (by simp only; omega) (by simp only; omega) (by decide)).mono fun v h' hv => ?_
        generalize echoS { s1 with lines := s1.lines ++ [s1.typed], typed := [] } cap l [13, 10] = w at hb hv
        exact ⟨w.on, w.shut, w.eof, w.place, w.clock, w.typed, row encT w.lines, w.lines.length, none, w.fly, row encI w.ages, w.ages.length, none, w.ready, w.buffer, hv, next w h' hb⟩
      · have hL0 : Lst encT 1 (h.push (.arr (row encT s1.lines) true)) (some (h.nx, 0)) s1.lines.length none 1 s1.lines := lst_obj (by simp) (by simp)
        obtain ⟨a', n', c', k', h', q1, hL, _, _⟩ := strs_app1 s1.lines s1.typed hL0 (by omega)
        refine .inl ⟨_, _, _, _, _, strs_copy s1.lines h0 (by omega) h, a', n', c', k', h', q1, ?_⟩
        refine (echo_cool { s1 with lines := s1.lines ++ [s1.typed], typed := [] } cap l [13, 10] hL g.p0 g.p1 (by simp only; omega) (by simp only; omega) (by decide)).mono fun v h' hv => ?_
        generalize echoS { s1 with lines := s1.lines ++ [s1.typed], typed := [] } cap l [13, 10] = w at hb hv
        exact ⟨w.on, w.shut, w.eof, w.place, w.clock, w.typed, row encT w.lines, w.lines.length, none, w.fly, row encI w.ages, w.ages.length, none, w.ready, w.buffer, hv, next w h' hb⟩
    · have hc : t[i] ≠ 10 := by simpa using h10
      refine if_lt (fun hl16 => ?_) (fun hge => ?_)
      · have hb : byteS s1 cap l t[i] = some (echoS { s1 with typed := s1.typed ++ [t[i]] } cap l [t[i]]) := by unfold byteS; rw [if_neg hc, if_pos (by omega)]
        have hsub : List.take (((i + 1 : Nat) : Int).toNat - ((i : Nat) : Int).toNat) (List.drop ((i : Nat) : Int).toNat t) = [t[i]] := by
          rw [Int.toNat_natCast, Int.toNat_natCast, List.drop_eq_getElem_cons hlt, show i + 1 - i = 1 by omega]; rfl
        rw [hsub]
        have hcon := (Con.ofP (h := h) [] (FrzAL.refl _) (recho_con { s1 with typed := s1.typed ++ [t[i]] } cap l [t[i]] g.p0 g.p1 (by simp only; omega) (by simp only; omega) (by simp)))
        rw [killD_nil] at hcon
        generalize echoS { s1 with typed := s1.typed ++ [t[i]] } cap l [t[i]] = w at hb hcon
        exact ⟨⟨by omega, by omega⟩, ⟨by omega, by omega⟩, by simp; omega, ⟨by omega, by omega⟩, ⟨by omega, by omega⟩, w.on, w.shut, w.eof, w.place, w.clock, w.typed, row encT w.lines, w.lines.length, none, w.fly, row encI w.ages, w.ages.length, none, w.ready, w.buffer, h, hcon, next w h hb⟩
      · have hb : byteS s1 cap l t[i] = some s1 := by unfold byteS; rw [if_neg hc, if_neg (by omega)]
        exact next s1 h hb
  · refine roundW_exit [3, 6] (by kernel_rfl) rfl rfl ?_
    refine end_rule Try.Yok (loc := Try.Y.loc 34) 100 [6, 7] ?_
    refine Eq.mpr (f34_2 s1.place s1.clock (row encT s1.lines) s1.lines.length (row encI s1.ages) s1.ages.length s1.on s1.shut s1.eof s1.typed s1.fly s1.ready s1.buffer false false false [] [] [] [] h _) ?_
    have : i = t.length := by omega
    subst this
    rw [List.drop_length, typeL] at hp
    rw [← hp] at hty
    exact finV2 (.inr rfl) rfl (frz_sideL (frz_ts _ _ _ _) (frz_ts _ _ _ _)) (.i _ _) (by rw [hty])
end Go.Y

/- line.Next, souffleurref17.Next and line.Waits, by contracts. -/
namespace Go.Y
open Go.Proofs
set_option maxRecDepth 100000

def nextLn (s : Side) : Side × Int := match s.lines with
  | [] => (side00, 10)
  | _ :: r => ({ s with lines := r }, 0)

theorem rowT_take1 (l : List (List UInt8)) : List.take ((l.length - 1) * 1) (List.drop (1 * 1) (row encT l)) = row encT (l.drop 1) := by
  rw [row_one, row_one, ← List.map_drop, List.take_of_length_le (by simp)]

theorem nextLn_con (s : Side) (hl : s.lines.length < 2 ^ 29) : PCon Try.Y 35 [.agg (sideC s)] (· = .tup [.agg (sideC (nextLn s).1), .i .i64 (nextLn s).2]) := by
  refine pcon_of Try.Yok (fn := Try.f35) (by kernel_rfl) (by kernel_rfl) rfl (end_rule Try.Yok (loc := Try.Y.loc 35) 100 [2, 3] ?_)
  refine Eq.mpr (f35_0 s.on s.shut s.eof s.place s.clock s.typed (row encT s.lines) s.lines.length s.fly (row encI s.ages) s.ages.length s.ready s.buffer .empty _) ?_
  cases hln : s.lines with
  | nil =>
    have e : nextLn s = (side00, 10) := by unfold nextLn; rw [hln]
    rw [e]
    exact if_mk (fun _ => finV2 (.inr rfl) rfl (frz_00 _) (.i _ _) rfl) (fun h => by simp at h)
  | cons a r =>
    have e : nextLn s = ({ s with lines := r }, 0) := by unfold nextLn; rw [hln]
    rw [e]
    refine if_mk (fun h => by simp at h; omega) (fun _ => ⟨⟨by omega, by simp; omega⟩, ?_⟩)
    have hag : List.take (((a :: r).length - 1) * 1) (List.drop (1 * 1) (row encT (a :: r))) = row encT r := rowT_take1 (a :: r)
    have hlen : (a :: r).length - 1 = r.length := by simp
    have fin : ∀ (x : V) (h : Heap), Frz h x (lst encT r) → Fin Try.Y Try.f35 [2, 3] (fun v h => ∃ q, Frz h v q ∧ q = .tup [.agg (sideC { s with lines := r }), .i .i64 0]) .ret 15 [.lb (sideL s x (lst encI s.ages)), .i .i64 0] h := by
      intro x h hx
      exact finV2 (.inr rfl) rfl (frz_sideL (s := { s with lines := r }) hx (frz_ts _ _ _ _)) (.i _ _) rfl
    by_cases h0 : r = []
    · refine .inr ⟨[], 0, some 0, ?_, fin _ _ (by rw [h0]; exact frz_ts _ _ _ _)⟩
      rw [h0]; exact clone79e none
    · refine .inl (?_ : Con Try.Y 79 [.ts (List.take (((a :: r).length - 1) * 1) (List.drop (1 * 1) (row encT (a :: r)))) ((a :: r).length - 1) none] .empty _)
      rw [hag, hlen]
      refine (clone79n r none .empty h0 (by rw [hln] at hl; simp at hl; omega)).mono fun v h' ⟨e1, e2⟩ => ⟨_, _, _, _, e1, ?_⟩
      have hL : Lst encT 1 h' (some (Heap.empty.nx, 0)) r.length none 1 r := lst_obj (by rw [e2]; simp) (by rw [e2]; simp)
      exact fin _ _ (hL.frz (by decide) encT_len)

theorem rnextLn_con (s : Side) (hl : s.lines.length < 2 ^ 29) : PCon Try.Y 36 [.agg (sideC s)] (· = .tup [.agg (sideC (nextLn s).1), .i .i64 (nextLn s).2]) := by
  refine pcon_of Try.Yok (fn := Try.f36) (by kernel_rfl) (by kernel_rfl) rfl (end_rule Try.Yok (loc := Try.Y.loc 36) 100 [2, 3] ?_)
  refine Eq.mpr (f36_0 s.on s.shut s.eof s.place s.clock s.typed (row encT s.lines) s.lines.length s.fly (row encI s.ages) s.ages.length s.ready s.buffer .empty _) ?_
  cases hln : s.lines with
  | nil =>
    have e : nextLn s = (side00, 10) := by unfold nextLn; rw [hln]
    rw [e]
    exact if_mk (fun _ => finV2 (.inr rfl) rfl (frz_00 _) (.i _ _) rfl) (fun h => by simp at h)
  | cons a r =>
    have e : nextLn s = ({ s with lines := r }, 0) := by unfold nextLn; rw [hln]
    rw [e]
    have hag : List.take (((a :: r).length - 1) * 1) (List.drop (1 * 1) (row encT (a :: r))) = row encT r := rowT_take1 (a :: r)
    have hlen : (a :: r).length - 1 = r.length := by simp
    have fin : ∀ (x : V) (h : Heap), Frz h x (lst encT r) → Fin Try.Y Try.f36 [2, 3] (fun v h => ∃ q, Frz h v q ∧ q = .tup [.agg (sideC { s with lines := r }), .i .i64 0]) .ret 16 [.lb (sideL s x (lst encI s.ages)), .i .i64 0] h := by
      intro x h hx
      exact finV2 (.inr rfl) rfl (frz_sideL (s := { s with lines := r }) hx (frz_ts _ _ _ _)) (.i _ _) rfl
    refine if_mk (fun h => by simp at h; omega) (fun _ => ⟨⟨by omega, by simp; omega⟩, ?_⟩)
    have i1 : Int.toNat (1 : Int) = 1 := rfl
    simp only [i1]
    rw [hag, hlen]
    by_cases h0 : r = []
    · refine .inr ⟨by rw [h0]; exact clone_app0 kd34 ty9 (by decide) _ _ _, fin _ _ (by rw [h0]; exact frz_ts _ _ _ _)⟩
    · have hL : Lst encT 1 (Heap.empty.push (.arr (row encT r) true)) (some (Heap.empty.nx, 0)) r.length none 1 r := lst_obj (by simp) (by simp)
      exact .inl ⟨_, _, _, _, _, strs_copy r h0 (by rw [hln] at hl; simp at hl; omega) .empty, fin _ _ (hL.frz (by decide) encT_len)⟩

def waitsS (s : Side) : List UInt8 × Bool := match s.lines with
  | [] => ([], false)
  | a :: _ => (a, true)
theorem waits_con (s : Side) : PCon Try.Y 37 [.agg (sideC s)] (· = .tup [.s (waitsS s).1, .b (waitsS s).2]) := by
  refine pcon_of Try.Yok (fn := Try.f37) (by kernel_rfl) (by kernel_rfl) rfl (end_rule Try.Yok (loc := Try.Y.loc 37) 100 [2, 3] ?_)
  refine Eq.mpr (f37_0 s.on s.shut s.eof s.place s.clock s.typed (row encT s.lines) s.lines.length s.fly (row encI s.ages) s.ages.length s.ready s.buffer .empty _) ?_
  cases hln : s.lines with
  | nil =>
    have e : waitsS s = ([], false) := by unfold waitsS; rw [hln]
    rw [e]
    exact if_mk (fun _ => finV2 (.inr rfl) rfl (.s _) (.b _) rfl) (fun h => by simp at h)
  | cons a r =>
    have e : waitsS s = (a, true) := by unfold waitsS; rw [hln]
    rw [e]
    exact if_mk (fun h => by simp at h; omega) (fun _ => ⟨⟨by omega, by simp⟩, a, rfl, finV2 (.inr rfl) rfl (.s _) (.b _) rfl⟩)
end Go.Y
