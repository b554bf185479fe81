/- pipe.May of a side that is off, by its contract. -/
import Derived.Test.YtpddiafjmkjpmaaGPipe3
import Derived.Test.YtpddiafjmkjpmaaGEdge
import Derived.Test.YtpddiafjmkjpmaaGSmall
namespace Go.Y
open Go.Proofs
set_option maxRecDepth 100000
def mayOff (s : Side) (np : Nat) (cap : Int) (pm : Bool) : Bool :=
  pm && decide (0 ≤ s.place) && decide (s.place < np) && decide (0 ≤ s.clock) && lineS s.typed && decide (s.lines.length ≤ 2) && s.lines.all lineS && agedS s && decide (0 ≤ roomS s cap) && decide (s.buffer.length ≤ 64) && decide (s = side00)

theorem mayOff_con (s : Side) (cap : Int) (cs : List V) (np : Nat) (pm : Bool) (hp : PCon Try.Y 55 [.agg [.i .i64 cap, .ts cs np none]] (· = .b pm)) (hl : s.ages.length < 2 ^ 30) (hon : s.on = false) (hll : s.lines.length < 2 ^ 30) :
    PCon Try.Y 23 [.agg (sideC s), .agg [.i .i64 cap, .ts cs np none]] (· = .b (mayOff s np cap pm)) := by
  refine pcon_of Try.Yok (fn := Try.f23) (by kernel_rfl) (by kernel_rfl) rfl (end_rule Try.Yok (loc := Try.Y.loc 23) 100 [4] ?_)
  refine Eq.mpr (f23_0 s.on s.shut s.eof s.place s.clock s.typed (row encT s.lines) s.lines.length s.fly (row encI s.ages) s.ages.length s.ready s.buffer cap cs np .empty _) ?_
  have fin : ∀ (b : Bool) (h : Heap), b = mayOff s np cap pm → Fin Try.Y Try.f23 [4] (fun v h => ∃ r, Frz h v r ∧ r = .b (mayOff s np cap pm)) .ret 107 [.b b] h := fun b h e => finV1 (.inr rfl) rfl (.b _) (by rw [e])
  refine ⟨pm, hp, if_mk (fun h1 => fin _ _ (by simp at h1; simp [mayOff, h1])) (fun h1 => ?_)⟩
  have h1 : pm = true := by simpa using h1
  refine if_lt (fun h2 => fin _ _ (by have : ¬ 0 ≤ s.place := by omega
                                      simp [mayOff, this])) (fun h2 => ?_)
  refine if_le (fun h3 => fin _ _ (by have : ¬ s.place < np := by omega
                                      simp [mayOff, this])) (fun h3 => ?_)
  refine if_lt (fun h4 => fin _ _ (by have : ¬ 0 ≤ s.clock := by omega
                                      simp [mayOff, this])) (fun h4 => ?_)
  refine ⟨_, line_con s.typed, if_mk (fun h5 => fin _ _ (by simp at h5; simp [mayOff, h5])) (fun h5 => ?_)⟩
  have h5 : lineS s.typed = true := by simpa using h5
  refine if_lt (fun h6 => fin _ _ (by have : ¬ s.lines.length ≤ 2 := by omega
                                      simp [mayOff, this])) (fun h6 => ?_)
  refine (containsLn s.lines (fun x => !lineS x) .empty hll (fun x _ => notline_con x)).mono fun v h' ⟨e1, e2⟩ => ⟨_, e1, ?_⟩
  rw [any_not]
  refine if_mk (fun h7 => fin _ _ (by have : s.lines.all lineS = false := by simpa using h7
                                      simp only [mayOff, this, Bool.and_false, Bool.false_and])) (fun h7 => ?_)
  have h7 : s.lines.all lineS = true := by simpa using h7
  refine ⟨_, aged_con s hl, if_mk (fun h8 => fin _ _ (by simp at h8; simp [mayOff, h8])) (fun h8 => ?_)⟩
  have h8 : agedS s = true := by simpa using h8
  refine ⟨_, room_con s cap cs np, if_lt (fun h9 => fin _ _ (by have : ¬ 0 ≤ roomS s cap := by omega
                                                                simp [mayOff, this])) (fun h9 => ?_)⟩
  refine if_lt (fun h10 => fin _ _ (by have : ¬ s.buffer.length ≤ 64 := by omega
                                       simp [mayOff, this])) (fun h10 => ?_)
  have e : mayOff s np cap pm = decide (s = side00) := by
    have g2 : 0 ≤ s.place := by omega
    have g3 : s.place < np := by omega
    have g4 : 0 ≤ s.clock := by omega
    have g6 : s.lines.length ≤ 2 := by omega
    have g9 : 0 ≤ roomS s cap := by omega
    have g10 : s.buffer.length ≤ 64 := by omega
    simp only [mayOff, h1, h5, h7, h8, g2, g3, g4, g6, g9, g10, decide_true, Bool.true_and]
  rw [e] at fin ⊢
  refine if_mk (fun _ => ⟨_, (same_con s side00 hll hl).wk ?_, fin _ _ rfl⟩) (fun h => by rw [hon] at h; cases h)
  have wn : Wk0 (.sl none 0 (some 0) 0) (.ts [] 0 none) := .inr (.inl ⟨_, _, _, rfl, rfl, fun x hx => by cases hx⟩)
  exact .agg _ _ _ _ (WkL.refl _) (.agg _ _ _ _ (.cons _ _ _ _ (.refl _) (.cons _ _ _ _ (.refl _) (.cons _ _ _ _ (.refl _) (.cons _ _ _ _ (.refl _) (.cons _ _ _ _ (.refl _) (.cons _ _ _ _ (.refl _) (.cons _ _ _ _ wn (.cons _ _ _ _ (.refl _) (.cons _ _ _ _ wn (WkL.refl _)))))))))) .nil)
end Go.Y

/- souffleurref16.Same, by its contract. -/
namespace Go.Y
open Go.Proofs
set_option maxRecDepth 100000

theorem rsideSame_con (a b : Side) (hl : a.lines.length < 2 ^ 30) (ha : a.ages.length < 2 ^ 30) : PCon Try.Y 38 [.agg (sideC a), .agg (sideC b)] (· = .b (decide (a = b))) := by
  refine pcon_of Try.Yok (fn := Try.f38) (by kernel_rfl) (by kernel_rfl) rfl ?_
  refine pre_rule Try.Yok (n := 122) (loc := Try.Y.loc 38) 100 [2, 3, 4, 5] (by kernel_rfl) ?_
  refine Eq.mpr (f38_0 a.on a.shut a.eof a.place a.clock a.typed (row encT a.lines) a.lines.length a.fly (row encI a.ages) a.ages.length a.ready a.buffer b.on b.shut b.eof b.place b.clock b.typed (row encT b.lines) b.lines.length b.fly (row encI b.ages) b.ages.length b.ready b.buffer .empty _) ?_
  have no : ∀ h, (a = b → False) → ∃ r, Frz h (.b false) r ∧ r = .b (decide (a = b)) := fun h e => ⟨_, .b _, by rw [decide_eq_false e]⟩
  refine if_mk (fun g => fin_at (.inr rfl) rfl (no _ fun e => by rw [e] at g; simp at g)) (fun g0 => ?_)
  refine if_mk (fun g => fin_at (.inr rfl) rfl (no _ fun e => by rw [e] at g; simp at g)) (fun g1 => ?_)
  refine if_mk (fun g => fin_at (.inr rfl) rfl (no _ fun e => by rw [e] at g; simp at g)) (fun g2 => ?_)
  refine if_mk (fun g => fin_at (.inr rfl) rfl (no _ fun e => by rw [e] at g; simp at g)) (fun g3 => ?_)
  refine if_mk (fun g => fin_at (.inr rfl) rfl (no _ fun e => by rw [e] at g; simp at g)) (fun g4 => ?_)
  refine if_mk (fun g => fin_at (.inr rfl) rfl (no _ fun e => by rw [e] at g; simp at g)) (fun g5 => ?_)
  refine if_mk (fun g => fin_at (.inr rfl) rfl (no _ fun e => by rw [e] at g; simp at g)) (fun g6 => ?_)
  refine if_mk (fun g => fin_at (.inr rfl) rfl (no _ fun e => by rw [e] at g; simp at g)) (fun g7 => ?_)
  refine if_mk (fun g => fin_at (.inr rfl) rfl (no _ fun e => by rw [e] at g; simp at g)) (fun g8 => ?_)
  refine if_mk (fun g => fin_at (.inr rfl) rfl (no _ fun e => by rw [e] at g; simp at g)) (fun g9 => ?_)
  refine if_mk (fun g => fin_at (.inr rfl) rfl (no _ fun e => by rw [e] at g; simp at g)) (fun g10 => ?_)
  have e9 : a.lines.length = b.lines.length := by simp at g9; omega
  have e10 : a.ages.length = b.ages.length := by simp at g10; omega
  refine ⟨rfl, loop2 [2, 3, 5] [2, 3, 4, 5] rfl (by kernel_rfl) (fun m vs _ => ∃ i : Nat, vs = [.lb (sideC a), .lb (sideC b), .i .i64 (i : Nat)] ∧ i ≤ a.lines.length ∧ m = a.lines.length - i ∧ a.lines.take i = b.lines.take i) a.lines.length mk_len ⟨0, rfl, by omega, by omega, rfl⟩ ?_⟩
  rintro m vs h ⟨i, rfl, hi, rfl, hs⟩
  refine all_rule Try.Yok (loc := Try.Y.loc 38) 100 [2, 3, 4, 5] ?_
  refine Eq.mpr (f38_1 ..) ?_
  refine if_lt_nat (fun hlt => ?_) (fun hge => ?_)
  · have hlt' : i < b.lines.length := by omega
    refine ⟨bnd_nat hlt, a.lines[i], by rw [Int.toNat_natCast]; exact row_get (f := encT) (k := 1) encT_len hlt, bnd_nat hlt', b.lines[i], by rw [Int.toNat_natCast]; exact row_get (f := encT) (k := 1) encT_len hlt', if_mk (fun hc => ?_) (fun hc => ?_)⟩
    · have hc : a.lines[i] ≠ b.lines[i] := by simpa using hc
      exact fin_at (.inr rfl) rfl (no _ fun e => by subst e; exact hc rfl)
    · have hc : a.lines[i] = b.lines[i] := by simpa using hc
      exact ⟨rfl, a.lines.length - (i + 1), by omega, i + 1, by rw [wrap_succ (by omega)]; rfl, by omega, rfl, take_more hs hlt hlt' hc⟩
  have el : a.lines = b.lines := take_same hs hge (by omega)
  refine roundW_exit [2, 3] (by kernel_rfl) rfl rfl ?_
  refine pre_rule Try.Yok (n := 122) (loc := Try.Y.loc 38) 100 [2, 3, 6] (by kernel_rfl) ?_
  refine Eq.mpr (f38_2 ..) ?_
  refine ⟨rfl, loop2 [2, 3, 6] [2, 3, 4, 6] rfl (by kernel_rfl) (fun m vs _ => ∃ i : Nat, vs = [.lb (sideC a), .lb (sideC b), .i .i64 (i : Nat)] ∧ i ≤ a.ages.length ∧ m = a.ages.length - i ∧ a.ages.take i = b.ages.take i) a.ages.length mk_len ⟨0, rfl, by omega, by omega, rfl⟩ ?_⟩
  rintro m vs h ⟨i, rfl, hi, rfl, hs⟩
  refine all_rule Try.Yok (loc := Try.Y.loc 38) 100 [2, 3, 4, 6] ?_
  refine Eq.mpr (f38_3 ..) ?_
  refine if_lt_nat (fun hlt => ?_) (fun hge => ?_)
  · have hlt' : i < b.ages.length := by omega
    refine ⟨bnd_nat hlt, a.ages[i], by rw [Int.toNat_natCast]; exact row_get (f := encI) (k := 1) encI_len hlt, bnd_nat hlt', b.ages[i], by rw [Int.toNat_natCast]; exact row_get (f := encI) (k := 1) encI_len hlt', if_mk (fun hc => ?_) (fun hc => ?_)⟩
    · have hc : a.ages[i] ≠ b.ages[i] := by simpa using hc
      exact fin_at (.inr rfl) rfl (no _ fun e => by subst e; exact hc rfl)
    · have hc : a.ages[i] = b.ages[i] := by simpa using hc
      exact ⟨rfl, a.ages.length - (i + 1), by omega, i + 1, by rw [wrap_succ (by omega)]; rfl, by omega, rfl, take_more hs hlt hlt' hc⟩
  have ea : a.ages = b.ages := take_same hs hge (by omega)
  refine roundW_exit [] (by kernel_rfl) rfl rfl ?_
  refine end_rule Try.Yok (loc := Try.Y.loc 38) 100 [4] ?_
  refine Eq.mpr (f38_4 h _) ?_
  refine finV1 (.inr rfl) rfl (.b _) ?_
  clear no
  obtain ⟨a0, a1, a2, a3, a4, a5, a6, a7, a8, a9, a10⟩ := a
  obtain ⟨b0, b1, b2, b3, b4, b5, b6, b7, b8, b9, b10⟩ := b
  simp at g0 g1 g2 g3 g4 g5 g6 g7 g8 el ea
  simp [g0, g1, g2, g3, g4, g5, g6, g7, g8, el, ea]
end Go.Y

/- souffleurref16.May of a side that is off, by its contract. -/
namespace Go.Y
open Go.Proofs
set_option maxRecDepth 100000
set_option maxHeartbeats 2000000

theorem rmayOff_con (s : Side) (cap : Int) (cs : List V) (np : Nat) (pm : Bool) (hp : PCon Try.Y 47 [.agg [.i .i64 cap, .ts cs np none]] (· = .b pm)) (hl : s.ages.length < 2 ^ 30) (hon : s.on = false) (hty : s.typed.length < 2 ^ 30) (hll : ∀ x ∈ s.lines, x.length < 2 ^ 30) (hlb : s.lines.length < 2 ^ 30) :
    PCon Try.Y 24 [.agg (sideC s), .agg [.i .i64 cap, .ts cs np none]] (· = .b (mayOff s np cap pm)) := by
  refine pcon_of Try.Yok (fn := Try.f24) (by kernel_rfl) (by kernel_rfl) rfl ?_
  refine pre_rule Try.Yok (n := 153) (loc := Try.Y.loc 24) 100 [2, 3, 4, 5, 7, 9, 11, 13, 16] (by kernel_rfl) ?_
  refine Eq.mpr (f24_0 s.on s.shut s.eof s.place s.clock s.typed (row encT s.lines) s.lines.length s.fly (row encI s.ages) s.ages.length s.ready s.buffer cap cs np .empty _) ?_
  have no : ∀ h, false = mayOff s np cap pm → ∃ r, Frz h (.b false) r ∧ r = .b (mayOff s np cap pm) := fun h e => ⟨_, .b _, by rw [e]⟩
  refine ⟨pm, hp, if_mk (fun h1 => fin_at (.inr rfl) rfl (no _ (by simp at h1; simp [mayOff, h1]))) (fun h1 => ?_)⟩
  have h1 : pm = true := by simpa using h1
  refine if_lt (fun h2 => fin_at (.inr rfl) rfl (no _ (by have : ¬ 0 ≤ s.place := by omega
                                                          simp [mayOff, this]))) (fun h2 => ?_)
  refine if_le (fun h3 => fin_at (.inr rfl) rfl (no _ (by have : ¬ s.place < np := by omega
                                                          simp [mayOff, this]))) (fun h3 => ?_)
  refine if_lt (fun h4 => fin_at (.inr rfl) rfl (no _ (by have : ¬ 0 ≤ s.clock := by omega
                                                          simp [mayOff, this]))) (fun h4 => ?_)
  refine ⟨_, rline_con s.typed hty, if_mk (fun h5 => fin_at (.inr rfl) rfl (no _ (by simp at h5; simp [mayOff, h5]))) (fun h5 => ?_)⟩
  have h5 : lineS s.typed = true := by simpa using h5
  refine if_lt (fun h6 => fin_at (.inr rfl) rfl (no _ (by have : ¬ s.lines.length ≤ 2 := by omega
                                                          simp [mayOff, this]))) (fun h6 => ?_)
  refine ⟨rfl, loop2 [2, 3, 5, 7, 9, 11, 13, 16] [2, 3, 4, 5, 7, 9, 11, 13, 16] rfl (by kernel_rfl) (R1I s cap cs np) s.lines.length mk_len ⟨0, by rw [h1]; rfl, by omega, by omega, rfl⟩ ?_⟩
  rintro m vs h ⟨i, rfl, hi, rfl, hli⟩
  refine all_rule Try.Yok (loc := Try.Y.loc 24) 100 [2, 3, 4, 5, 7, 9, 11, 13, 16] ?_
  refine Eq.mpr (f24_1 s.place s.clock s.typed (row encT s.lines) s.lines.length s.fly (row encI s.ages) s.ages.length s.ready s.buffer cap cs np s.on s.shut s.eof false (ltI s.place 0) (i : Nat) h _) ?_
  refine if_lt_nat (fun hlt => ?_) (fun hge => ?_)
  · refine ⟨bnd_nat hlt, s.lines[i], by rw [Int.toNat_natCast]; exact row_get (f := encT) (k := 1) encT_len hlt, _, rline_con s.lines[i] (hll _ (List.getElem_mem hlt)), if_mk (fun hc => ?_) (fun hc => ?_)⟩
    · have : s.lines.all lineS = false := by
        rw [List.all_eq_false]
        exact ⟨_, List.getElem_mem hlt, by simpa using hc⟩
      exact fin_at (.inr rfl) rfl (no _ (by simp only [mayOff, this, Bool.and_false, Bool.false_and]))
    · refine ⟨rfl, s.lines.length - (i + 1), by omega, i + 1, by rw [wrap_succ (by omega)]; rfl, by omega, rfl, ?_⟩
      rw [List.take_succ_eq_append_getElem hlt, List.all_append, hli]
      simpa using hc
  refine roundW_exit [2, 3, 7, 9, 11, 13, 16] (by kernel_rfl) rfl rfl ?_
  rw [List.take_of_length_le hge] at hli
  refine pre_rule Try.Yok (n := 153) (loc := Try.Y.loc 24) 100 [2, 3, 4, 6, 9, 11, 16] (by kernel_rfl) ?_
  refine Eq.mpr (f24_2 s.place s.clock (row encT s.lines) s.lines.length (row encI s.ages) s.ages.length cap cs np s.on s.shut s.eof s.typed s.fly s.ready s.buffer false (ltI s.place 0) h _) ?_
  refine if_mk (fun h7 => fin_at (.inr rfl) rfl (no _ (by have : ¬ s.ages.length = s.fly.length := fun e => by simp [e] at h7
                                                          have : agedS s = false := by simp [agedS, this]
                                                          simp only [mayOff, this, Bool.and_false, Bool.false_and]))) (fun h7 => ?_)
  have h7 : s.ages.length = s.fly.length := by simp at h7; omega
  refine ⟨_, rroom_con s cap cs np, if_lt (fun h9 => fin_at (.inr rfl) rfl (no _ (by have : ¬ 0 ≤ roomS s cap := by omega
                                                                                     simp [mayOff, this]))) (fun h9 => ?_)⟩
  refine if_lt (fun h10 => fin_at (.inr rfl) rfl (no _ (by have : ¬ s.buffer.length ≤ 64 := by omega
                                                           simp [mayOff, this]))) (fun h10 => ?_)
  refine ⟨rfl, loop2 [2, 3, 6, 9, 11, 16] [2, 3, 4, 6, 9, 11, 16] rfl (by kernel_rfl) (R2I s cap cs np) s.ages.length mk_len ⟨0, rfl, by omega, by omega, rfl⟩ ?_⟩
  rintro m vs h ⟨i, rfl, hi, rfl, hok⟩
  refine all_rule Try.Yok (loc := Try.Y.loc 24) 100 [2, 3, 4, 6, 9, 11, 16] ?_
  refine Eq.mpr (f24_3 s.place s.clock (row encT s.lines) s.lines.length (row encI s.ages) s.ages.length cap cs np s.on s.shut s.eof s.typed s.fly s.ready s.buffer false (i : Nat) h _) ?_
  have no2 : i < s.ages.length → okAge s.ages i = false → ∃ r, Frz h (.b false) r ∧ r = .b (mayOff s np cap pm) := fun hlt ho => no h (by
    have : agedS s = false := by simp [agedS, down_no hlt ho]
    simp only [mayOff, this, Bool.and_false, Bool.false_and])
  refine if_lt_nat (fun hlt => ?_) (fun hge => ?_)
  · have hge : s.ages[i]? = some s.ages[i] := List.getElem?_eq_getElem hlt
    have hget : takeX 1 (List.drop ((i : Int).toNat * 1) (row encI s.ages)) = some (encI s.ages[i]) := by rw [Int.toNat_natCast]; exact row_get (f := encI) (k := 1) encI_len hlt
    have next : okAge s.ages i = true → _ ∧ _ := fun ho => (⟨(rfl : (153 : Nat) = 153), (⟨s.ages.length - (i + 1), by omega, i + 1, by rw [wrap_succ (by omega)], by omega, rfl, range_snoc hok ho⟩ : ∃ m', m' < s.ages.length - i ∧ R2I s cap cs np m' [.lb (sideC s), .lb [.i .i64 cap, .ts cs np none], .i .i64 (IntKind.i64.wrap ((i : Nat) + 1)), .b false, .rf, .rf] h)⟩)
    refine ⟨bnd_nat hlt, s.ages[i], hget, if_lt (fun hneg => ?_) (fun hnn => if_lt (fun hpos => ?_) (fun hz => ?_))⟩
    · exact fin_at (.inr rfl) rfl (no2 hlt (by unfold okAge; rw [hge]; simp; omega))
    · refine ⟨bnd_nat hlt, s.ages[i], hget, ?_⟩
      obtain ⟨k, rfl⟩ : ∃ k, i = k + 1 := ⟨i - 1, by omega⟩
      have hw : IntKind.i64.wrap (((k + 1 : Nat) : Int) - 1) = (k : Nat) := by rw [wrap_ok (by omega) (by omega)]; omega
      have hlt' : k < s.ages.length := by omega
      have hgk : s.ages[k]? = some s.ages[k] := List.getElem?_eq_getElem hlt'
      rw [hw]
      refine ⟨bnd_nat hlt', s.ages[k], by rw [Int.toNat_natCast]; exact row_get (f := encI) (k := 1) encI_len hlt', if_lt (fun hgt => ?_) (fun hle => ?_)⟩
      · exact fin_at (.inr rfl) rfl (no2 hlt (by unfold okAge; rw [hge]; simp [hgk]; omega))
      · exact next (by unfold okAge; rw [hge]; simp [hgk]; omega)
    · have : i = 0 := by omega
      subst this
      exact next (by unfold okAge; rw [hge]; simp; omega)
  refine roundW_exit [2, 3, 6, 11, 16] (by kernel_rfl) rfl rfl ?_
  refine end_rule Try.Yok (loc := Try.Y.loc 24) 100 [4] ?_
  have hi' : i = s.ages.length := by omega
  subst hi'
  refine Eq.mpr (f24_4 s.place s.clock (row encT s.lines) s.lines.length (row encI s.ages) s.ages.length cap cs np (s.ages.length : Nat) s.on s.shut s.eof s.typed s.fly s.ready s.buffer h _) ?_
  have h8 : agedS s = true := by unfold agedS downS; rw [hok]; simp [h7]
  have e : mayOff s np cap pm = decide (s = side00) := by
    have g2 : 0 ≤ s.place := by omega
    have g3 : s.place < np := by omega
    have g4 : 0 ≤ s.clock := by omega
    have g6 : s.lines.length ≤ 2 := by omega
    have g9 : 0 ≤ roomS s cap := by omega
    have g10 : s.buffer.length ≤ 64 := by omega
    simp only [mayOff, h1, h5, hli, h8, g2, g3, g4, g6, g9, g10, decide_true, Bool.true_and]
  have fin : ∀ (b : Bool) (h : Heap), b = decide (s = side00) → Fin Try.Y Try.f24 [4] (fun v h => ∃ r, Frz h v r ∧ r = .b (mayOff s np cap pm)) .ret 153 [.b b] h := fun b h e2 => finV1 (.inr rfl) rfl (.b _) (by rw [e2, e])
  generalize Fin Try.Y Try.f24 [4] (fun v h => ∃ r, Frz h v r ∧ r = .b (mayOff s np cap pm)) = K at fin ⊢
  refine if_mk (fun _ => ⟨_, (rsideSame_con s side00 hlb hl).wk ?_, if_mk (fun h => fin _ _ ?_) (fun h => ?_)⟩) (fun h => by rw [hon] at h; cases h)
  · have wn : Wk0 (.sl none 0 (some 0) 0) (.ts [] 0 none) := .inr (.inl ⟨_, _, _, rfl, rfl, fun x hx => by cases hx⟩)
    exact .agg _ _ _ _ (WkL.refl _) (.agg _ _ _ _ (.cons _ _ _ _ (.refl _) (.cons _ _ _ _ (.refl _) (.cons _ _ _ _ (.refl _) (.cons _ _ _ _ (.refl _) (.cons _ _ _ _ (.refl _) (.cons _ _ _ _ (.refl _) (.cons _ _ _ _ wn (.cons _ _ _ _ (.refl _) (.cons _ _ _ _ wn (WkL.refl _)))))))))) .nil)
  · simpa using h
  · have e0 : s = side00 := by simpa using h
    have t : true = decide (s = side00) := by simp [e0]
    exact if_mk (fun hs => by rw [e0] at hs; cases hs) (fun _ => if_mk (fun _ => fin _ _ t) (fun hs => by rw [e0] at hs; cases hs))
end Go.Y

/- What is typed, in plain Lean. -/
namespace Go.Y
open Go.Proofs
set_option maxRecDepth 100000

def echoAt (l : List Plc) (p : Int) : Bool := match l[p.toNat]? with
  | some x => x.echo
  | none => false
def echoS (s : Side) (cap : Int) (l : List Plc) (t : List UInt8) : Side := if echoAt l s.place then (writeS s cap t).1 else s
def byteS (s : Side) (cap : Int) (l : List Plc) (c : UInt8) : Option Side :=
  if c = 10 then if 2 ≤ s.lines.length then none else some (echoS { s with lines := s.lines ++ [s.typed], typed := [] } cap l [13, 10])
  else if s.typed.length < 16 then some (echoS { s with typed := s.typed ++ [c] } cap l [c]) else some s
def typeL (cap : Int) (l : List Plc) : List UInt8 → Side → Option Side
  | [], s => some s
  | c :: r, s => match byteS s cap l c with
    | none => none
    | some s' => typeL cap l r s'
def maySd (s : Side) (np : Nat) (cap : Int) (pm : Bool) : Bool := if s.on then mayOn s np cap pm else mayOff s np cap pm
def typeS (s : Side) (cap : Int) (l : List Plc) (t : List UInt8) : Side × Int :=
  if maySd s l.length cap (peerS cap l) = false then (side00, 5) else if s.on = false then (side00, 11) else if s.shut then (side00, 13) else match typeL cap l t s with
    | none => (side00, 9)
    | some s' => (s', 0)

/-- A side to which may be typed. -/
structure OkS (s : Side) (cap : Int) (np : Nat) : Prop where
  on : s.on = true
  shut : s.shut = false
  eof : s.eof = false
  p0 : 0 ≤ s.place
  p1 : s.place < np
  c0 : 0 ≤ s.clock
  ty : lineS s.typed = true
  ln : s.lines.length ≤ 2
  la : s.lines.all lineS = true
  ag : s.ages.length = s.fly.length
  dn : downS s.ages = true
  rm : ((s.fly.length + s.ready.length : Nat) : Int) ≤ cap
  bu : s.buffer.length ≤ 64

theorem room_ok {s : Side} {cap : Int} (h1 : s.fly.length ≤ 1000) (h2 : s.ready.length ≤ 1000) (h3 : 1 ≤ cap) (h4 : cap ≤ 16) : roomS s cap = cap - s.fly.length - s.ready.length := by
  unfold roomS
  rw [wrap_ok (n := cap - s.fly.length) (by omega) (by omega), wrap_ok (by omega) (by omega)]

theorem OkS.of {s : Side} {cap : Int} {np : Nat} (hsh : s.shut = false) (hon : s.on = true) (hr : s.ready.length ≤ 1000) (hf : s.fly.length ≤ 1000) (h3 : 1 ≤ cap) (h4 : cap ≤ 16) {pm : Bool} (h : mayOn s np cap pm = true) : OkS s cap np ∧ pm = true := by
  have hroom := room_ok hf hr h3 h4
  unfold mayOn agedS at h
  rw [hroom, hsh] at h
  simp only [Bool.and_eq_true, decide_eq_true_eq, Bool.not_false, Bool.true_or, Bool.false_and, Bool.or_false, Bool.not_eq_true', and_true] at h
  obtain ⟨⟨⟨⟨⟨⟨⟨⟨⟨⟨a1, a2⟩, a3⟩, a4⟩, a5⟩, a6⟩, a7⟩, a8, a8'⟩, a9⟩, a10⟩, a12⟩ := h
  exact ⟨⟨hon, hsh, a12, a2, a3, a4, a5, a6, a7, a8, a8', by omega, a10⟩, a1⟩
theorem OkS.may {s : Side} {cap : Int} {np : Nat} (g : OkS s cap np) (h3 : 1 ≤ cap) (h4 : cap ≤ 16) : mayOn s np cap true = true := by
  have hr := g.rm
  have hroom := room_ok (s := s) (by omega) (by omega) h3 h4
  have h9 : 0 ≤ roomS s cap := by omega
  have h8 : agedS s = true := by unfold agedS; rw [g.dn]; simp [g.ag]
  simp only [mayOn, g.p0, g.p1, g.c0, g.ty, g.ln, g.la, h8, h9, g.bu, g.shut, g.eof, decide_true, Bool.true_and, Bool.not_false, Bool.true_or]
theorem OkS.maySd {s : Side} {cap : Int} {l : List Plc} (g : OkS s cap l.length) (hp : peerS cap l = true) (h3 : 1 ≤ cap) (h4 : cap ≤ 16) : maySd s l.length cap (peerS cap l) = true := by
  unfold Go.Y.maySd
  rw [g.on, hp]; exact g.may h3 h4

theorem down_zeros {l : List Int} (h : downS l = true) (m : Nat) : downS (l ++ List.replicate m 0) = true := by
  unfold downS at h ⊢
  rw [List.all_eq_true] at h ⊢
  intro j hj
  have hj : j < l.length + m := by simpa using hj
  by_cases hl : j < l.length
  · have := h j (List.mem_range.2 hl)
    unfold okAge at this ⊢
    rw [List.getElem?_append_left hl]
    rw [List.getElem?_eq_getElem hl] at this ⊢
    simp only at this ⊢
    cases j with
    | zero => exact this
    | succ k => simp only at this ⊢; rw [List.getElem?_append_left (by omega)]; exact this
  · have e : (l ++ List.replicate m 0)[j]? = some (0 : Int) := by
      rw [List.getElem?_append_right (by omega), List.getElem?_replicate, if_pos (by omega)]
    unfold okAge
    rw [e]
    simp only [Int.le_refl, decide_true, Bool.true_and]
    cases j with
    | zero => rfl
    | succ k =>
      simp only
      by_cases hk : k < l.length
      · rw [List.getElem?_append_left hk, List.getElem?_eq_getElem hk]
        have := h k (List.mem_range.2 hk)
        unfold okAge at this
        rw [List.getElem?_eq_getElem hk] at this
        simp only [Bool.and_eq_true, decide_eq_true_eq] at this ⊢
        exact this.1
      · have e2 : (l ++ List.replicate m 0)[k]? = some (0 : Int) := by
          rw [List.getElem?_append_right (by omega), List.getElem?_replicate, if_pos (by omega)]
        rw [e2]; rfl

theorem OkS.write {s : Side} {cap : Int} {np : Nat} (g : OkS s cap np) (h3 : 1 ≤ cap) (h4 : cap ≤ 16) (t : List UInt8) : OkS (writeS s cap t).1 cap np := by
  have hr := g.rm
  have hroom := room_ok (s := s) (by omega) (by omega) h3 h4
  unfold writeS
  split
  · exact g
  · rename_i h
    refine { g with ag := ?_, dn := down_zeros g.dn _, rm := ?_ }
    · simp [g.ag]
    · simp; omega
theorem OkS.echo {s : Side} {cap : Int} {np : Nat} (g : OkS s cap np) (h3 : 1 ≤ cap) (h4 : cap ≤ 16) (l : List Plc) (t : List UInt8) : OkS (echoS s cap l t) cap np := by
  unfold echoS
  split
  · exact g.write h3 h4 t
  · exact g
theorem lineS_add {s : List UInt8} {c : UInt8} (h : lineS s = true) (hc : c ≠ 10) (hl : s.length < 16) : lineS (s ++ [c]) = true := by
  unfold lineS at h ⊢
  simp only [Bool.and_eq_true, decide_eq_true_eq, Bool.not_eq_true', List.length_append, List.length_cons, List.length_nil] at h ⊢
  refine ⟨by omega, ?_⟩
  rw [← Bool.not_eq_true, List.contains_iff_mem] at h ⊢
  rw [List.mem_append]
  rintro (hx | hx)
  · exact h.2 hx
  · exact hc (List.mem_singleton.1 hx).symm
theorem OkS.byte {s s' : Side} {cap : Int} {np : Nat} (g : OkS s cap np) (h3 : 1 ≤ cap) (h4 : cap ≤ 16) {l : List Plc} {c : UInt8} (h : byteS s cap l c = some s') : OkS s' cap np := by
  unfold byteS at h
  split at h
  · split at h
    · cases h
    · rename_i h2
      simp only [Option.some.injEq] at h
      subst h
      refine OkS.echo (s := { s with lines := s.lines ++ [s.typed], typed := [] }) ⟨g.on, g.shut, g.eof, g.p0, g.p1, g.c0, rfl, ?_, ?_, g.ag, g.dn, g.rm, g.bu⟩ h3 h4 l _
      · simp; omega
      · rw [List.all_append, g.la]; simp [g.ty]
  · rename_i hc
    split at h
    · rename_i hl
      simp only [Option.some.injEq] at h
      subst h
      exact OkS.echo (s := { s with typed := s.typed ++ [c] }) ⟨g.on, g.shut, g.eof, g.p0, g.p1, g.c0, lineS_add g.ty hc hl, g.ln, g.la, g.ag, g.dn, g.rm, g.bu⟩ h3 h4 l _
    · simp only [Option.some.injEq] at h
      subst h
      exact g
theorem OkS.typeL {cap : Int} {l : List Plc} {np : Nat} (h3 : 1 ≤ cap) (h4 : cap ≤ 16) : ∀ {t : List UInt8} {s s' : Side}, OkS s cap np → typeL cap l t s = some s' → OkS s' cap np
  | [], s, s', g, h => by simp only [Go.Y.typeL, Option.some.injEq] at h; subst h; exact g
  | c :: r, s, s', g, h => by
    simp only [Go.Y.typeL] at h
    split at h
    · cases h
    · rename_i s1 h1
      exact OkS.typeL h3 h4 (g.byte h3 h4 h1) h
theorem typeL_append (cap : Int) (l : List Plc) : ∀ (a b : List UInt8) (s : Side), typeL cap l (a ++ b) s = (typeL cap l a s).bind (typeL cap l b)
  | [], b, s => rfl
  | c :: r, b, s => by
    simp only [List.cons_append, typeL]
    cases byteS s cap l c with
    | none => rfl
    | some s1 => exact typeL_append cap l r b s1

theorem peer_cap {cap : Int} {l : List Plc} (h : peerS cap l = true) : 1 ≤ cap ∧ cap ≤ 16 := by
  unfold peerS at h
  simp only [Bool.and_eq_true, leI, decide_eq_true_eq] at h
  exact ⟨h.1.1.1.1, h.1.1.1.2⟩
theorem mayOn_pm {s : Side} {np : Nat} {cap : Int} {pm : Bool} (h : mayOn s np cap pm = true) : pm = true := by
  cases pm with
  | true => rfl
  | false => simp [mayOn] at h

/-- Of a type that is taken: from where to where. -/
theorem typeS_ok {s : Side} {cap : Int} {l : List Plc} {t : List UInt8} (hr : s.ready.length ≤ 1000) (hf : s.fly.length ≤ 1000) (h : (typeS s cap l t).2 = 0) :
    OkS s cap l.length ∧ peerS cap l = true ∧ ∃ s', typeL cap l t s = some s' ∧ typeS s cap l t = (s', 0) ∧ OkS s' cap l.length := by
  unfold typeS at h ⊢
  split at h
  · exact absurd h (by decide)
  · rename_i h1
    split at h
    · exact absurd h (by decide)
    · rename_i h2
      split at h
      · exact absurd h (by decide)
      · rename_i h5
        have hon : s.on = true := by simpa using h2
        have hsh : s.shut = false := by simpa using h5
        have hm : mayOn s l.length cap (peerS cap l) = true := by
          have : Go.Y.maySd s l.length cap (peerS cap l) = true := by simpa using h1
          unfold Go.Y.maySd at this
          rw [hon] at this; exact this
        have hp := mayOn_pm hm
        obtain ⟨c1, c2⟩ := peer_cap hp
        have g := (OkS.of hsh hon hr hf c1 c2 hm).1
        split at h
        · exact absurd h (by decide)
        · rename_i s' h6
          refine ⟨g, hp, s', h6, ?_, g.typeL c1 c2 h6⟩
          rw [if_neg h1, if_neg h2, if_neg h5]

/-- What is typed in two parts. -/
theorem typeS_parts (s : Side) (cap : Int) (l : List Plc) (a b : List UInt8) (hr : s.ready.length ≤ 1000) (hf : s.fly.length ≤ 1000) :
    if (typeS s cap l a).2 = 0 then typeS s cap l (a ++ b) = typeS (typeS s cap l a).1 cap l b else (typeS s cap l (a ++ b)).2 = (typeS s cap l a).2 := by
  split
  · rename_i h
    obtain ⟨g, hp, s', h1, h2, g'⟩ := typeS_ok hr hf h
    obtain ⟨c1, c2⟩ := peer_cap hp
    rw [h2]
    have m1 := g.maySd hp c1 c2
    have m2 := g'.maySd hp c1 c2
    unfold typeS
    rw [m1, m2, g.on, g'.on, g.shut, g'.shut, typeL_append, h1]
    rfl
  · rename_i h
    unfold typeS at h ⊢
    split
    · rfl
    · split
      · rfl
      · split
        · rfl
        · rename_i h1 h2 h3
          rw [if_neg h1, if_neg h2, if_neg h3] at h
          cases h4 : typeL cap l a s with
          | none => rw [typeL_append, h4]; rfl
          | some s' => rw [h4] at h; exact absurd rfl h
end Go.Y
