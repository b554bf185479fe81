/- Automata: rising lists, May. -/
import Derived.Test.YtlnpmefmmiacaaaGreatDoorNT1
import Derived.Test.YtlnpmefmmiacaaaGreatDoorGBase
namespace Go.Y
open Go.Proofs
set_option maxRecDepth 100000
set_option maxHeartbeats 1000000

theorem ris19 (l : List Int) (n : Int) (hl : l.length < 2 ^ 30) : PCon Tryz.Y 19 [lst encI l, .i .i64 n] (· = .b (risB l n)) := by
  refine pcon_of Tryz.Yok (fn := Tryz.f19) (by kernel_rfl) (by kernel_rfl) rfl ?_
  refine pre_rule Tryz.Yok (n := 41) (loc := Tryz.Y.loc 19) 100 [0, 1, 5] (by kernel_rfl) ?_
  refine Eq.mpr (f19_0 (row encI l) l.length n .empty _) ?_
  refine ⟨rfl, loop2 [0, 1, 5] [0, 1, 4, 5] rfl (by kernel_rfl) (fun m vs _ => ∃ i : Nat, vs = [lst encI l, .i .i64 n, .i .i64 (i : Nat)] ∧ i ≤ l.length ∧ m = l.length - i ∧ (List.range i).all (okAt l n) = true) l.length mk_len ⟨0, rfl, by omega, by omega, by simp⟩ ?_⟩
  rintro m vs h ⟨i, rfl, hi, rfl, hp⟩
  refine all_rule Tryz.Yok (loc := Tryz.Y.loc 19) 100 [0, 1, 4, 5] ?_
  refine Eq.mpr (f19_1 (row encI l) l.length n (i : Nat) h _) ?_
  refine if_lt_nat (fun hlt => ?_) (fun hge => ?_)
  · have no : okAt l n i = false → ∃ r, Frz h (.b false) r ∧ r = .b (risB l n) := fun e => ⟨_, .b _, by rw [risB_no hlt e]⟩
    have ok : okAt l n i = true → ∃ m', m' < l.length - i ∧ ∃ i' : Nat, [lst encI l, .i .i64 n, .i .i64 (IntKind.i64.wrap ((i : Nat) + 1))] = [lst encI l, .i .i64 n, .i .i64 (i' : Nat)] ∧ i' ≤ l.length ∧ m' = l.length - i' ∧ (List.range i').all (okAt l n) = true := fun e =>
      ⟨l.length - (i + 1), by omega, i + 1, by rw [wrap_succ (by omega)], by omega, rfl, range_snoc hp e⟩
    refine ⟨bnd_nat hlt, _, getI l hlt, if_mk (fun h1 => fin_at (.inr rfl) rfl (no (by simp only [okAt, getD_at hlt, h1]; rfl))) (fun h1 => ⟨bnd_nat hlt, _, getI l hlt, if_mk (fun h2 => fin_at (.inr rfl) rfl (no (by simp only [okAt, getD_at hlt, h1, h2]; rfl))) (fun h2 => if_mk (fun h3 => ?_) (fun h3 => ?_))⟩)⟩
    · have h3 : 0 < i := by simpa [ltI] using h3
      have hw : IntKind.i64.wrap (((i : Nat) : Int) - 1) = ((i - 1 : Nat) : Int) := by rw [wrap_ok (by omega) (by omega)]; omega
      rw [hw]
      refine ⟨bnd_nat hlt, _, getI l hlt, bnd_nat (by omega), _, getI l (by omega), if_mk (fun h4 => fin_at (.inr rfl) rfl (no ?_)) (fun h4 => ⟨rfl, ok ?_⟩)⟩
      · simp only [okAt, getD_at hlt, getD_at (show i - 1 < l.length by omega), h1, h2, h3, h4]; rfl
      · simp only [okAt, getD_at hlt, getD_at (show i - 1 < l.length by omega), h1, h2, h3, h4]; rfl
    · have h3 : ¬ 0 < i := by simpa [ltI] using h3
      exact ⟨rfl, ok (by simp only [okAt, getD_at hlt, h1, h2, h3]; rfl)⟩
  · refine roundW_exit [] (by kernel_rfl) rfl rfl ?_
    refine end_rule Tryz.Yok (loc := Tryz.Y.loc 19) 100 [4] ?_
    refine Eq.mpr (f19_2 ..) ?_
    have : i = l.length := by omega
    subst this
    exact finV1 (.inr rfl) rfl (.b _) (by rw [risB, hp])

theorem ris20 (l : List Int) (n : Int) (hl : l.length < 2 ^ 30) : PCon Tryz.Y 20 [lst encI l, .i .i64 n] (· = .b (risB l n)) := by
  refine pcon_of Tryz.Yok (fn := Tryz.f20) (by kernel_rfl) (by kernel_rfl) rfl ?_
  refine pre_rule Tryz.Yok (n := 35) (loc := Tryz.Y.loc 20) 100 [0, 1, 2, 7, 8, 9] (by kernel_rfl) ?_
  refine Eq.mpr (f20_0 (row encI l) l.length n .empty _) ?_
  refine ⟨rfl, loop2 [0, 1, 2, 7, 8, 9] [0, 1, 2, 4, 7, 8, 9] rfl (by kernel_rfl) (fun m vs _ => ∃ i : Nat, vs = [lst encI l, .i .i64 n, .undef, lst encI l, .i .i64 l.length, .i .i64 (i : Nat)] ∧ i ≤ l.length ∧ m = l.length - i ∧ (List.range i).all (okAt l n) = true) l.length mk_len ⟨0, rfl, by omega, by omega, by simp⟩ ?_⟩
  rintro m vs h ⟨i, rfl, hi, rfl, hp⟩
  refine all_rule Tryz.Yok (loc := Tryz.Y.loc 20) 100 [0, 1, 2, 4, 7, 8, 9] ?_
  refine Eq.mpr (f20_1 (row encI l) l.length n (i : Nat) h _) ?_
  refine if_lt_nat (fun hlt => ?_) (fun hge => ?_)
  · have no : okAt l n i = false → ∃ r, Frz h (.b false) r ∧ r = .b (risB l n) := fun e => ⟨_, .b _, by rw [risB_no hlt e]⟩
    have ok : okAt l n i = true → ∃ m', m' < l.length - i ∧ ∃ i' : Nat, [lst encI l, .i .i64 n, .undef, lst encI l, .i .i64 l.length, .i .i64 (IntKind.i64.wrap ((i : Nat) + 1))] = [lst encI l, .i .i64 n, .undef, lst encI l, .i .i64 l.length, .i .i64 (i' : Nat)] ∧ i' ≤ l.length ∧ m' = l.length - i' ∧ (List.range i').all (okAt l n) = true := fun e =>
      ⟨l.length - (i + 1), by omega, i + 1, by rw [wrap_succ (by omega)], by omega, rfl, range_snoc hp e⟩
    refine ⟨bnd_nat hlt, _, getI l hlt, if_mk (fun h1 => fin_at (.inr rfl) rfl (no (by simp only [okAt, getD_at hlt, h1]; rfl))) (fun h1 => if_mk (fun h2 => fin_at (.inr rfl) rfl (no (by simp only [okAt, getD_at hlt, h1, h2]; rfl))) (fun h2 => if_mk (fun h3 => ?_) (fun h3 => ?_)))⟩
    · have h3 : 0 < i := by simpa [ltI] using h3
      have hw : IntKind.i64.wrap (((i : Nat) : Int) - 1) = ((i - 1 : Nat) : Int) := by rw [wrap_ok (by omega) (by omega)]; omega
      rw [hw]
      refine ⟨bnd_nat (by omega), _, getI l (by omega), if_mk (fun h4 => fin_at (.inr rfl) rfl (no ?_)) (fun h4 => ⟨rfl, ok ?_⟩)⟩
      · simp only [okAt, getD_at hlt, getD_at (show i - 1 < l.length by omega), h1, h2, h3, h4]; rfl
      · simp only [okAt, getD_at hlt, getD_at (show i - 1 < l.length by omega), h1, h2, h3, h4]; rfl
    · have h3 : ¬ 0 < i := by simpa [ltI] using h3
      exact ⟨rfl, ok (by simp only [okAt, getD_at hlt, h1, h2, h3]; rfl)⟩
  · refine roundW_exit [] (by kernel_rfl) rfl rfl ?_
    refine end_rule Tryz.Yok (loc := Tryz.Y.loc 20) 100 [4] ?_
    refine Eq.mpr (f20_2 ..) ?_
    have : i = l.length := by omega
    subst this
    exact finV1 (.inr rfl) rfl (.b _) (by rw [risB, hp])

/-! ### ref35.SameInts -/
theorem same13 (a b : List Int) (hl : a.length < 2 ^ 30) : PCon Tryz.Y 13 [lst encI a, lst encI b] (· = .b (decide (a = b))) := by
  refine pcon_of Tryz.Yok (fn := Tryz.f13) (by kernel_rfl) (by kernel_rfl) rfl ?_
  refine pre_rule Tryz.Yok (n := 26) (loc := Tryz.Y.loc 13) 100 [0, 1, 4, 5] (by kernel_rfl) ?_
  refine Eq.mpr (f13_0 (row encI a) a.length (row encI b) b.length .empty _) ?_
  have no : ∀ h : Heap, a ≠ b → ∃ r, Frz h (.b false) r ∧ r = .b (decide (a = b)) := fun h e => ⟨_, .b _, by rw [decide_eq_false e]⟩
  refine if_mk (fun h1 => fin_at (.inr rfl) rfl (no _ (fun e => by subst e; simp at h1))) (fun h1 => ?_)
  have h1 : a.length = b.length := by simp at h1; omega
  refine ⟨rfl, loop2 [0, 1, 5] [0, 1, 4, 5] rfl (by kernel_rfl) (fun m vs _ => ∃ i : Nat, vs = [lst encI a, lst encI b, .i .i64 (i : Nat)] ∧ i ≤ a.length ∧ m = a.length - i ∧ a.take i = b.take i) a.length mk_len ⟨0, rfl, by omega, by omega, by simp⟩ ?_⟩
  rintro m vs h ⟨i, rfl, hi, rfl, hp⟩
  refine all_rule Tryz.Yok (loc := Tryz.Y.loc 13) 100 [0, 1, 4, 5] ?_
  refine Eq.mpr (f13_1 (row encI a) a.length (row encI b) b.length (i : Nat) h _) ?_
  refine if_lt_nat (fun hlt => ?_) (fun hge => ?_)
  · refine ⟨bnd_nat hlt, _, getI a hlt, bnd_nat (by omega), _, getI b (by omega), if_mk (fun h2 => fin_at (.inr rfl) rfl (no _ (fun e => by subst e; simp at h2))) (fun h2 => ?_)⟩
    have h2 : a[i] = b[i] := by simpa using h2
    exact ⟨rfl, a.length - (i + 1), by omega, i + 1, by rw [wrap_succ (by omega)]; rfl, by omega, rfl, take_more hp hlt (by omega) h2⟩
  · refine roundW_exit [] (by kernel_rfl) rfl rfl ?_
    refine end_rule Tryz.Yok (loc := Tryz.Y.loc 13) 100 [4] ?_
    refine Eq.mpr (f13_2 ..) ?_
    exact finV1 (.inr rfl) rfl (.b _) (by rw [decide_eq_true (take_same hp hge (by omega))])

/-! ### small -/
def smallA (a : Au) : Bool := decide (a.sets.length ≤ 40) && decide (a.first.length ≤ 40) && decide (a.last.length ≤ 40) && decide (a.follow.length ≤ 40) && a.follow.all fun l => decide (l.length ≤ 40)
theorem small5 (a : Au) : PCon Tryz.Y 5 [.agg (auC a)] (· = .b (smallA a)) := by
  refine pcon_of Tryz.Yok (fn := Tryz.f5) (by kernel_rfl) (by kernel_rfl) rfl ?_
  refine pre_rule Tryz.Yok (n := 38) (loc := Tryz.Y.loc 5) 100 [2, 28, 29, 30] (by kernel_rfl) ?_
  refine Eq.mpr (f5_0 (row encS4 a.sets) a.sets.length (row encI a.first) a.first.length (row encI a.last) a.last.length (row encL a.follow) a.follow.length a.empty .empty _) ?_
  have no : ∀ h : Heap, smallA a = false → ∃ r, Frz h (.b false) r ∧ r = .b (smallA a) := fun h e => ⟨_, .b _, by rw [e]⟩
  refine if_lt (fun g => fin_at (.inr rfl) rfl (no _ (by simp [smallA, show ¬ a.sets.length ≤ 40 by omega]))) (fun g1 => ?_)
  refine if_lt (fun g => fin_at (.inr rfl) rfl (no _ (by simp [smallA, show ¬ a.first.length ≤ 40 by omega]))) (fun g2 => ?_)
  refine if_lt (fun g => fin_at (.inr rfl) rfl (no _ (by simp [smallA, show ¬ a.last.length ≤ 40 by omega]))) (fun g3 => ?_)
  refine if_lt (fun g => fin_at (.inr rfl) rfl (no _ (by simp [smallA, show ¬ a.follow.length ≤ 40 by omega]))) (fun g4 => ?_)
  refine ⟨rfl, loop2 [28, 29, 30] [2, 28, 29, 30] rfl (by kernel_rfl) (fun m vs _ => ∃ i : Nat, vs = [lst encL a.follow, .i .i64 a.follow.length, .i .i64 (i : Nat)] ∧ i ≤ a.follow.length ∧ m = a.follow.length - i ∧ ((a.follow.take i).all fun l => decide (l.length ≤ 40)) = true) a.follow.length mk_len ⟨0, rfl, by omega, by omega, by simp⟩ ?_⟩
  rintro m vs h ⟨i, rfl, hi, rfl, hp⟩
  refine all_rule Tryz.Yok (loc := Tryz.Y.loc 5) 100 [2, 28, 29, 30] ?_
  refine Eq.mpr (f5_1 (row encL a.follow) a.follow.length (i : Nat) h _) ?_
  refine if_lt_nat (fun hlt => ?_) (fun hge => ?_)
  · refine ⟨bnd_nat hlt, _, _, _, getL a.follow hlt, if_lt (fun h2 => fin_at (.inr rfl) rfl (no _ ?_)) (fun h2 => ?_)⟩
    · have : (a.follow.all fun l => decide (l.length ≤ 40)) = false := all_no (p := fun l => decide (l.length ≤ 40)) hlt (by simp; omega)
      simp [smallA, this]
    · exact ⟨rfl, a.follow.length - (i + 1), by omega, i + 1, by rw [wrap_succ (by omega)]; rfl, by omega, rfl, all_snoc (p := fun l => decide (l.length ≤ 40)) hlt hp (by simp; omega)⟩
  · refine roundW_exit [] (by kernel_rfl) rfl rfl ?_
    refine end_rule Tryz.Yok (loc := Tryz.Y.loc 5) 100 [2] ?_
    refine Eq.mpr (f5_2 ..) ?_
    rw [List.take_of_length_le hge] at hp
    refine finV1 (.inr rfl) rfl (.b _) ?_
    simp only [smallA, hp, show a.sets.length ≤ 40 by omega, show a.first.length ≤ 40 by omega, show a.last.length ≤ 40 by omega, show a.follow.length ≤ 40 by omega, decide_true, Bool.and_true]

theorem small_of {a : Au} (h : smallA a = true) : a.sets.length ≤ 40 ∧ a.first.length ≤ 40 ∧ a.last.length ≤ 40 ∧ a.follow.length ≤ 40 ∧ ∀ l ∈ a.follow, l.length ≤ 40 := by
  simp only [smallA, Bool.and_eq_true, decide_eq_true_eq, List.all_eq_true] at h
  exact ⟨h.1.1.1.1, h.1.1.1.2, h.1.1.2, h.1.2, fun l hl => by simpa using h.2 l hl⟩

/-! ### May, by the reference -/
theorem may6 (a : Au) (hs : smallA a = true) : PCon Tryz.Y 6 [.agg (auC a)] (· = .b (mayA a)) := by
  obtain ⟨s1, s2, s3, s4, s5⟩ := small_of hs
  refine pcon_of Tryz.Yok (fn := Tryz.f6) (by kernel_rfl) (by kernel_rfl) rfl ?_
  refine pre_rule Tryz.Yok (n := 44) (loc := Tryz.Y.loc 6) 100 [1, 2, 3, 4] (by kernel_rfl) ?_
  refine Eq.mpr (f6_0 (row encS4 a.sets) a.sets.length (row encI a.first) a.first.length (row encI a.last) a.last.length (row encL a.follow) a.follow.length a.empty .empty _) ?_
  have no : ∀ h : Heap, mayA a = false → ∃ r, Frz h (.b false) r ∧ r = .b (mayA a) := fun h e => ⟨_, .b _, by rw [e]⟩
  refine if_lt (fun g => by omega) (fun g1 => ?_)
  refine if_mk (fun g => fin_at (.inr rfl) rfl (no _ (by simp at g; simp [mayA, show ¬ a.follow.length = a.sets.length by omega]))) (fun g2 => ?_)
  have g2 : a.follow.length = a.sets.length := by simp at g2; omega
  refine ⟨_, ris19 a.first a.sets.length (by omega), if_mk (fun g => fin_at (.inr rfl) rfl (no _ (by simp [mayA, show risB a.first a.sets.length = false by simpa using g]))) (fun g3 => ?_)⟩
  have g3 : risB a.first a.sets.length = true := by simpa using g3
  refine ⟨_, ris19 a.last a.sets.length (by omega), if_mk (fun g => fin_at (.inr rfl) rfl (no _ (by simp [mayA, show risB a.last a.sets.length = false by simpa using g]))) (fun g4 => ?_)⟩
  have g4 : risB a.last a.sets.length = true := by simpa using g4
  refine ⟨rfl, loop2 [1, 3, 4] [1, 2, 3, 4] rfl (by kernel_rfl) (fun m vs _ => ∃ i : Nat, vs = [.lb (auC a), .i .i64 a.sets.length, .i .i64 (i : Nat)] ∧ i ≤ a.follow.length ∧ m = a.follow.length - i ∧ ((a.follow.take i).all fun l => risB l a.sets.length) = true) a.follow.length mk_len ⟨0, rfl, by omega, by omega, by simp⟩ ?_⟩
  rintro m vs h ⟨i, rfl, hi, rfl, hp⟩
  refine all_rule Tryz.Yok (loc := Tryz.Y.loc 6) 100 [1, 2, 3, 4] ?_
  refine Eq.mpr (f6_1 (row encS4 a.sets) a.sets.length (row encI a.first) a.first.length (row encI a.last) a.last.length (row encL a.follow) a.follow.length a.empty (i : Nat) h _) ?_
  refine if_lt_nat (fun hlt => ?_) (fun hge => ?_)
  · have hlt' : i < a.follow.length := by omega
    refine ⟨bnd_nat hlt', _, _, _, getL a.follow hlt', _, ris19 a.follow[i] a.sets.length (by have := s5 _ (List.getElem_mem hlt'); omega), if_mk (fun h2 => fin_at (.inr rfl) rfl (no _ ?_)) (fun h2 => ?_)⟩
    · have : (a.follow.all fun l => risB l a.sets.length) = false := all_no (p := fun l => risB l a.sets.length) hlt' (by simpa using h2)
      simp [mayA, this]
    · exact ⟨rfl, a.follow.length - (i + 1), by omega, i + 1, by rw [wrap_succ (by omega)]; rfl, by omega, rfl, all_snoc (p := fun l => risB l a.sets.length) hlt' hp (by simpa using h2)⟩
  · refine roundW_exit [] (by kernel_rfl) rfl rfl ?_
    refine end_rule Tryz.Yok (loc := Tryz.Y.loc 6) 100 [2] ?_
    refine Eq.mpr (f6_2 ..) ?_
    rw [List.take_of_length_le (by omega)] at hp
    refine finV1 (.inr rfl) rfl (.b _) ?_
    simp only [mayA, hp, g2, g3, g4, show a.sets.length ≤ 300 by omega, decide_true, Bool.and_true]
end Go.Y
