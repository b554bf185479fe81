/- What a side that is on must be, by contracts. -/
import Derived.Test.YtpddiafjmkjpmaaGPipe2
namespace Go.Y
open Go.Proofs
set_option maxRecDepth 100000

def okAge (l : List Int) (j : Nat) : Bool := match l[j]? with
  | none => true
  | some a => decide (0 ≤ a) && match j with
    | 0 => true
    | k + 1 => match l[k]? with
      | none => true
      | some b => decide (a ≤ b)
def downS (l : List Int) : Bool := (List.range l.length).all (okAge l)
def agedS (s : Side) : Bool := decide (s.ages.length = s.fly.length) && downS s.ages

theorem down_no {l : List Int} {i : Nat} (hi : i < l.length) (h : okAge l i = false) : downS l = false := by
  unfold downS
  rw [List.all_eq_false]
  exact ⟨i, List.mem_range.2 hi, by simp [h]⟩
theorem range_snoc {p : Nat → Bool} {i : Nat} (h : (List.range i).all p = true) (hp : p i = true) : (List.range (i + 1)).all p = true := by
  rw [List.range_succ, List.all_append, h]; simp [hp]

def AgedI (s : Side) (m : Nat) (vs : List V) (_ : Heap) : Prop :=
  ∃ i : Nat, vs = [.lb (sideC s), .b false, .rf, lst encI s.ages, .i .i64 s.ages.length, .i .i64 (i : Nat)] ∧ i ≤ s.ages.length ∧ m = s.ages.length - i ∧ (List.range i).all (okAge s.ages) = true

theorem aged_con (s : Side) (hl : s.ages.length < 2 ^ 30) : PCon Try.Y 59 [.agg (sideC s)] (· = .b (agedS s)) := by
  refine pcon_of Try.Yok (fn := Try.f59) (by kernel_rfl) (by kernel_rfl) rfl ?_
  refine pre_rule Try.Yok (n := 37) (loc := Try.Y.loc 59) 100 [1, 2, 5, 13, 14, 15] (by kernel_rfl) ?_
  refine Eq.mpr (f59_0 s.on s.shut s.eof s.place s.clock s.typed (row encT s.lines) s.lines.length s.fly (row encI s.ages) s.ages.length s.ready s.buffer .empty _) ?_
  refine if_mk (fun hne => ?_) (fun heq => ?_)
  · have : ¬ s.ages.length = s.fly.length := fun e => by simp [e] at hne
    exact fin_at (.inr rfl) rfl ⟨_, .b _, by simp [agedS, this]⟩
  have hlen : s.ages.length = s.fly.length := by simp at heq; omega
  refine ⟨rfl, loop2 [1, 2, 5, 13, 14, 15] [1, 2, 5, 13, 14, 15] rfl (by kernel_rfl) (AgedI s) s.ages.length mk_len ⟨0, rfl, by omega, by omega, rfl⟩ ?_⟩
  rintro m vs h ⟨i, rfl, hi, rfl, hok⟩
  refine all_rule Try.Yok (loc := Try.Y.loc 59) 100 [1, 2, 5, 13, 14, 15] ?_
  refine Eq.mpr (f59_1 s.on s.shut s.eof s.place s.clock s.typed (row encT s.lines) s.lines.length s.fly (row encI s.ages) s.ages.length s.ready s.buffer (i : Nat) h _) ?_
  have no : i < s.ages.length → okAge s.ages i = false → ∃ r, Frz h (.b false) r ∧ r = .b (agedS s) := fun hlt ho => ⟨_, .b _, by simp [agedS, down_no hlt ho]⟩
  refine if_lt_nat (fun hlt => ?_) (fun hge => ?_)
  · have hge : s.ages[i]? = some s.ages[i] := List.getElem?_eq_getElem hlt
    have next : okAge s.ages i = true → _ ∧ _ := fun ho => (⟨(rfl : (37 : Nat) = 37), (⟨s.ages.length - (i + 1), by omega, i + 1, by rw [wrap_succ (by omega)], by omega, rfl, range_snoc hok ho⟩ : ∃ m', m' < s.ages.length - i ∧ AgedI s m' [.lb (sideC s), .b false, .rf, lst encI s.ages, .i .i64 s.ages.length, .i .i64 (IntKind.i64.wrap ((i : Nat) + 1))] h)⟩)
    refine ⟨bnd_nat hlt, s.ages[i], by rw [Int.toNat_natCast]; exact row_get (f := encI) (k := 1) encI_len hlt, if_lt (fun hneg => ?_) (fun hnn => if_lt (fun hpos => ?_) (fun hz => ?_))⟩
    · exact fin_at (.inr rfl) rfl (no hlt (by unfold okAge; rw [hge]; simp; omega))
    · obtain ⟨k, rfl⟩ : ∃ k, i = k + 1 := ⟨i - 1, by omega⟩
      have hw : IntKind.i64.wrap (((k + 1 : Nat) : Int) - 1) = (k : Nat) := by rw [wrap_ok (by omega) (by omega)]; omega
      have hlt' : k < s.ages.length := by omega
      have hgk : s.ages[k]? = some s.ages[k] := List.getElem?_eq_getElem hlt'
      rw [hw]
      refine ⟨bnd_nat hlt', s.ages[k], by rw [Int.toNat_natCast]; exact row_get (f := encI) (k := 1) encI_len hlt', if_lt (fun hgt => ?_) (fun hle => ?_)⟩
      · exact fin_at (.inr rfl) rfl (no hlt (by unfold okAge; rw [hge]; simp [hgk]; omega))
      · exact next (by unfold okAge; rw [hge]; simp [hgk]; omega)
    · have : i = 0 := by omega
      subst this
      exact next (by unfold okAge; rw [hge]; simp; omega)
  · refine roundW_exit [] (by kernel_rfl) rfl rfl ?_
    refine end_rule Try.Yok (loc := Try.Y.loc 59) 100 [2] ?_
    refine Eq.mpr (f59_2 h _) ?_
    have : i = s.ages.length := by omega
    subst this
    exact finV1 (.inr rfl) rfl (.b _) (by unfold agedS downS; rw [hok]; simp [hlen])

/-- A side that is on. -/
def mayOn (s : Side) (np : Nat) (cap : Int) (pm : Bool) : Bool :=
  pm && decide (0 ≤ s.place) && decide (s.place < np) && decide (0 ≤ s.clock) && lineS s.typed && decide (s.lines.length ≤ 2) && s.lines.all lineS && agedS s && decide (0 ≤ roomS s cap) && decide (s.buffer.length ≤ 64) &&
    (!s.shut || decide (s.place = 0 ∧ s.clock = 0 ∧ s.typed = [] ∧ s.lines = [])) && (!s.eof || s.shut && decide (s.fly = [] ∧ s.ready = []))

theorem any_not (l : List (List UInt8)) : (l.any fun x => !lineS x) = !l.all lineS := by
  induction l with
  | nil => rfl
  | cons x l ih => rw [List.any_cons, List.all_cons, ih]; cases lineS x <;> simp

theorem may_con (s : Side) (cap : Int) (cs : List V) (np : Nat) (pm : Bool) (hp : PCon Try.Y 55 [.agg [.i .i64 cap, .ts cs np none]] (· = .b pm)) (hl : s.ages.length < 2 ^ 30) (hon : s.on = true) (hll : s.lines.length < 2 ^ 30) :
    PCon Try.Y 23 [.agg (sideC s), .agg [.i .i64 cap, .ts cs np none]] (· = .b (mayOn s np cap pm)) := by
  refine pcon_of Try.Yok (fn := Try.f23) (by kernel_rfl) (by kernel_rfl) rfl (end_rule Try.Yok (loc := Try.Y.loc 23) 100 [4] ?_)
  refine Eq.mpr (f23_0 s.on s.shut s.eof s.place s.clock s.typed (row encT s.lines) s.lines.length s.fly (row encI s.ages) s.ages.length s.ready s.buffer cap cs np .empty _) ?_
  have fin : ∀ (b : Bool) (h : Heap), b = mayOn s np cap pm → Fin Try.Y Try.f23 [4] (fun v h => ∃ r, Frz h v r ∧ r = .b (mayOn s np cap pm)) .ret 107 [.b b] h := fun b h e => finV1 (.inr rfl) rfl (.b _) (by rw [e])
  refine ⟨pm, hp, if_mk (fun h1 => fin _ _ (by simp at h1; simp [mayOn, h1])) (fun h1 => ?_)⟩
  have h1 : pm = true := by simpa using h1
  refine if_lt (fun h2 => fin _ _ (by have : ¬ 0 ≤ s.place := by omega
                                      simp [mayOn, this])) (fun h2 => ?_)
  refine if_le (fun h3 => fin _ _ (by have : ¬ s.place < np := by omega
                                      simp [mayOn, this])) (fun h3 => ?_)
  refine if_lt (fun h4 => fin _ _ (by have : ¬ 0 ≤ s.clock := by omega
                                      simp [mayOn, this])) (fun h4 => ?_)
  refine ⟨_, line_con s.typed, if_mk (fun h5 => fin _ _ (by simp at h5; simp [mayOn, h5])) (fun h5 => ?_)⟩
  have h5 : lineS s.typed = true := by simpa using h5
  refine if_lt (fun h6 => fin _ _ (by have : ¬ s.lines.length ≤ 2 := by omega
                                      simp [mayOn, this])) (fun h6 => ?_)
  refine (containsLn s.lines (fun x => !lineS x) .empty hll (fun x _ => notline_con x)).mono fun v h' ⟨e1, e2⟩ => ⟨_, e1, ?_⟩
  rw [any_not]
  refine if_mk (fun h7 => fin _ _ (by have : s.lines.all lineS = false := by simpa using h7
                                      simp only [mayOn, this, Bool.and_false, Bool.false_and])) (fun h7 => ?_)
  have h7 : s.lines.all lineS = true := by simpa using h7
  refine ⟨_, aged_con s hl, if_mk (fun h8 => fin _ _ (by simp at h8; simp [mayOn, h8])) (fun h8 => ?_)⟩
  have h8 : agedS s = true := by simpa using h8
  refine ⟨_, room_con s cap cs np, if_lt (fun h9 => fin _ _ (by have : ¬ 0 ≤ roomS s cap := by omega
                                                                simp [mayOn, this])) (fun h9 => ?_)⟩
  refine if_lt (fun h10 => fin _ _ (by have : ¬ s.buffer.length ≤ 64 := by omega
                                       simp [mayOn, this])) (fun h10 => ?_)
  have e : mayOn s np cap pm = ((!s.shut || decide (s.place = 0 ∧ s.clock = 0 ∧ s.typed = [] ∧ s.lines = [])) && (!s.eof || s.shut && decide (s.fly = [] ∧ s.ready = []))) := by
    have g2 : 0 ≤ s.place := by omega
    have g3 : s.place < np := by omega
    have g4 : 0 ≤ s.clock := by omega
    have g6 : s.lines.length ≤ 2 := by omega
    have g9 : 0 ≤ roomS s cap := by omega
    have g10 : s.buffer.length ≤ 64 := by omega
    simp only [mayOn, h1, h5, h7, h8, g2, g3, g4, g6, g9, g10, decide_true, Bool.true_and]
  rw [e] at fin ⊢
  refine if_mk (fun hoff => by rw [hon] at hoff; cases hoff) (fun _ => ?_)
  have rest : (!s.shut || decide (s.place = 0 ∧ s.clock = 0 ∧ s.typed = [] ∧ s.lines = [])) = true → ∀ h, If (!s.eof) (Fin Try.Y Try.f23 [4] (fun v h => ∃ r, Frz h v r ∧ r = .b ((!s.shut || decide (s.place = 0 ∧ s.clock = 0 ∧ s.typed = [] ∧ s.lines = [])) && (!s.eof || s.shut && decide (s.fly = [] ∧ s.ready = [])))) .ret 107 [.b true] h)
      (If s.shut (If (s.fly == []) (Fin Try.Y Try.f23 [4] (fun v h => ∃ r, Frz h v r ∧ r = .b ((!s.shut || decide (s.place = 0 ∧ s.clock = 0 ∧ s.typed = [] ∧ s.lines = [])) && (!s.eof || s.shut && decide (s.fly = [] ∧ s.ready = [])))) .ret 107 [.b (s.ready == [])] h)
        (Fin Try.Y Try.f23 [4] (fun v h => ∃ r, Frz h v r ∧ r = .b ((!s.shut || decide (s.place = 0 ∧ s.clock = 0 ∧ s.typed = [] ∧ s.lines = [])) && (!s.eof || s.shut && decide (s.fly = [] ∧ s.ready = [])))) .ret 107 [.b false] h))
        (Fin Try.Y Try.f23 [4] (fun v h => ∃ r, Frz h v r ∧ r = .b ((!s.shut || decide (s.place = 0 ∧ s.clock = 0 ∧ s.typed = [] ∧ s.lines = [])) && (!s.eof || s.shut && decide (s.fly = [] ∧ s.ready = [])))) .ret 107 [.b false] h)) := by
    intro hs h
    rw [hs] at fin ⊢
    refine if_mk (fun h11 => fin _ _ (by simp at h11; simp [h11])) (fun h11 => ?_)
    have h11 : s.eof = true := by simpa using h11
    refine if_mk (fun h12 => if_mk (fun h13 => fin _ _ ?_) (fun h13 => fin _ _ ?_)) (fun h12 => fin _ _ ?_)
    · have h13 : s.fly = [] := by simpa using h13
      rw [h11, h12]
      by_cases hr : s.ready = [] <;> simp [h13, hr]
    · have h13 : s.fly ≠ [] := by simpa using h13
      simp [h11, h12, h13]
    · simp [h11, h12]
  refine if_mk (fun hsh => ?_) (fun hsh => rest (by rw [hsh]; rfl) _)
  have h14 : (s.place = 0 ∧ s.clock = 0 ∧ s.typed = [] ∧ s.lines = []) → (!s.shut || decide (s.place = 0 ∧ s.clock = 0 ∧ s.typed = [] ∧ s.lines = [])) = true := fun hh => by simp [hh]
  have h15 : ¬ (s.place = 0 ∧ s.clock = 0 ∧ s.typed = [] ∧ s.lines = []) → false = ((!s.shut || decide (s.place = 0 ∧ s.clock = 0 ∧ s.typed = [] ∧ s.lines = [])) && (!s.eof || s.shut && decide (s.fly = [] ∧ s.ready = []))) := fun hh => by rw [decide_eq_false hh, hsh]; rfl
  refine if_mk (fun g => fin _ _ (h15 fun hh => by simp [hh.1] at g)) (fun g1 => if_mk (fun g => fin _ _ (h15 fun hh => by simp [hh.2.1] at g)) (fun g2 => if_mk (fun g => fin _ _ (h15 fun hh => by simp [hh.2.2.1] at g)) (fun g3 => if_lt (fun g => fin _ _ (h15 fun hh => by simp [hh.2.2.2] at g)) (fun g4 => rest (h14 ⟨?_, ?_, ?_, ?_⟩) _))))
  · simpa using g1
  · simpa using g2
  · simpa using g3
  · exact List.eq_nil_of_length_eq_zero (by omega)
end Go.Y
