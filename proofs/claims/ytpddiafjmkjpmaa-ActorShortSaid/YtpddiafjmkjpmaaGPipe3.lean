/- What a side that is on must be, by contracts. -/
import Derived.Test.YtpddiafjmkjpmaaGPrint
namespace Go.Y
open Go.Proofs
set_option maxRecDepth 100000

def okAge (l : List Int) (j : Nat) : Bool := match l[j]? with
  | none => true
  | some a => decide (0 ≤ a) && match j with
    | 0 => true
    | k + 1 => match l[k]? with
      | none => true
      | some b => decide (a ≤ b)
def downS (l : List Int) : Bool := (List.range l.length).all (okAge l)
def agedS (s : Side) : Bool := decide (s.ages.length = s.fly.length) && downS s.ages

theorem down_no {l : List Int} {i : Nat} (hi : i < l.length) (h : okAge l i = false) : downS l = false := by
  unfold downS
  rw [List.all_eq_false]
  exact ⟨i, List.mem_range.2 hi, by simp [h]⟩
theorem range_snoc {p : Nat → Bool} {i : Nat} (h : (List.range i).all p = true) (hp : p i = true) : (List.range (i + 1)).all p = true := by
  rw [List.range_succ, List.all_append, h]; simp [hp]

def AgedI (s : Side) (m : Nat) (vs : List V) (_ : Heap) : Prop :=
  ∃ i : Nat, vs = [.lb (sideC s), .b false, .rf, lst encI s.ages, .i .i64 s.ages.length, .i .i64 (i : Nat)] ∧ i ≤ s.ages.length ∧ m = s.ages.length - i ∧ (List.range i).all (okAge s.ages) = true

theorem aged_con (s : Side) (hl : s.ages.length < 2 ^ 30) : PCon Try.Y 59 [.agg (sideC s)] (· = .b (agedS s)) := by
  refine pcon_of Try.Yok (fn := Try.f59) (by kernel_rfl) (by kernel_rfl) rfl ?_
  refine pre_rule Try.Yok (n := 37) (loc := Try.Y.loc 59) 100 [1, 2, 5, 13, 14, 15] (by kernel_rfl) ?_
  refine Eq.mpr (f59_0 s.on s.shut s.eof s.place s.clock s.typed (row encT s.lines) s.lines.length s.fly (row encI s.ages) s.ages.length s.ready s.buffer .empty _) ?_
  refine if_mk (fun hne => ?_) (fun heq => ?_)
  · have : ¬ s.ages.length = s.fly.length := fun e => by simp [e] at hne
    exact fin_at (.inr rfl) rfl ⟨_, .b _, by simp [agedS, this]⟩
  have hlen : s.ages.length = s.fly.length := by simp at heq; omega
  refine ⟨rfl, loop2 [1, 2, 5, 13, 14, 15] [1, 2, 5, 13, 14, 15] rfl (by kernel_rfl) (AgedI s) s.ages.length mk_len ⟨0, rfl, by omega, by omega, rfl⟩ ?_⟩
  rintro m vs h ⟨i, rfl, hi, rfl, hok⟩
  refine all_rule Try.Yok (loc := Try.Y.loc 59) 100 [1, 2, 5, 13, 14, 15] ?_
  refine Eq.mpr (f59_1 s.on s.shut s.eof s.place s.clock s.typed (row encT s.lines) s.lines.length s.fly (row encI s.ages) s.ages.length s.ready s.buffer (i : Nat) h _) ?_
  have no : i < s.ages.length → okAge s.ages i = false → ∃ r, Frz h (.b false) r ∧ r = .b (agedS s) := fun hlt ho => ⟨_, .b _, by simp [agedS, down_no hlt ho]⟩
  refine if_lt_nat (fun hlt => ?_) (fun hge => ?_)
  · have hge : s.ages[i]? = some s.ages[i] := List.getElem?_eq_getElem hlt
    have next : okAge s.ages i = true → _ ∧ _ := fun ho => (⟨(rfl : (37 : Nat) = 37), (⟨s.ages.length - (i + 1), by omega, i + 1, by rw [wrap_succ (by omega)], by omega, rfl, range_snoc hok ho⟩ : ∃ m', m' < s.ages.length - i ∧ AgedI s m' [.lb (sideC s), .b false, .rf, lst encI s.ages, .i .i64 s.ages.length, .i .i64 (IntKind.i64.wrap ((i : Nat) + 1))] h)⟩)
    refine ⟨bnd_nat hlt, s.ages[i], by rw [Int.toNat_natCast]; exact row_get (f := encI) (k := 1) encI_len hlt, if_lt (fun hneg => ?_) (fun hnn => if_lt (fun hpos => ?_) (fun hz => ?_))⟩
    · exact fin_at (.inr rfl) rfl (no hlt (by unfold okAge; rw [hge]; simp; omega))
    · obtain ⟨k, rfl⟩ : ∃ k, i = k + 1 := ⟨i - 1, by omega⟩
      have hw : IntKind.i64.wrap (((k + 1 : Nat) : Int) - 1) = (k : Nat) := by rw [wrap_ok (by omega) (by omega)]; omega
      have hlt' : k < s.ages.length := by omega
      have hgk : s.ages[k]? = some s.ages[k] := List.getElem?_eq_getElem hlt'
      rw [hw]
      refine ⟨bnd_nat hlt', s.ages[k], by rw [Int.toNat_natCast]; exact row_get (f := encI) (k := 1) encI_len hlt', if_lt (fun hgt => ?_) (fun hle => ?_)⟩
      · exact fin_at (.inr rfl) rfl (no hlt (by unfold okAge; rw [hge]; simp [hgk]; omega))
      · exact next (by unfold okAge; rw [hge]; simp [hgk]; omega)
    · have : i = 0 := by omega
      subst this
      exact next (by unfold okAge; rw [hge]; simp; omega)
  · refine roundW_exit [] (by kernel_rfl) rfl rfl ?_
    refine end_rule Try.Yok (loc := Try.Y.loc 59) 100 [2] ?_
    refine Eq.mpr (f59_2 h _) ?_
    have : i = s.ages.length := by omega
    subst this
    exact finV1 (.inr rfl) rfl (.b _) (by unfold agedS downS; rw [hok]; simp [hlen])

/-- A side that is on. -/
def mayOn (s : Side) (np : Nat) (cap : Int) (pm : Bool) : Bool :=
  pm && decide (0 ≤ s.place) && decide (s.place < np) && decide (0 ≤ s.clock) && lineS s.typed && decide (s.lines.length ≤ 2) && s.lines.all lineS && agedS s && decide (0 ≤ roomS s cap) && decide (s.buffer.length ≤ 64) &&
    (!s.shut || decide (s.place = 0 ∧ s.clock = 0 ∧ s.typed = [] ∧ s.lines = [])) && (!s.eof || s.shut && decide (s.fly = [] ∧ s.ready = []))

theorem any_not (l : List (List UInt8)) : (l.any fun x => !lineS x) = !l.all lineS := by
  induction l with
  | nil => rfl
  | cons x l ih => rw [List.any_cons, List.all_cons, ih]; cases lineS x <;> simp

theorem may_con (s : Side) (cap : Int) (cs : List V) (np : Nat) (pm : Bool) (hp : PCon Try.Y 55 [.agg [.i .i64 cap, .ts cs np none]] (· = .b pm)) (hl : s.ages.length < 2 ^ 30) (hon : s.on = true) (hll : s.lines.length < 2 ^ 30) :
    PCon Try.Y 23 [.agg (sideC s), .agg [.i .i64 cap, .ts cs np none]] (· = .b (mayOn s np cap pm)) := by
  refine pcon_of Try.Yok (fn := Try.f23) (by kernel_rfl) (by kernel_rfl) rfl (end_rule Try.Yok (loc := Try.Y.loc 23) 100 [4] ?_)
  refine Eq.mpr (f23_0 s.on s.shut s.eof s.place s.clock s.typed (row encT s.lines) s.lines.length s.fly (row encI s.ages) s.ages.length s.ready s.buffer cap cs np .empty _) ?_
  have fin : ∀ (b : Bool) (h : Heap), b = mayOn s np cap pm → Fin Try.Y Try.f23 [4] (fun v h => ∃ r, Frz h v r ∧ r = .b (mayOn s np cap pm)) .ret 107 [.b b] h := fun b h e => finV1 (.inr rfl) rfl (.b _) (by rw [e])
  refine ⟨pm, hp, if_mk (fun h1 => fin _ _ (by simp at h1; simp [mayOn, h1])) (fun h1 => ?_)⟩
  have h1 : pm = true := by simpa using h1
  refine if_lt (fun h2 => fin _ _ (by have : ¬ 0 ≤ s.place := by omega
                                      simp [mayOn, this])) (fun h2 => ?_)
  refine if_le (fun h3 => fin _ _ (by have : ¬ s.place < np := by omega
                                      simp [mayOn, this])) (fun h3 => ?_)
  refine if_lt (fun h4 => fin _ _ (by have : ¬ 0 ≤ s.clock := by omega
                                      simp [mayOn, this])) (fun h4 => ?_)
  refine ⟨_, line_con s.typed, if_mk (fun h5 => fin _ _ (by simp at h5; simp [mayOn, h5])) (fun h5 => ?_)⟩
  have h5 : lineS s.typed = true := by simpa using h5
  refine if_lt (fun h6 => fin _ _ (by have : ¬ s.lines.length ≤ 2 := by omega
                                      simp [mayOn, this])) (fun h6 => ?_)
  refine (containsLn s.lines (fun x => !lineS x) .empty hll (fun x _ => notline_con x)).mono fun v h' ⟨e1, e2⟩ => ⟨_, e1, ?_⟩
  rw [any_not]
  refine if_mk (fun h7 => fin _ _ (by have : s.lines.all lineS = false := by simpa using h7
                                      simp only [mayOn, this, Bool.and_false, Bool.false_and])) (fun h7 => ?_)
  have h7 : s.lines.all lineS = true := by simpa using h7
  refine ⟨_, aged_con s hl, if_mk (fun h8 => fin _ _ (by simp at h8; simp [mayOn, h8])) (fun h8 => ?_)⟩
  have h8 : agedS s = true := by simpa using h8
  refine ⟨_, room_con s cap cs np, if_lt (fun h9 => fin _ _ (by have : ¬ 0 ≤ roomS s cap := by omega
                                                                simp [mayOn, this])) (fun h9 => ?_)⟩
  refine if_lt (fun h10 => fin _ _ (by have : ¬ s.buffer.length ≤ 64 := by omega
                                       simp [mayOn, this])) (fun h10 => ?_)
  have e : mayOn s np cap pm = ((!s.shut || decide (s.place = 0 ∧ s.clock = 0 ∧ s.typed = [] ∧ s.lines = [])) && (!s.eof || s.shut && decide (s.fly = [] ∧ s.ready = []))) := by
    have g2 : 0 ≤ s.place := by omega
    have g3 : s.place < np := by omega
    have g4 : 0 ≤ s.clock := by omega
    have g6 : s.lines.length ≤ 2 := by omega
    have g9 : 0 ≤ roomS s cap := by omega
    have g10 : s.buffer.length ≤ 64 := by omega
    simp only [mayOn, h1, h5, h7, h8, g2, g3, g4, g6, g9, g10, decide_true, Bool.true_and]
  rw [e] at fin ⊢
  refine if_mk (fun hoff => by rw [hon] at hoff; cases hoff) (fun _ => ?_)
  have rest : (!s.shut || decide (s.place = 0 ∧ s.clock = 0 ∧ s.typed = [] ∧ s.lines = [])) = true → ∀ h, If (!s.eof) (Fin Try.Y Try.f23 [4] (fun v h => ∃ r, Frz h v r ∧ r = .b ((!s.shut || decide (s.place = 0 ∧ s.clock = 0 ∧ s.typed = [] ∧ s.lines = [])) && (!s.eof || s.shut && decide (s.fly = [] ∧ s.ready = [])))) .ret 107 [.b true] h)
      (If s.shut (If (s.fly == []) (Fin Try.Y Try.f23 [4] (fun v h => ∃ r, Frz h v r ∧ r = .b ((!s.shut || decide (s.place = 0 ∧ s.clock = 0 ∧ s.typed = [] ∧ s.lines = [])) && (!s.eof || s.shut && decide (s.fly = [] ∧ s.ready = [])))) .ret 107 [.b (s.ready == [])] h)
        (Fin Try.Y Try.f23 [4] (fun v h => ∃ r, Frz h v r ∧ r = .b ((!s.shut || decide (s.place = 0 ∧ s.clock = 0 ∧ s.typed = [] ∧ s.lines = [])) && (!s.eof || s.shut && decide (s.fly = [] ∧ s.ready = [])))) .ret 107 [.b false] h))
        (Fin Try.Y Try.f23 [4] (fun v h => ∃ r, Frz h v r ∧ r = .b ((!s.shut || decide (s.place = 0 ∧ s.clock = 0 ∧ s.typed = [] ∧ s.lines = [])) && (!s.eof || s.shut && decide (s.fly = [] ∧ s.ready = [])))) .ret 107 [.b false] h)) := by
    intro hs h
    rw [hs] at fin ⊢
    refine if_mk (fun h11 => fin _ _ (by simp at h11; simp [h11])) (fun h11 => ?_)
    have h11 : s.eof = true := by simpa using h11
    refine if_mk (fun h12 => if_mk (fun h13 => fin _ _ ?_) (fun h13 => fin _ _ ?_)) (fun h12 => fin _ _ ?_)
    · have h13 : s.fly = [] := by simpa using h13
      rw [h11, h12]
      by_cases hr : s.ready = [] <;> simp [h13, hr]
    · have h13 : s.fly ≠ [] := by simpa using h13
      simp [h11, h12, h13]
    · simp [h11, h12]
  refine if_mk (fun hsh => ?_) (fun hsh => rest (by rw [hsh]; rfl) _)
  have h14 : (s.place = 0 ∧ s.clock = 0 ∧ s.typed = [] ∧ s.lines = []) → (!s.shut || decide (s.place = 0 ∧ s.clock = 0 ∧ s.typed = [] ∧ s.lines = [])) = true := fun hh => by simp [hh]
  have h15 : ¬ (s.place = 0 ∧ s.clock = 0 ∧ s.typed = [] ∧ s.lines = []) → false = ((!s.shut || decide (s.place = 0 ∧ s.clock = 0 ∧ s.typed = [] ∧ s.lines = [])) && (!s.eof || s.shut && decide (s.fly = [] ∧ s.ready = []))) := fun hh => by rw [decide_eq_false hh, hsh]; rfl
  refine if_mk (fun g => fin _ _ (h15 fun hh => by simp [hh.1] at g)) (fun g1 => if_mk (fun g => fin _ _ (h15 fun hh => by simp [hh.2.1] at g)) (fun g2 => if_mk (fun g => fin _ _ (h15 fun hh => by simp [hh.2.2.1] at g)) (fun g3 => if_lt (fun g => fin _ _ (h15 fun hh => by simp [hh.2.2.2] at g)) (fun g4 => rest (h14 ⟨?_, ?_, ?_, ?_⟩) _))))
  · simpa using g1
  · simpa using g2
  · simpa using g3
  · exact List.eq_nil_of_length_eq_zero (by omega)
end Go.Y

/- souffleurref16.May of a side that is on, by its contract. -/
namespace Go.Y
open Go.Proofs
set_option maxRecDepth 100000
set_option maxHeartbeats 2000000

/-! ### line -/
theorem rline_con (s : List UInt8) (hs : s.length < 2 ^ 30) : PCon Try.Y 61 [.s s] (· = .b (lineS s)) := by
  refine pcon_of Try.Yok (fn := Try.f61) (by kernel_rfl) (by kernel_rfl) rfl ?_
  refine pre_rule Try.Yok (n := 17) (loc := Try.Y.loc 61) 100 [0, 3] (by kernel_rfl) ?_
  refine Eq.mpr (f61_0 s .empty _) ?_
  refine ⟨rfl, loop2 [0, 3] [0, 2, 3] rfl (by kernel_rfl) (fun m vs _ => ∃ i : Nat, vs = [.s s, .i .i64 (i : Nat)] ∧ i ≤ s.length ∧ m = s.length - i ∧ (s.take i).contains 10 = false) s.length mk_len ⟨0, rfl, by omega, by omega, by simp⟩ ?_⟩
  rintro m vs h ⟨i, rfl, hi, rfl, hno⟩
  refine all_rule Try.Yok (loc := Try.Y.loc 61) 100 [0, 2, 3] ?_
  refine Eq.mpr (f61_1 s (i : Nat) h _) ?_
  refine if_lt_nat (fun hlt => ?_) (fun hge => ?_)
  · refine ⟨s[i], ⟨by omega, by rw [Int.toNat_natCast]; exact List.getElem?_eq_getElem hlt⟩, ?_⟩
    rw [show (10 : Int) = (((10 : UInt8).toNat : Nat) : Int) by decide, u8_eq]
    refine if_mk (fun hc => ?_) (fun hc => ?_)
    · have hc : s[i] = 10 := by simpa using hc
      have hm : s.contains 10 = true := by
        rw [List.contains_iff_mem, ← hc]
        exact List.getElem_mem hlt
      exact fin_at (.inr rfl) rfl ⟨_, .b _, by simp only [lineS, hm, Bool.not_true, Bool.and_false]⟩
    · have hc : s[i] ≠ 10 := by simpa using hc
      refine ⟨rfl, s.length - (i + 1), by omega, i + 1, by rw [wrap_succ (by omega)]; rfl, by omega, rfl, ?_⟩
      rw [← Bool.not_eq_true, List.contains_iff_mem] at hno ⊢
      rw [List.take_succ_eq_append_getElem hlt, List.mem_append]
      rintro (hx | hx)
      · exact hno hx
      · exact hc (List.mem_singleton.1 hx).symm
  · refine roundW_exit [0] (by kernel_rfl) rfl rfl ?_
    refine end_rule Try.Yok (loc := Try.Y.loc 61) 100 [2] ?_
    refine Eq.mpr (f61_2 s h _) ?_
    rw [List.take_of_length_le hge] at hno
    refine finV1 (.inr rfl) rfl (.b _) ?_
    have : leI (s.length : Nat) 16 = decide (s.length ≤ 16) := by unfold leI; by_cases hx : s.length ≤ 16 <;> simp [hx] <;> omega
    rw [this, lineS, hno]; simp

/-! ### May -/
def R1I (s : Side) (cap : Int) (cs : List V) (np : Nat) (m : Nat) (vs : List V) (_ : Heap) : Prop :=
  ∃ i : Nat, vs = [.lb (sideC s), .lb [.i .i64 cap, .ts cs np none], .i .i64 (i : Nat), .agg [.i .i64 cap, .ts cs np none], .b false, .rf, .b (ltI s.place 0), .rf] ∧ i ≤ s.lines.length ∧ m = s.lines.length - i ∧ (s.lines.take i).all lineS = true
def R2I (s : Side) (cap : Int) (cs : List V) (np : Nat) (m : Nat) (vs : List V) (_ : Heap) : Prop :=
  ∃ i : Nat, vs = [.lb (sideC s), .lb [.i .i64 cap, .ts cs np none], .i .i64 (i : Nat), .b false, .rf, .rf] ∧ i ≤ s.ages.length ∧ m = s.ages.length - i ∧ (List.range i).all (okAge s.ages) = true

theorem rmayOn_con (s : Side) (cap : Int) (cs : List V) (np : Nat) (pm : Bool) (hp : PCon Try.Y 47 [.agg [.i .i64 cap, .ts cs np none]] (· = .b pm)) (hl : s.ages.length < 2 ^ 30) (hon : s.on = true) (hty : s.typed.length < 2 ^ 30) (hll : ∀ x ∈ s.lines, x.length < 2 ^ 30) :
    PCon Try.Y 24 [.agg (sideC s), .agg [.i .i64 cap, .ts cs np none]] (· = .b (mayOn s np cap pm)) := by
  refine pcon_of Try.Yok (fn := Try.f24) (by kernel_rfl) (by kernel_rfl) rfl ?_
  refine pre_rule Try.Yok (n := 153) (loc := Try.Y.loc 24) 100 [2, 3, 4, 5, 7, 9, 11, 13, 16] (by kernel_rfl) ?_
  refine Eq.mpr (f24_0 s.on s.shut s.eof s.place s.clock s.typed (row encT s.lines) s.lines.length s.fly (row encI s.ages) s.ages.length s.ready s.buffer cap cs np .empty _) ?_
  have no : ∀ h, false = mayOn s np cap pm → ∃ r, Frz h (.b false) r ∧ r = .b (mayOn s np cap pm) := fun h e => ⟨_, .b _, by rw [e]⟩
  refine ⟨pm, hp, if_mk (fun h1 => fin_at (.inr rfl) rfl (no _ (by simp at h1; simp [mayOn, h1]))) (fun h1 => ?_)⟩
  have h1 : pm = true := by simpa using h1
  refine if_lt (fun h2 => fin_at (.inr rfl) rfl (no _ (by have : ¬ 0 ≤ s.place := by omega
                                                          simp [mayOn, this]))) (fun h2 => ?_)
  refine if_le (fun h3 => fin_at (.inr rfl) rfl (no _ (by have : ¬ s.place < np := by omega
                                                          simp [mayOn, this]))) (fun h3 => ?_)
  refine if_lt (fun h4 => fin_at (.inr rfl) rfl (no _ (by have : ¬ 0 ≤ s.clock := by omega
                                                          simp [mayOn, this]))) (fun h4 => ?_)
  refine ⟨_, rline_con s.typed hty, if_mk (fun h5 => fin_at (.inr rfl) rfl (no _ (by simp at h5; simp [mayOn, h5]))) (fun h5 => ?_)⟩
  have h5 : lineS s.typed = true := by simpa using h5
  refine if_lt (fun h6 => fin_at (.inr rfl) rfl (no _ (by have : ¬ s.lines.length ≤ 2 := by omega
                                                          simp [mayOn, this]))) (fun h6 => ?_)
  refine ⟨rfl, loop2 [2, 3, 5, 7, 9, 11, 13, 16] [2, 3, 4, 5, 7, 9, 11, 13, 16] rfl (by kernel_rfl) (R1I s cap cs np) s.lines.length mk_len ⟨0, by rw [h1]; rfl, by omega, by omega, rfl⟩ ?_⟩
  rintro m vs h ⟨i, rfl, hi, rfl, hli⟩
  refine all_rule Try.Yok (loc := Try.Y.loc 24) 100 [2, 3, 4, 5, 7, 9, 11, 13, 16] ?_
  refine Eq.mpr (f24_1 s.place s.clock s.typed (row encT s.lines) s.lines.length s.fly (row encI s.ages) s.ages.length s.ready s.buffer cap cs np s.on s.shut s.eof false (ltI s.place 0) (i : Nat) h _) ?_
  refine if_lt_nat (fun hlt => ?_) (fun hge => ?_)
  · refine ⟨bnd_nat hlt, s.lines[i], by rw [Int.toNat_natCast]; exact row_get (f := encT) (k := 1) encT_len hlt, _, rline_con s.lines[i] (hll _ (List.getElem_mem hlt)), if_mk (fun hc => ?_) (fun hc => ?_)⟩
    · have : s.lines.all lineS = false := by
        rw [List.all_eq_false]
        exact ⟨_, List.getElem_mem hlt, by simpa using hc⟩
      exact fin_at (.inr rfl) rfl (no _ (by simp only [mayOn, this, Bool.and_false, Bool.false_and]))
    · refine ⟨rfl, s.lines.length - (i + 1), by omega, i + 1, by rw [wrap_succ (by omega)]; rfl, by omega, rfl, ?_⟩
      rw [List.take_succ_eq_append_getElem hlt, List.all_append, hli]
      simpa using hc
  refine roundW_exit [2, 3, 7, 9, 11, 13, 16] (by kernel_rfl) rfl rfl ?_
  rw [List.take_of_length_le hge] at hli
  refine pre_rule Try.Yok (n := 153) (loc := Try.Y.loc 24) 100 [2, 3, 4, 6, 9, 11, 16] (by kernel_rfl) ?_
  refine Eq.mpr (f24_2 s.place s.clock (row encT s.lines) s.lines.length (row encI s.ages) s.ages.length cap cs np s.on s.shut s.eof s.typed s.fly s.ready s.buffer false (ltI s.place 0) h _) ?_
  refine if_mk (fun h7 => fin_at (.inr rfl) rfl (no _ (by have : ¬ s.ages.length = s.fly.length := fun e => by simp [e] at h7
                                                          have : agedS s = false := by simp [agedS, this]
                                                          simp only [mayOn, this, Bool.and_false, Bool.false_and]))) (fun h7 => ?_)
  have h7 : s.ages.length = s.fly.length := by simp at h7; omega
  refine ⟨_, rroom_con s cap cs np, if_lt (fun h9 => fin_at (.inr rfl) rfl (no _ (by have : ¬ 0 ≤ roomS s cap := by omega
                                                                                     simp [mayOn, this]))) (fun h9 => ?_)⟩
  refine if_lt (fun h10 => fin_at (.inr rfl) rfl (no _ (by have : ¬ s.buffer.length ≤ 64 := by omega
                                                           simp [mayOn, this]))) (fun h10 => ?_)
  refine ⟨rfl, loop2 [2, 3, 6, 9, 11, 16] [2, 3, 4, 6, 9, 11, 16] rfl (by kernel_rfl) (R2I s cap cs np) s.ages.length mk_len ⟨0, rfl, by omega, by omega, rfl⟩ ?_⟩
  rintro m vs h ⟨i, rfl, hi, rfl, hok⟩
  refine all_rule Try.Yok (loc := Try.Y.loc 24) 100 [2, 3, 4, 6, 9, 11, 16] ?_
  refine Eq.mpr (f24_3 s.place s.clock (row encT s.lines) s.lines.length (row encI s.ages) s.ages.length cap cs np s.on s.shut s.eof s.typed s.fly s.ready s.buffer false (i : Nat) h _) ?_
  have no2 : i < s.ages.length → okAge s.ages i = false → ∃ r, Frz h (.b false) r ∧ r = .b (mayOn s np cap pm) := fun hlt ho => no h (by
    have : agedS s = false := by simp [agedS, down_no hlt ho]
    simp only [mayOn, this, Bool.and_false, Bool.false_and])
  refine if_lt_nat (fun hlt => ?_) (fun hge => ?_)
  · have hge : s.ages[i]? = some s.ages[i] := List.getElem?_eq_getElem hlt
    have hget : takeX 1 (List.drop ((i : Int).toNat * 1) (row encI s.ages)) = some (encI s.ages[i]) := by rw [Int.toNat_natCast]; exact row_get (f := encI) (k := 1) encI_len hlt
    have next : okAge s.ages i = true → _ ∧ _ := fun ho => (⟨(rfl : (153 : Nat) = 153), (⟨s.ages.length - (i + 1), by omega, i + 1, by rw [wrap_succ (by omega)], by omega, rfl, range_snoc hok ho⟩ : ∃ m', m' < s.ages.length - i ∧ R2I s cap cs np m' [.lb (sideC s), .lb [.i .i64 cap, .ts cs np none], .i .i64 (IntKind.i64.wrap ((i : Nat) + 1)), .b false, .rf, .rf] h)⟩)
    refine ⟨bnd_nat hlt, s.ages[i], hget, if_lt (fun hneg => ?_) (fun hnn => if_lt (fun hpos => ?_) (fun hz => ?_))⟩
    · exact fin_at (.inr rfl) rfl (no2 hlt (by unfold okAge; rw [hge]; simp; omega))
    · refine ⟨bnd_nat hlt, s.ages[i], hget, ?_⟩
      obtain ⟨k, rfl⟩ : ∃ k, i = k + 1 := ⟨i - 1, by omega⟩
      have hw : IntKind.i64.wrap (((k + 1 : Nat) : Int) - 1) = (k : Nat) := by rw [wrap_ok (by omega) (by omega)]; omega
      have hlt' : k < s.ages.length := by omega
      have hgk : s.ages[k]? = some s.ages[k] := List.getElem?_eq_getElem hlt'
      rw [hw]
      refine ⟨bnd_nat hlt', s.ages[k], by rw [Int.toNat_natCast]; exact row_get (f := encI) (k := 1) encI_len hlt', if_lt (fun hgt => ?_) (fun hle => ?_)⟩
      · exact fin_at (.inr rfl) rfl (no2 hlt (by unfold okAge; rw [hge]; simp [hgk]; omega))
      · exact next (by unfold okAge; rw [hge]; simp [hgk]; omega)
    · have : i = 0 := by omega
      subst this
      exact next (by unfold okAge; rw [hge]; simp; omega)
  refine roundW_exit [2, 3, 6, 11, 16] (by kernel_rfl) rfl rfl ?_
  refine end_rule Try.Yok (loc := Try.Y.loc 24) 100 [4] ?_
  have hi' : i = s.ages.length := by omega
  subst hi'
  refine Eq.mpr (f24_4 s.place s.clock (row encT s.lines) s.lines.length (row encI s.ages) s.ages.length cap cs np (s.ages.length : Nat) s.on s.shut s.eof s.typed s.fly s.ready s.buffer h _) ?_
  have h8 : agedS s = true := by unfold agedS downS; rw [hok]; simp [h7]
  have e : mayOn s np cap pm = ((!s.shut || decide (s.place = 0 ∧ s.clock = 0 ∧ s.typed = [] ∧ s.lines = [])) && (!s.eof || s.shut && decide (s.fly = [] ∧ s.ready = []))) := by
    have g2 : 0 ≤ s.place := by omega
    have g3 : s.place < np := by omega
    have g4 : 0 ≤ s.clock := by omega
    have g6 : s.lines.length ≤ 2 := by omega
    have g9 : 0 ≤ roomS s cap := by omega
    have g10 : s.buffer.length ≤ 64 := by omega
    simp only [mayOn, h1, h5, hli, h8, g2, g3, g4, g6, g9, g10, decide_true, Bool.true_and]
  have fin : ∀ (b : Bool) (h : Heap), b = ((!s.shut || decide (s.place = 0 ∧ s.clock = 0 ∧ s.typed = [] ∧ s.lines = [])) && (!s.eof || s.shut && decide (s.fly = [] ∧ s.ready = []))) → Fin Try.Y Try.f24 [4] (fun v h => ∃ r, Frz h v r ∧ r = .b (mayOn s np cap pm)) .ret 153 [.b b] h := fun b h e2 => finV1 (.inr rfl) rfl (.b _) (by rw [e2, e])
  generalize Fin Try.Y Try.f24 [4] (fun v h => ∃ r, Frz h v r ∧ r = .b (mayOn s np cap pm)) = K at fin ⊢
  refine if_mk (fun hoff => by rw [hon] at hoff; cases hoff) (fun _ => ?_)
  have rest : (!s.shut || decide (s.place = 0 ∧ s.clock = 0 ∧ s.typed = [] ∧ s.lines = [])) = true → ∀ h, If (!s.eof) (K .ret 153 [.b true] h) (If s.shut (If (s.fly == []) (K .ret 153 [.b (s.ready == [])] h) (K .ret 153 [.b false] h)) (K .ret 153 [.b false] h)) := by
    intro hs h
    rw [hs] at fin
    refine if_mk (fun h11 => fin _ _ (by simp at h11; simp [h11])) (fun h11 => ?_)
    have h11 : s.eof = true := by simpa using h11
    refine if_mk (fun h12 => if_mk (fun h13 => fin _ _ ?_) (fun h13 => fin _ _ ?_)) (fun h12 => fin _ _ ?_)
    · have h13 : s.fly = [] := by simpa using h13
      rw [h11, h12]
      by_cases hr : s.ready = [] <;> simp [h13, hr]
    · have h13 : s.fly ≠ [] := by simpa using h13
      simp [h11, h12, h13]
    · simp [h11, h12]
  refine if_mk (fun hsh => ?_) (fun hsh => rest (by rw [hsh]; rfl) _)
  have h14 : (s.place = 0 ∧ s.clock = 0 ∧ s.typed = [] ∧ s.lines = []) → (!s.shut || decide (s.place = 0 ∧ s.clock = 0 ∧ s.typed = [] ∧ s.lines = [])) = true := fun hh => by simp [hh]
  have h15 : ¬ (s.place = 0 ∧ s.clock = 0 ∧ s.typed = [] ∧ s.lines = []) → false = ((!s.shut || decide (s.place = 0 ∧ s.clock = 0 ∧ s.typed = [] ∧ s.lines = [])) && (!s.eof || s.shut && decide (s.fly = [] ∧ s.ready = []))) := fun hh => by rw [decide_eq_false hh, hsh]; rfl
  refine if_mk (fun g => fin _ _ (h15 fun hh => by simp [hh.1] at g)) (fun g1 => if_mk (fun g => fin _ _ (h15 fun hh => by simp [hh.2.1] at g)) (fun g2 => if_mk (fun g => fin _ _ (h15 fun hh => by simp [hh.2.2.1] at g)) (fun g3 => if_lt (fun g => fin _ _ (h15 fun hh => by simp [hh.2.2.2] at g)) (fun g4 => rest (h14 ⟨?_, ?_, ?_, ?_⟩) _))))
  · simpa using g1
  · simpa using g2
  · simpa using g3
  · exact List.eq_nil_of_length_eq_zero (by omega)
end Go.Y
