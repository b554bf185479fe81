/- glob.Match, by its contract. -/
import Derived.Test.YtpddiafjmkjpmaaGFits
namespace Go.Y
open Go.Proofs
set_option maxRecDepth 100000

/-- How far back is gone. -/
def manyOf (mi : Int) (f : Nat) : Option (Nat × Nat) := if 0 ≤ mi then some (mi.toNat + 1, f) else none

def MatchI (l : List Glob) (s : List UInt8) (m : Nat) (vs : List V) (_ : Heap) : Prop :=
  ∃ (i k : Nat) (mi : Int) (f : Nat) (b : Bool), vs = [lst encG l, .s s, .b b, .i .i64 (i : Nat), .i .i64 (k : Nat), .i .i64 mi, .i .i64 (f : Nat)] ∧ i ≤ l.length ∧ k ≤ s.length ∧ f ≤ k ∧ -1 ≤ mi ∧ mi < l.length ∧
    wayOK l i k (manyOf mi f) ∧ goal l s i k (manyOf mi f) = M l s ∧ m = (if 0 ≤ mi then ((l.length - mi.toNat) * (s.length + 2) + (s.length + 1 - f)) * (l.length + s.length + 2) else (l.length + 1) * (s.length + 2) * (l.length + s.length + 2)) + (s.length - k) + (l.length - i)

def TailI (l : List Glob) (s : List UInt8) (m : Nat) (vs : List V) (_ : Heap) : Prop :=
  ∃ (i : Nat) (b : Bool), vs = [lst encG l, .b b, .i .i64 (i : Nat)] ∧ i ≤ l.length ∧ (l.drop i).all (fun g => g.k == 2) = M l s ∧ m = l.length - i

theorem match_con (l : List Glob) (s : List UInt8) (hs : okG l) (hsl : s.length < 2 ^ 28) : PCon Try.Y 18 [lst encG l, .s s] (· = .b (mayS l && M l s)) := by
  have hl := hs.1
  refine pcon_of Try.Yok (fn := Try.f18) (by kernel_rfl) (by kernel_rfl) rfl ?_
  refine pre_rule Try.Yok (n := 78) (loc := Try.Y.loc 18) 100 [0, 1, 4, 5, 6, 7, 8] (by kernel_rfl) ?_
  refine Eq.mpr (f18_0 (row encG l) l.length s .empty _) ?_
  refine ⟨_, gmay_con l hs, if_mk (fun hm => fin_at (.inr rfl) rfl ⟨_, .b _, ?_⟩) (fun hm => ?_)⟩
  · have : mayS l = false := by simpa using hm
    rw [this]; rfl
  have hmay : mayS l = true := by simpa using hm
  rw [hmay, Bool.true_and]
  refine ⟨rfl, loop2 [0, 1, 4, 5, 6, 7, 8] [0, 1, 4, 5, 6, 7, 8] rfl (by kernel_rfl) (MatchI l s) _ mk_len ⟨0, 0, -1, 0, false, rfl, by omega, by omega, by omega, by omega, by omega, trivial, ?_, rfl⟩ ?_⟩
  · simp [goal, manyOf]
  rintro m vs h ⟨i, k, mi, f, b, rfl, hi, hk, hf, hm0, hm1, hw, hgoal, rfl⟩
  refine all_rule Try.Yok (loc := Try.Y.loc 18) 100 [0, 1, 4, 5, 6, 7, 8] ?_
  refine Eq.mpr (f18_1 (row encG l) l.length s b (i : Nat) (k : Nat) mi (f : Nat) h _) ?_
  generalize hK : RoundW Try.Y 78 [0, 1, 4, 5, 6, 7, 8] [0, 1, 4, 5, 6, 7, 8] (MatchI l s) _ (loopId (post (flat (bodyOf Try.f18)))) ((post (flat (bodyOf Try.f18))).drop 1) (FinS Try.Y Try.f18 fun v h => ∃ r, Frz h v r ∧ r = .b (M l s)) = K
  refine if_lt_nat (fun hkl => ?_) (fun hkg => ?_)
  · -- one more byte is there
    have back : (∀ (h : i < l.length), l[i].k ≠ 2 ∧ fitsS l[i] s[k].toNat = false) → If (leI 0 mi) (K .normal 78 [lst encG l, .s s, .b b, .i .i64 (IntKind.i64.wrap (mi + 1)), .i .i64 (IntKind.i64.wrap ((f : Nat) + 1)), .i .i64 mi, .i .i64 (IntKind.i64.wrap ((f : Nat) + 1))] h)
        (K .ret 78 [lst encG l, .s s, .b false, .i .i64 (i : Nat), .i .i64 (k : Nat), .i .i64 mi, .i .i64 (f : Nat)] h) := by
      intro hno
      refine if_le (fun hmi => ?_) (fun hmi => ?_)
      · obtain ⟨q, rfl⟩ : ∃ q : Nat, mi = (q : Nat) := ⟨mi.toNat, by omega⟩
        have hmo : manyOf (q : Nat) f = some (q + 1, f) := by simp [manyOf]
        rw [hmo] at hw hgoal
        rw [goal_back hkl hno] at hgoal
        subst hK
        refine ⟨rfl, ((l.length - q) * (s.length + 2) + (s.length + 1 - (f + 1))) * (l.length + s.length + 2) + (s.length - (f + 1)) + (l.length - (q + 1)), ?_, q + 1, f + 1, (q : Nat), f + 1, b, ?_, by omega, by omega, by omega, by omega, by omega, ?_, ?_, ?_⟩
        · rw [if_pos hmi, Int.toNat_natCast]
          have e1 : (l.length - q) * (s.length + 2) + (s.length + 1 - f) = ((l.length - q) * (s.length + 2) + (s.length + 1 - (f + 1))) + 1 := by omega
          rw [e1, Nat.add_mul _ 1]
          omega
        · rw [wrap_succ (by omega), wrap_succ (by omega)]; rfl
        · have : manyOf (q : Nat) (f + 1) = some (q + 1, f + 1) := by simp [manyOf]
          rw [this]
          exact ⟨Nat.le_refl _, by omega, fun j g h1 h2 => by omega⟩
        · have : manyOf (q : Nat) (f + 1) = some (q + 1, f + 1) := by simp [manyOf]
          rw [this]; exact hgoal
        · rw [if_pos hmi, Int.toNat_natCast]
      · have hmo : manyOf mi f = none := by unfold manyOf; rw [if_neg (by omega)]
        rw [hmo, goal_none hkl hno] at hgoal
        subst hK
        exact fin_at (.inr rfl) rfl ⟨_, .b _, by rw [← hgoal]⟩
    -- a piece for one byte
    have one : (∀ (h : i < l.length), l[i].k ≠ 2) → If (ltI (i : Nat) (l.length : Nat)) ((0 ≤ ((i : Nat) : Int) ∧ ((i : Nat) : Int) < (l.length : Nat)) ∧ ∃ (n n_1 : Int) (cs : List V) (l1 : Nat) (c : Option Nat), takeX 3 (List.drop (((i : Nat) : Int).toNat * 3) (row encG l)) = some [.i .i64 n, .i .u8 n_1, .ts cs l1 c] ∧
        ∃ c_1 : UInt8, (0 ≤ ((k : Nat) : Int) ∧ s[((k : Nat) : Int).toNat]? = some c_1) ∧ ∃ b_1 : Bool, (PCon Try.Y 51 [.agg [.i .i64 n, .i .u8 n_1, .ts cs l1 c], .i .u8 (c_1.toNat : Nat)] fun v => v = .b b_1) ∧
          If b_1 (K .normal 78 [lst encG l, .s s, .b b, .i .i64 (IntKind.i64.wrap ((i : Nat) + 1)), .i .i64 (IntKind.i64.wrap ((k : Nat) + 1)), .i .i64 mi, .i .i64 (f : Nat)] h)
            (If (leI 0 mi) (K .normal 78 [lst encG l, .s s, .b b, .i .i64 (IntKind.i64.wrap (mi + 1)), .i .i64 (IntKind.i64.wrap ((f : Nat) + 1)), .i .i64 mi, .i .i64 (IntKind.i64.wrap ((f : Nat) + 1))] h)
              (K .ret 78 [lst encG l, .s s, .b false, .i .i64 (i : Nat), .i .i64 (k : Nat), .i .i64 mi, .i .i64 (f : Nat)] h)))
        (If (leI 0 mi) (K .normal 78 [lst encG l, .s s, .b b, .i .i64 (IntKind.i64.wrap (mi + 1)), .i .i64 (IntKind.i64.wrap ((f : Nat) + 1)), .i .i64 mi, .i .i64 (IntKind.i64.wrap ((f : Nat) + 1))] h)
          (K .ret 78 [lst encG l, .s s, .b false, .i .i64 (i : Nat), .i .i64 (k : Nat), .i .i64 mi, .i .i64 (f : Nat)] h)) := by
      intro h2
      refine if_lt_nat (fun hil => ?_) (fun hig => back (fun h => absurd h (by omega)))
      rw [Int.toNat_natCast]
      refine ⟨bnd_nat hil, _, _, _, _, _, row_get encG_len hil, s[k], ⟨by omega, by simp [hkl]⟩, _, fits_con l[i] _ (by have := hs.2 _ (List.getElem_mem hil); omega), if_mk (fun hfit => ?_) (fun hfit => back (fun h => ⟨h2 h, hfit⟩))⟩
      rw [goal_fits hil (h2 hil) hkl hfit] at hgoal
      subst hK
      refine ⟨rfl, (if 0 ≤ mi then ((l.length - mi.toNat) * (s.length + 2) + (s.length + 1 - f)) * (l.length + s.length + 2) else (l.length + 1) * (s.length + 2) * (l.length + s.length + 2)) + (s.length - (k + 1)) + (l.length - (i + 1)), by omega, i + 1, k + 1, mi, f, b, ?_, by omega, by omega, by omega, hm0, hm1, ?_, hgoal, rfl⟩
      · rw [wrap_succ (by omega), wrap_succ (by omega)]; rfl
      · cases hmo : manyOf mi f with
        | none => trivial
        | some qf =>
          obtain ⟨q, f'⟩ := qf
          rw [hmo] at hw
          obtain ⟨w1, w2, w3⟩ := hw
          refine ⟨by omega, by omega, fun j g h3 h4 h5 => ?_⟩
          by_cases hji : j = i
          · subst hji
            rw [List.getElem?_eq_getElem hil] at h5
            cases h5
            exact h2 hil
          · exact w3 j g h3 (by omega) h5
    refine if_lt_nat (fun hil => ?_) (fun hig => ?_)
    · have rc := row_cons encG_len l hil
      refine ⟨bnd_nat hil, l[i].k, by rw [Int.toNat_natCast, rc]; rfl, if_mk (fun h2 => ?_) (fun h2 => ?_)⟩
      · have h2 : l[i].k = 2 := by simpa using h2
        rw [goal_many hil h2 hkl hw] at hgoal
        subst hK
        refine ⟨rfl, ((l.length - i) * (s.length + 2) + (s.length + 1 - k)) * (l.length + s.length + 2) + (s.length - k) + (l.length - (i + 1)), ?_, i + 1, k, (i : Nat), k, b, ?_, by omega, by omega, by omega, by omega, by omega, ?_, ?_, ?_⟩
        · split
          · rename_i hmi
            have : manyOf mi f = some (mi.toNat + 1, f) := by unfold manyOf; rw [if_pos hmi]
            rw [this] at hw
            obtain ⟨w1, w2, w3⟩ := hw
            have hlt : mi.toNat < i := by omega
            have e1 : (l.length - i) * (s.length + 2) + (s.length + 2) ≤ (l.length - mi.toNat) * (s.length + 2) := by
              rw [← Nat.succ_mul]
              exact Nat.mul_le_mul_right _ (by omega)
            have e2 : (l.length - i) * (s.length + 2) + (s.length + 1 - k) ≤ (l.length - mi.toNat) * (s.length + 2) + (s.length + 1 - f) := by omega
            have e3 := Nat.mul_le_mul_right (l.length + s.length + 2) e2
            omega
          · have e1 : (l.length - i) * (s.length + 2) + (s.length + 1 - k) ≤ (l.length + 1) * (s.length + 2) := by
              rw [Nat.add_mul]
              have : (l.length - i) * (s.length + 2) ≤ l.length * (s.length + 2) := Nat.mul_le_mul_right _ (by omega)
              omega
            have e3 := Nat.mul_le_mul_right (l.length + s.length + 2) e1
            omega
        · rw [wrap_succ (by omega)]; rfl
        · have : manyOf (i : Nat) k = some (i + 1, k) := by simp [manyOf]
          rw [this]
          exact ⟨Nat.le_refl _, by omega, fun j g h1 h2 => by omega⟩
        · have : manyOf (i : Nat) k = some (i + 1, k) := by simp [manyOf]
          rw [this]; exact hgoal
        · rw [if_pos (by omega), Int.toNat_natCast]
      · have h2 : l[i].k ≠ 2 := by simpa using h2
        exact one (fun _ => h2)
    · exact one (fun h => absurd h (by omega))
  · subst hK
    have hke : k = s.length := by omega
    rw [goal_end hke hw] at hgoal
    refine roundW_exit [0, 4, 5] (by kernel_rfl) rfl rfl ?_
    refine pre_rule Try.Yok (n := 78) (loc := Try.Y.loc 18) 100 [0, 4, 5] (by kernel_rfl) ?_
    refine Eq.mpr (f18_2 (row encG l) l.length (i : Nat) b h _) ?_
    refine ⟨rfl, loop2 [0, 4, 5] [0, 4, 5] rfl (by kernel_rfl) (TailI l s) (l.length - i) mk_len ⟨i, b, rfl, hi, hgoal, rfl⟩ ?_⟩
    rintro m vs h ⟨i, b, rfl, hi, hg, rfl⟩
    refine all_rule Try.Yok (loc := Try.Y.loc 18) 100 [0, 4, 5] ?_
    refine Eq.mpr (f18_3 (row encG l) l.length (i : Nat) b h _) ?_
    refine if_lt_nat (fun hlt => ?_) (fun hge => ?_)
    · have rc := row_cons encG_len l hlt
      refine ⟨bnd_nat hlt, l[i].k, by rw [Int.toNat_natCast, rc]; rfl, if_mk (fun h2 => ?_) (fun h2 => ?_)⟩
      · refine ⟨rfl, l.length - (i + 1), by omega, i + 1, b, ?_, by omega, ?_, rfl⟩
        · rw [wrap_succ (by omega)]; rfl
        · rw [← hg, List.drop_eq_getElem_cons hlt, List.all_cons, h2, Bool.true_and]
      · refine roundW_exit [0, 5] (by kernel_rfl) rfl rfl ?_
        refine end_rule Try.Yok (loc := Try.Y.loc 18) 100 [4] ?_
        refine Eq.mpr (f18_4 (row encG l) l.length (i : Nat) h _) ?_
        refine finV1 (.inr rfl) rfl (.b _) ?_
        rw [← hg, List.drop_eq_getElem_cons hlt, List.all_cons, h2, Bool.false_and]
        have : ¬ (((i : Nat) : Int) = (l.length : Nat)) := by omega
        simp [V.plain]; omega
    · refine roundW_exit [0, 5] (by kernel_rfl) rfl rfl ?_
      refine end_rule Try.Yok (loc := Try.Y.loc 18) 100 [4] ?_
      refine Eq.mpr (f18_4 (row encG l) l.length (i : Nat) h _) ?_
      refine finV1 (.inr rfl) rfl (.b _) ?_
      rw [← hg, List.drop_of_length_le hge]
      have : i = l.length := by omega
      simp [V.plain, this]
end Go.Y
