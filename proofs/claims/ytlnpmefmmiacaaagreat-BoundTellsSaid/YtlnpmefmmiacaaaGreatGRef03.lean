/- souffleurref03.Parse, by its contract. -/
import Derived.Test.YtlnpmefmmiacaaaGreatGParse
namespace Go.Y
open Go.Proofs
set_option maxRecDepth 100000

def ritemR (s : List UInt8) (i : Nat) : V := match endS s i with
  | .error e => .tup [.i .u8 0, .i .i64 (-1), .i .i64 (e : Nat)]
  | .ok (c, j) => .tup [.i .u8 c, .i .i64 (j - i : Nat), .i .i64 0]

theorem ritem_con (s : List UInt8) (i : Nat) (hs : s.length < 2 ^ 30) (hi : i < 2 ^ 30) : PCon Tryz.Y 89 [.s s, .i .i64 (i : Nat)] (· = ritemR s i) := by
  refine pcon_of Tryz.Yok (fn := Tryz.f89) (by kernel_rfl) (by kernel_rfl) rfl (end_rule Tryz.Yok (loc := Tryz.Y.loc 89) 100 [4, 5, 6] ?_)
  rw [show (⟨[.s s, .i .i64 (i : Nat)] ++ List.replicate (Tryz.f89.ntmps - [V.s s, .i .i64 (i : Nat)].length) .undef, [], .empty⟩ : St) = ⟨.s s :: .i .i64 (i : Nat) :: List.replicate 40 .undef, [], .empty⟩ by rfl, f89_0]
  unfold ritemR
  have f : ∀ (a b c : Int) (R : V), .tup [.i .u8 a, .i .i64 b, .i .i64 c] = R → Fin Tryz.Y Tryz.f89 [4, 5, 6] (fun v h => ∃ r, Frz h v r ∧ r = R) .ret 42 [.i .u8 a, .i .i64 b, .i .i64 c] .empty := fun a b c R hR =>
    fin3Z (.inr rfl) rfl (.i _ _) (.i _ _) (.i _ _) hR
  refine if_le (fun hle => f _ _ _ _ ?_) (fun hlt => ?_)
  · have : s[i]? = none := List.getElem?_eq_none (by omega)
    simp [endS, this]
  have hlt' : i < s.length := by omega
  have hsi : s[i]? = some s[i] := by simp [hlt']
  have get : (0 : Int) ≤ (i : Nat) ∧ s[((i : Nat) : Int).toNat]? = some s[i] := ⟨by omega, by simp [hlt']⟩
  rw [show (93 : Int) = (((93 : UInt8).toNat : Nat) : Int) by decide, show (45 : Int) = (((45 : UInt8).toNat : Nat) : Int) by decide]
  refine ⟨_, get, ?_⟩
  rw [u8_lit]
  refine if_dec (fun c1 => f _ _ _ _ ?_) (fun c1 => ⟨_, get, ?_⟩)
  · unfold endS; rw [hsi]; simp only []; rw [if_pos (.inl c1)]
  rw [u8_lit]
  refine if_dec (fun c2 => f _ _ _ _ ?_) (fun c2 => ⟨_, get, ?_⟩)
  · unfold endS; rw [hsi]; simp only []; rw [if_pos (.inr c2)]
  have hn : ¬ (s[i] = 93 ∨ s[i] = 45) := by simp [c1, c2]
  have e92 : ((s[i].toNat : Int) != 92) = !decide (s[i] = 92) := by
    rw [show (92 : Int) = (((92 : UInt8).toNat : Nat) : Int) by decide]
    show (!((s[i].toNat : Int) == (((92 : UInt8).toNat : Nat) : Int))) = _
    rw [u8_lit]
  rw [e92]
  refine if_mk (fun c3 => ⟨_, get, f _ _ _ _ ?_⟩) (fun c3 => ?_)
  · have c3 : s[i] ≠ 92 := by simpa using c3
    unfold endS; rw [hsi]; simp only []; rw [if_neg hn, if_neg c3]; simp
  · have c3 : s[i] = 92 := by simpa using c3
    rw [wrap_succ (by omega)]
    refine if_le (fun hle => f _ _ _ _ ?_) (fun hlt => ?_)
    · have : s[i + 1]? = none := List.getElem?_eq_none (by omega)
      unfold endS; rw [hsi]; simp only []; rw [if_neg hn, if_pos c3, this]
    · have hl : i + 1 < s.length := by omega
      have : s[i + 1]? = some s[i + 1] := by simp [hl]
      refine ⟨_, ⟨by omega, by rw [show (((i + 1 : Nat) : Int)).toNat = i + 1 by omega]; exact this⟩, f _ _ _ _ ?_⟩
      unfold endS; rw [hsi]; simp only []; rw [if_neg hn, if_pos c3, this]; simp

/-- What Spans hands back. -/
def spansR (r : Except Nat (List Span × Nat)) : V := match r with
  | .error e => .tup [lst encS [], .i .i64 (-1), .i .i64 (e : Nat)]
  | .ok (l, j) => .tup [lst encS l, .i .i64 (j : Nat), .i .i64 0]

def SpansI (s : List UInt8) (R : Except Nat (List Span × Nat)) (m : Nat) (vs : List V) (h : Heap) : Prop :=
  ∃ (i : Nat) (out : List Span) (a : Option (Nat × Nat)) (l : Nat) (c : Option Nat) (k : Nat) (v9 : V), vs = [.s s, .i .i64 (i : Nat), .undef, .sl none 0 (some 0) 0, .sl a l c k, v9] ∧ Lst encS 2 h a l c k out ∧
    i ≤ s.length ∧ out.length ≤ i ∧ s.length - i < m ∧ setS m s i out = R

theorem spans_con (s : List UInt8) (i : Nat) (hs : s.length < 2 ^ 28) (hi : i ≤ s.length) : PCon Tryz.Y 66 [.s s, .i .i64 (i : Nat)] (· = spansR (setS (s.length + 1) s i [])) := by
  refine pcon_of Tryz.Yok (fn := Tryz.f66) (by kernel_rfl) (by kernel_rfl) rfl ?_
  refine pre_rule Tryz.Yok (n := 81) (loc := Tryz.Y.loc 66) 100 [0, 1, 3, 4, 7, 9] (by kernel_rfl) ?_
  rw [show (⟨[.s s, .i .i64 (i : Nat)] ++ List.replicate (Tryz.f66.ntmps - [V.s s, .i .i64 (i : Nat)].length) .undef, [], .empty⟩ : St) = ⟨.s s :: .i .i64 (i : Nat) :: List.replicate 79 .undef, [], .empty⟩ by rfl, f66_0]
  generalize hR : setS (s.length + 1) s i [] = R
  refine ⟨rfl, loopE [0, 1, 3, 4, 7, 9] [0, 1, 3, 4, 5, 6, 7, 9] rfl (by kernel_rfl) (SpansI s R) (s.length + 1) mk_len ⟨i, [], none, 0, some 0, 0, .undef, rfl, Lst.nil _ _ _ _ _, hi, by simp, by omega, hR⟩ ?_⟩
  rintro m vs h ⟨i, out, a, l, c, k, v9, rfl, hL, hi, hol, hm, hg⟩
  refine all_rule Tryz.Yok (loc := Tryz.Y.loc 66) 100 [0, 1, 3, 4, 5, 6, 7, 9] ?_
  rw [f66_1]
  obtain ⟨m, rfl⟩ : ∃ m', m = m' + 1 := ⟨m - 1, by omega⟩
  have hll := hL.len
  generalize hK : RoundE 81 [0, 1, 3, 4, 5, 6, 7, 9] [0, 1, 3, 4, 7, 9] (SpansI s R) (m + 1) (loopId (post (flat (bodyOf Tryz.f66)))) (FinS Tryz.Y Tryz.f66 fun v h => ∃ r, Frz h v r ∧ r = spansR R) = K
  -- the end
  have stop : ∀ (v1 v3 : V) (a : Option (Nat × Nat)) (l : Nat) (c : Option Nat) (k : Nat) (x : Int) (y : Int) (w4 w9 : V) (h : Heap) (r : V), Frz h (.sl a l c k) r → .tup [r, .i .i64 x, .i .i64 y] = spansR R → K .ret 81 [.s s, v1, v3, .sl a l c k, .i .i64 x, .i .i64 y, w4, w9] h := by
    intro v1 v3 a l c k x y w4 w9 h r h1 h2
    subst hK
    exact fin_at (.inr rfl) rfl ⟨_, .tup _ _ (.cons _ _ _ _ h1 (.cons _ _ _ _ (.i _ _) (.cons _ _ _ _ (.i _ _) .nil))), h2⟩
  have hiw : ∀ (j : Nat), j ≤ s.length → IntKind.i64.wrap ((i : Int) + ((j - i : Nat) : Int)) = (i : Int) + ((j - i : Nat) : Int) := fun j hj => wrap_ok (by omega) (by omega)
  -- an item
  have item : ¬ (out ≠ [] ∧ s[i]? = some 93) → ∃ n n_1 n_2 : Int, (PCon Tryz.Y 89 [.s s, .i .i64 (i : Nat)] fun v => v = .tup [.i .u8 n, .i .i64 n_1, .i .i64 n_2]) ∧
      If (ltI n_1 0) (K .ret 81 [.s s, .i .i64 (i : Nat), .undef, .sl none 0 (some 0) 0, .i .i64 (-1), .i .i64 n_2, .sl a l c k, .i .i64 n_1] h)
        (If (ltI (IntKind.i64.wrap ((i : Nat) + n_1)) (s.length : Nat)) (∃ c_1 : UInt8, (0 ≤ IntKind.i64.wrap ((i : Nat) + n_1) ∧ s[(IntKind.i64.wrap ((i : Nat) + n_1)).toNat]? = some c_1) ∧ If ((c_1.toNat : Int) == 45)
          (∃ n_3 n_4 n_5 : Int, (PCon Tryz.Y 89 [.s s, .i .i64 (IntKind.i64.wrap (IntKind.i64.wrap ((i : Nat) + n_1) + 1))] fun v => v = .tup [.i .u8 n_3, .i .i64 n_4, .i .i64 n_5]) ∧
            If (ltI n_4 0) (K .ret 81 [.s s, .i .i64 (IntKind.i64.wrap ((i : Nat) + n_1)), .undef, .sl none 0 (some 0) 0, .i .i64 (-1), .i .i64 n_5, .sl a l c k, .i .i64 n_4] h)
              (If (ltI n_3 n) (K .ret 81 [.s s, .i .i64 (IntKind.i64.wrap ((i : Nat) + n_1)), .undef, .sl none 0 (some 0) 0, .i .i64 (-1), .i .i64 (IntKind.i64.wrap (IntKind.i64.wrap ((i : Nat) + n_1) + n_4)), .sl a l c k, .i .i64 n_4] h)
                (∃ (a' : Option (Nat × Nat)) (l' : Nat) (c' : Option Nat) (k' : Nat) (h_1 : Heap), appendH Tryz.Y h 142 142 (.sl a l c k) (.ts [.i .u8 n, .i .u8 n_3] 1 (some 1)) = some (.sl a' l' c' k', h_1) ∧
                  K .normal 81 [.s s, .i .i64 (IntKind.i64.wrap (IntKind.i64.wrap (IntKind.i64.wrap ((i : Nat) + n_1) + 1) + n_4)), .undef, .sl none 0 (some 0) 0, .undef, .undef, .sl a' l' c' k', .i .i64 n_4] h_1)))
          (∃ (a' : Option (Nat × Nat)) (l' : Nat) (c' : Option Nat) (k' : Nat) (h_1 : Heap), appendH Tryz.Y h 142 142 (.sl a l c k) (.ts [.i .u8 n, .i .u8 n] 1 (some 1)) = some (.sl a' l' c' k', h_1) ∧
            K .normal 81 [.s s, .i .i64 (IntKind.i64.wrap ((i : Nat) + n_1)), .undef, .sl none 0 (some 0) 0, .undef, .undef, .sl a' l' c' k', .i .i64 n_1] h_1))
          (∃ (a' : Option (Nat × Nat)) (l' : Nat) (c' : Option Nat) (k' : Nat) (h_1 : Heap), appendH Tryz.Y h 142 142 (.sl a l c k) (.ts [.i .u8 n, .i .u8 n] 1 (some 1)) = some (.sl a' l' c' k', h_1) ∧
            K .normal 81 [.s s, .i .i64 (IntKind.i64.wrap ((i : Nat) + n_1)), .undef, .sl none 0 (some 0) 0, .undef, .undef, .sl a' l' c' k', .i .i64 n_1] h_1)) := by
    intro hn
    simp only [setS, hn, if_false] at hg
    have hc := ritem_con s i (by omega) (by omega)
    have nilz : ∀ h : Heap, Frz h (.sl none 0 (some 0) 0) (lst encS []) := fun h => frz_nil encS h _ _
    -- one more span
    have more : ∀ (x : Span) (j : Nat) (w9 : V), i < j → j ≤ s.length → setS m s j (out ++ [x]) = R → ∃ (a' : Option (Nat × Nat)) (l' : Nat) (c' : Option Nat) (k' : Nat) (h_1 : Heap), appendH Tryz.Y h 142 142 (.sl a l c k) (.ts [.i .u8 x.lo, .i .u8 x.hi] 1 (some 1)) = some (.sl a' l' c' k', h_1) ∧
            K .normal 81 [.s s, .i .i64 (j : Nat), .undef, .sl none 0 (some 0) 0, .undef, .undef, .sl a' l' c' k', w9] h_1 := by
      intro x j w9 h1 h2 h3
      obtain ⟨a', l', c', k', h', q1, q2, _⟩ := span_app x hL (by omega)
      refine ⟨a', l', c', k', h', q1, ?_⟩
      subst hK
      exact ⟨rfl, m, by omega, j, out ++ [x], a', l', c', k', w9, rfl, q2, h2, by simp; omega, by omega, h3⟩
    cases he : endS s i with
    | error e =>
      have hi1 : itemS s i = .error e := by simp only [itemS, he]
      rw [hi1] at hg
      have hr : ritemR s i = .tup [.i .u8 0, .i .i64 (-1), .i .i64 (e : Nat)] := by simp only [ritemR, he]
      rw [hr] at hc
      refine ⟨_, _, _, hc, if_lt (fun _ => stop _ _ _ _ _ _ _ _ _ _ _ _ (nilz _) ?_) (fun h => by omega)⟩
      subst hg; rfl
    | ok y =>
      obtain ⟨lo, j⟩ := y
      have hj := endS_ok he
      have hr : ritemR s i = .tup [.i .u8 lo, .i .i64 (j - i : Nat), .i .i64 0] := by simp only [ritemR, he]
      rw [hr] at hc
      have hwj : IntKind.i64.wrap (((i : Nat) : Int) + ((j - i : Nat) : Int)) = (j : Nat) := by rw [wrap_ok (by omega) (by omega)]; omega
      refine ⟨lo, ((j - i : Nat) : Int), 0, hc, if_lt (fun h => by omega) (fun _ => ?_)⟩
      rw [hwj]
      refine if_lt_nat (fun hjl => ?_) (fun hjg => ?_)
      · refine ⟨s[j], ⟨by omega, by simp [hjl]⟩, ?_⟩
        rw [show (45 : Int) = (((45 : UInt8).toNat : Nat) : Int) by decide, u8_lit]
        refine if_dec (fun c45 => ?_) (fun c45 => ?_)
        · have h45 : s[j]? = some 45 := by rw [← c45]; simp [hjl]
          have hc2 := ritem_con s (j + 1) (by omega) (by omega)
          rw [wrap_succ (by omega)]
          cases he2 : endS s (j + 1) with
          | error e =>
            have hi1 : itemS s i = .error e := by simp only [itemS, he, h45, if_true, he2]
            rw [hi1] at hg
            have hr2 : ritemR s (j + 1) = .tup [.i .u8 0, .i .i64 (-1), .i .i64 (e : Nat)] := by simp only [ritemR, he2]
            rw [hr2] at hc2
            refine ⟨_, _, _, hc2, if_lt (fun _ => stop _ _ _ _ _ _ _ _ _ _ _ _ (nilz _) ?_) (fun h => by omega)⟩
            subst hg; rfl
          | ok y =>
            obtain ⟨hi2, k2⟩ := y
            have hk := endS_ok he2
            have hr2 : ritemR s (j + 1) = .tup [.i .u8 hi2, .i .i64 (k2 - (j + 1) : Nat), .i .i64 0] := by simp only [ritemR, he2]
            rw [hr2] at hc2
            refine ⟨hi2, ((k2 - (j + 1) : Nat) : Int), 0, hc2, if_lt (fun h => by omega) (fun _ => if_lt (fun hlt => ?_) (fun hge => ?_))⟩
            · have hi1 : itemS s i = .error (k2 - 1) := by simp only [itemS, he, h45, if_true, he2, hlt]
              rw [hi1] at hg
              rw [show IntKind.i64.wrap (((j : Nat) : Int) + ((k2 - (j + 1) : Nat) : Int)) = ((k2 - 1 : Nat) : Int) by rw [wrap_ok (by omega) (by omega)]; omega]
              refine stop _ _ _ _ _ _ _ _ _ _ _ _ (nilz _) ?_
              subst hg; rfl
            · have hn : ¬ hi2 < lo := by omega
              have hi1 : itemS s i = .ok (⟨lo, hi2⟩, k2) := by simp only [itemS, he, h45, if_true, he2, hn, if_false]
              rw [hi1] at hg
              rw [show IntKind.i64.wrap (((j + 1 : Nat) : Int) + ((k2 - (j + 1) : Nat) : Int)) = ((k2 : Nat) : Int) by rw [wrap_ok (by omega) (by omega)]; omega]
              exact more ⟨lo, hi2⟩ k2 _ (by omega) (by omega) hg
        · have h45 : ¬ s[j]? = some 45 := by simp [hjl, c45]
          have hi1 : itemS s i = .ok (⟨lo, lo⟩, j) := by simp only [itemS, he, h45, if_false]
          rw [hi1] at hg
          exact more ⟨lo, lo⟩ j _ (by omega) (by omega) hg
      · have h45 : ¬ s[j]? = some 45 := by rw [List.getElem?_eq_none hjg]; simp
        have hi1 : itemS s i = .ok (⟨lo, lo⟩, j) := by simp only [itemS, he, h45, if_false]
        rw [hi1] at hg
        exact more ⟨lo, lo⟩ j _ (by omega) (by omega) hg
  refine if_pos_nat (fun hp => ?_) (fun hz => item ?_)
  · have hne : out ≠ [] := by intro he; subst he; rw [hll] at hp; simp at hp
    refine if_lt_nat (fun hlt => ?_) (fun hge => item ?_)
    · refine ⟨s[i], ⟨by omega, by simp [hlt]⟩, ?_⟩
      rw [show (93 : Int) = (((93 : UInt8).toNat : Nat) : Int) by decide, u8_lit]
      refine if_dec (fun c93 => ?_) (fun c93 => item ?_)
      · have h93 : s[i]? = some 93 := by rw [← c93]; simp [hlt]
        simp only [setS, hne, h93, ne_eq, not_false_eq_true, and_self, if_true] at hg
        rw [wrap_succ (by omega)]
        refine stop _ _ _ _ _ _ _ _ _ _ _ _ (hL.frz (by decide) encS_len) ?_
        subst hg; rfl
      · rintro ⟨_, h1⟩; simp [hlt] at h1; exact c93 h1
    · rintro ⟨_, h1⟩; rw [List.getElem?_eq_none hge] at h1; cases h1
  · rintro ⟨h1, _⟩
    exact h1 (List.eq_nil_of_length_eq_zero (by omega))
end Go.Y
