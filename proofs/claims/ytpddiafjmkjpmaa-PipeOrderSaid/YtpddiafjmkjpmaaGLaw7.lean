/- GlobMatches, as a call of the abstract machine. -/
import Derived.Test.YtpddiafjmkjpmaaGTab29
import Derived.Test.YtpddiafjmkjpmaaGA1
namespace Go.Y
open Go.Proofs
set_option maxRecDepth 100000

theorem neq_len {α β : Type} {a : List α} {b : List β} (h : (((a.length : Nat) : Int) != ((b.length : Nat) : Int)) = false) : a.length = b.length := by
  simp at h; omega

theorem spans_eq (a b : List Span) (ha : a.length < 2 ^ 30) : PCon Try.Y 75 [lst encS a, lst encS b] (· = .b (decide (a = b))) := by
  refine pcon_of Try.Yok (fn := Try.f75) (by kernel_rfl) (by kernel_rfl) rfl ?_
  refine pre_rule Try.Yok (n := 26) (loc := Try.Y.loc 75) 100 [0, 1, 4, 12, 13] (by kernel_rfl) ?_
  refine Eq.mpr (f75_0 (row encS a) a.length (row encS b) b.length .empty _) ?_
  have no : ∀ (vs : List V) (h : Heap), a ≠ b → resV Try.Y Try.f75 ([0, 1, 4, 12, 13].zip vs) = some (.b false) → AtV [0, 1, 4, 12, 13] (FinS Try.Y Try.f75 fun v h => ∃ r, Frz h v r ∧ r = .b (decide (a = b))) .ret 26 vs h := fun vs h hne hv =>
    fin_at (.inr rfl) hv ⟨_, .b _, by simp [hne]⟩
  refine if_mk (fun hc => no _ _ (fun e => by subst e; simp at hc) rfl) (fun hc => ?_)
  have hlen := neq_len hc
  refine ⟨rfl, loop2 [0, 1, 12, 13] [0, 1, 4, 12, 13] rfl (by kernel_rfl) (fun m vs _ => ∃ i : Nat, vs = [lst encS a, lst encS b, .i .i64 a.length, .i .i64 (i : Nat)] ∧ i ≤ a.length ∧ m = a.length - i ∧ a.take i = b.take i) a.length mk_len ⟨0, rfl, by omega, by omega, rfl⟩ ?_⟩
  rintro m vs h ⟨i, rfl, hi, rfl, hp⟩
  refine all_rule Try.Yok (loc := Try.Y.loc 75) 100 [0, 1, 4, 12, 13] ?_
  refine Eq.mpr (f75_1 (row encS a) a.length (row encS b) b.length (i : Nat) h _) ?_
  refine if_lt_nat (fun hlt => ?_) (fun hge => ?_)
  · have hlt' : i < b.length := by omega
    rw [Int.toNat_natCast]
    refine ⟨bnd_nat hlt, _, _, row_get encS_len hlt, bnd_nat hlt', _, _, row_get encS_len hlt', if_mk (fun hd => ?_) (fun hd => ?_)⟩
    · refine no _ _ (fun e => ?_) rfl
      have : a[i] = b[i] := by simp only [e]
      rw [this] at hd; simp at hd
    · have he : a[i] = b[i] := by
        simp only [Bool.and_true, Bool.not_eq_false', Bool.and_eq_true, beq_iff_eq] at hd
        cases h1 : a[i]; cases h2 : b[i]
        rw [h1, h2] at hd
        simp only at hd
        rw [hd.1, hd.2]
      refine ⟨rfl, a.length - (i + 1), by omega, i + 1, ?_, by omega, rfl, take_more hp hlt hlt' he⟩
      rw [wrap_succ (by omega)]; rfl
  · refine roundW_exit [] (by kernel_rfl) rfl rfl ?_
    refine end_rule Try.Yok (loc := Try.Y.loc 75) 100 [4] ?_
    refine Eq.mpr (f75_2 h _) ?_
    exact finV1 (.inr rfl) rfl (.b _) (by simp [take_same hp hge (by omega)])

theorem gsame1_con (x y : Glob) (hx : x.sp.length < 2 ^ 30) : PCon Try.Y 74 [.agg (encG x), .agg (encG y)] (· = .b (decide (x = y))) := by
  refine pcon_of Try.Yok (fn := Try.f74) (by kernel_rfl) (by kernel_rfl) rfl (end_rule Try.Yok (loc := Try.Y.loc 74) 100 [4] ?_)
  refine Eq.mpr (f74_0 x.k x.b (row encS x.sp) x.sp.length y.k y.b (row encS y.sp) y.sp.length _ _) ?_
  refine if_mk (fun hk => if_mk (fun hb => ⟨_, spans_eq x.sp y.sp hx, finV1 (.inr rfl) rfl (.b _) ?_⟩) (fun hb => finV1 (.inr rfl) rfl (.b _) ?_)) (fun hk => finV1 (.inr rfl) rfl (.b _) ?_)
  · have hk : x.k = y.k := by simpa using hk
    have hb : x.b = y.b := by simpa using hb
    cases x; cases y; simp_all [V.plain]
  · have : x ≠ y := fun e => by subst e; simp at hb
    simp [this]
  · have : x ≠ y := fun e => by subst e; simp at hk
    simp [this]

theorem gequal_con (a b : List Glob) (h : Heap) (ha : okG a) : Con Try.Y 73 [lst encG a, lst encG b, .fn (.func 74) [] []] h fun v h' => v = .b (decide (a = b)) ∧ h' = h := by
  have hl := ha.1
  refine conz_of Try.Yok (fn := Try.f73) (by kernel_rfl) (by kernel_rfl) ?_
  refine pre_rule Try.Yok (n := 32) (loc := Try.Y.loc 73) 100 [1, 2, 6, 15, 16, 17] (by kernel_rfl) ?_
  refine Eq.mpr (f73_0 (row encG a) a.length (row encG b) b.length h _) ?_
  have no : ∀ (vs : List V), a ≠ b → resV Try.Y Try.f73 ([1, 2, 6, 15, 16, 17].zip vs) = some (.b false) → AtV [1, 2, 6, 15, 16, 17] (FinS Try.Y Try.f73 (AfterZ fun v h' => v = .b (decide (a = b)) ∧ h' = h)) .ret 32 vs h := fun vs hne hv =>
    fin_at (.inr rfl) hv (.now ⟨by simp [hne], rfl⟩)
  refine if_mk (fun hc => no _ (fun e => by subst e; simp at hc) rfl) (fun hc => ?_)
  have hlen := neq_len hc
  refine ⟨rfl, loop2 [1, 2, 15, 16, 17] [1, 2, 6, 15, 16, 17] rfl (by kernel_rfl) (fun m vs h' => ∃ i : Nat, vs = [lst encG b, .fn (.func 74) [] [], lst encG a, .i .i64 a.length, .i .i64 (i : Nat)] ∧ i ≤ a.length ∧ m = a.length - i ∧ a.take i = b.take i ∧ h' = h) a.length mk_len ⟨0, rfl, by omega, by omega, rfl, rfl⟩ ?_⟩
  rintro m vs h' ⟨i, rfl, hi, rfl, hp, rfl⟩
  refine all_rule Try.Yok (loc := Try.Y.loc 73) 100 [1, 2, 6, 15, 16, 17] ?_
  refine Eq.mpr (f73_1 (row encG a) a.length (row encG b) b.length (i : Nat) h' _) ?_
  refine if_lt_nat (fun hlt => ?_) (fun hge => ?_)
  · have hlt' : i < b.length := by omega
    rw [Int.toNat_natCast]
    refine ⟨bnd_nat hlt, _, _, _, _, _, row_get encG_len hlt, bnd_nat hlt', _, _, _, _, _, row_get encG_len hlt', _, gsame1_con a[i] b[i] (by have := ha.2 _ (List.getElem_mem hlt); omega), if_mk (fun hd => ?_) (fun hd => ?_)⟩
    · refine no _ (fun e => ?_) rfl
      have : a[i] = b[i] := by simp only [e]
      rw [this] at hd; simp at hd
    · have he : a[i] = b[i] := by simpa using hd
      refine ⟨rfl, a.length - (i + 1), by omega, i + 1, ?_, by omega, rfl, take_more hp hlt hlt' he, rfl⟩
      rw [wrap_succ (by omega)]; rfl
  · refine roundW_exit [] (by kernel_rfl) rfl rfl ?_
    refine end_rule Try.Yok (loc := Try.Y.loc 73) 100 [6] ?_
    refine Eq.mpr (f73_2 h' _) ?_
    exact finC (.inr rfl) rfl (.now ⟨by simp [take_same hp hge (by omega)]; rfl, rfl⟩)

theorem gsame_con (a b : List Glob) (ha : okG a) : PCon Try.Y 28 [lst encG a, lst encG b] (· = .b (decide (a = b))) := by
  refine pcon_of Try.Yok (fn := Try.f28) (by kernel_rfl) (by kernel_rfl) rfl (end_rule Try.Yok (loc := Try.Y.loc 28) 100 [4] ?_)
  refine Eq.mpr (f28_0 (row encG a) a.length (row encG b) b.length _ _) ?_
  refine (gequal_con a b _ ha).mono fun v h' ⟨e1, e2⟩ => ⟨_, e1, ?_⟩
  subst e2
  exact finV1 (.inr rfl) rfl (.b _) rfl

theorem globMatches_con (l o : List Glob) (s : List UInt8) : PCon Try.Y 7 [lst encG l, lst encG o, .s s] (· = .b true) := by
  refine pcon_of Try.Yok (fn := Try.f7) (by kernel_rfl) (by kernel_rfl) rfl (end_rule Try.Yok (loc := Try.Y.loc 7) 100 [6] ?_)
  refine Eq.mpr (f7_0 (row encG l) l.length (row encG o) o.length s _ _) ?_
  have yes : ∀ b : Bool, b = true → Fin Try.Y Try.f7 [6] (fun v h => ∃ r, Frz h v r ∧ r = .b true) .ret 47 [.b b] .empty := fun b hb => finV1 (.inr rfl) rfl (.b _) (by rw [hb])
  refine ⟨true, awake03, if_mk (fun h => by cases h) (fun _ => ⟨_, small_con l, if_mk (fun _ => yes _ rfl) (fun h1 => ⟨_, small_con o, if_mk (fun _ => yes _ rfl) (fun h2 => if_lt (fun _ => yes _ rfl) (fun h3 => ?_))⟩)⟩)⟩
  have ol := small_ok (show smallS l = true by simpa using h1)
  have oo := small_ok (show smallS o = true by simpa using h2)
  have hsl : s.length < 2 ^ 28 := by omega
  refine ⟨_, match_con l s ol hsl, _, rmatch_con l s ol hsl, if_mk (fun _ => ?_) (fun h => by simp at h)⟩
  refine ⟨_, match_con o s oo hsl, _, rmatch_con o s oo hsl, if_mk (fun _ => ?_) (fun h => by simp at h)⟩
  exact ⟨_, gsame_con l o ol, _, rsame_con l o (by have := ol.1; omega) (fun x hx => by have := ol.2 x hx; omega), yes _ (by simp)⟩
end Go.Y
