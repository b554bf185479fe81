/- What the pieces of functions come to: printed by program. -/
import Derived.Test.YtpddiafjmkjpmaaYTryP
import Derived.Test.YtpddiafjmkjpmaaYLoop
import Derived.Test.YtpddiafjmkjpmaaGTable
import Derived.Test.YtpddiafjmkjpmaaGRef03b
import Derived.Test.YtpddiafjmkjpmaaGClone
import Derived.Test.YtpddiafjmkjpmaaGA4
namespace Go.Y
open Go.Proofs
set_option maxRecDepth 100000
set_option maxHeartbeats 0
theorem f93a_0 (cs0 : List V) (n0 : Nat) (h : Heap) (K : Out → Nat → List V → Heap → Prop) : (codeP Try.Y (Try.Y.loc 93) 100 ((flat (bodyOf Try.f93))) ⟨(V.ts cs0 n0 none :: V.fn (.func 106) [] [] :: List.replicate 7 .undef), [], h⟩ (VQ [4] K)) =
  (Con Try.Y 114 [V.ts cs0 n0 none, V.fn (Fn.func 106) [] []] h fun (v : V) (h' : Heap) =>
  ∃ (n : Int), v = V.i IntKind.i64 n ∧ K Out.ret 9 [V.b (leI 0 n)] h') := by kernel_rfl
theorem f114a_0 (cs0 : List V) (n0 : Nat) (h : Heap) (K : Out → Nat → List V → Heap → Prop) : (codeP Try.Y (Try.Y.loc 114) 100 (pre (flat (bodyOf Try.f114))) ⟨(V.ts cs0 n0 none :: V.fn (.func 106) [] [] :: List.replicate 17 .undef), [], h⟩ (VQ [0, 1, 7, 8] K)) =
  (K Out.normal 19 [V.ts cs0 n0 none, V.fn (Fn.func 106) [] [], V.i IntKind.i64 (↑n0 : Int), V.i IntKind.i64 0] h) := by kernel_rfl
theorem f114a_1 (cs0 : List V) (n0 : Nat) (x8 : Int) (h : Heap) (K : Out → Nat → List V → Heap → Prop) : (codeP Try.Y (Try.Y.loc 114) 100 ((flat (loopB (post (flat (bodyOf Try.f114)))))) ⟨mk 19 (([0, 1, 7, 8] : List Nat).zip [V.ts cs0 n0 none, V.fn (Fn.func 106) [] [], V.i IntKind.i64 (↑n0 : Int), V.i IntKind.i64 x8]), [], h⟩ (VQ [0, 1, 4, 7, 8] K)) =
  (If (ltI x8 (↑n0 : Int))
  ((0 ≤ x8 ∧ x8 < (↑n0 : Int)) ∧
 ∃ (n : Int),
 ∃ (n_1 : Int),
 takeX 2 (List.drop (x8.toNat * 2) cs0) = some [V.i IntKind.u8 n, V.i IntKind.u8 n_1] ∧
 ∃ (b : Bool),
 (PCon Try.Y 106 [V.agg [V.i IntKind.u8 n, V.i IntKind.u8 n_1]] fun (v : V) => v = V.b b) ∧
 If b
 (K Out.ret 19
 [V.ts cs0 n0 none, V.fn (Fn.func 106) [] [], V.i IntKind.i64 x8, V.i IntKind.i64 (↑n0 : Int),
 V.i IntKind.i64 x8]
 h)
 (K Out.normal 19
 [V.ts cs0 n0 none, V.fn (Fn.func 106) [] [], V.undef, V.i IntKind.i64 (↑n0 : Int),
 V.i IntKind.i64 (IntKind.i64.wrap (x8 + 1))]
 h))
  (K (Out.exit 0) 19
 [V.ts cs0 n0 none, V.fn (Fn.func 106) [] [], V.undef, V.i IntKind.i64 (↑n0 : Int), V.i IntKind.i64 x8] h)) := by kernel_rfl
theorem f114a_2  (h : Heap) (K : Out → Nat → List V → Heap → Prop) : (codeP Try.Y (Try.Y.loc 114) 100 (((post (flat (bodyOf Try.f114))).drop 1)) ⟨mk 19 (([] : List Nat).zip []), [], h⟩ (VQ [4] K)) =
  (K Out.ret 19 [V.i IntKind.i64 (-1)] h) := by kernel_rfl
end Go.Y

/- What the pieces of functions come to: printed by program. -/
namespace Go.Y
open Go.Proofs
set_option maxRecDepth 100000
set_option maxHeartbeats 0
theorem f93b_0 (cs0 : List V) (n0 : Nat) (id : Nat) (h : Heap) (K : Out → Nat → List V → Heap → Prop) : (codeP Try.Y (Try.Y.loc 93) 100 ((flat (bodyOf Try.f93))) ⟨(V.ts cs0 n0 none :: V.fn (.func 94) [] [V.p (some (id, 0))] :: List.replicate 7 .undef), [], h⟩ (VQ [4] K)) =
  (Con Try.Y 114 [V.ts cs0 n0 none, V.fn (Fn.func 94) [] [V.p (some (id, 0))]] h fun (v : V) (h' : Heap) =>
  ∃ (n : Int), v = V.i IntKind.i64 n ∧ K Out.ret 9 [V.b (leI 0 n)] h') := by kernel_rfl
theorem f114b_0 (cs0 : List V) (n0 : Nat) (id : Nat) (h : Heap) (K : Out → Nat → List V → Heap → Prop) : (codeP Try.Y (Try.Y.loc 114) 100 (pre (flat (bodyOf Try.f114))) ⟨(V.ts cs0 n0 none :: V.fn (.func 94) [] [V.p (some (id, 0))] :: List.replicate 17 .undef), [], h⟩ (VQ [0, 1, 7, 8] K)) =
  (K Out.normal 19
  [V.ts cs0 n0 none, V.fn (Fn.func 94) [] [V.p (some (id, 0))], V.i IntKind.i64 (↑n0 : Int), V.i IntKind.i64 0] h) := by kernel_rfl
theorem f114b_1 (cs0 : List V) (n0 : Nat) (id : Nat) (x8 : Int) (h : Heap) (K : Out → Nat → List V → Heap → Prop) : (codeP Try.Y (Try.Y.loc 114) 100 ((flat (loopB (post (flat (bodyOf Try.f114)))))) ⟨mk 19 (([0, 1, 7, 8] : List Nat).zip [V.ts cs0 n0 none, V.fn (Fn.func 94) [] [V.p (some (id, 0))], V.i IntKind.i64 (↑n0 : Int), V.i IntKind.i64 x8]), [], h⟩ (VQ [0, 1, 4, 7, 8] K)) =
  (If (ltI x8 (↑n0 : Int))
  ((0 ≤ x8 ∧ x8 < (↑n0 : Int)) ∧
 ∃ (n : Int),
 ∃ (n_1 : Int),
 takeX 2 (List.drop (x8.toNat * 2) cs0) = some [V.i IntKind.u8 n, V.i IntKind.u8 n_1] ∧
 ∃ (b : Bool),
 RCon Try.Y 94 [V.agg [V.i IntKind.u8 n, V.i IntKind.u8 n_1], V.p (some (id, 0))] h (V.b b) ∧
 If b
 (K Out.ret 19
 [V.ts cs0 n0 none, V.fn (Fn.func 94) [] [V.p (some (id, 0))], V.i IntKind.i64 x8,
 V.i IntKind.i64 (↑n0 : Int), V.i IntKind.i64 x8]
 h)
 (K Out.normal 19
 [V.ts cs0 n0 none, V.fn (Fn.func 94) [] [V.p (some (id, 0))], V.undef, V.i IntKind.i64 (↑n0 : Int),
 V.i IntKind.i64 (IntKind.i64.wrap (x8 + 1))]
 h))
  (K (Out.exit 0) 19
 [V.ts cs0 n0 none, V.fn (Fn.func 94) [] [V.p (some (id, 0))], V.undef, V.i IntKind.i64 (↑n0 : Int),
 V.i IntKind.i64 x8]
 h)) := by kernel_rfl
theorem f114b_2  (h : Heap) (K : Out → Nat → List V → Heap → Prop) : (codeP Try.Y (Try.Y.loc 114) 100 (((post (flat (bodyOf Try.f114))).drop 1)) ⟨mk 19 (([] : List Nat).zip []), [], h⟩ (VQ [4] K)) =
  (K Out.ret 19 [V.i IntKind.i64 (-1)] h) := by kernel_rfl
theorem f94b_0 (x0 : Int) (x1 : Int) (id : Nat) (h : Heap) (K : Out → Nat → List V → Heap → Prop) : (codeP Try.Y (Try.Y.loc 94) 100 ((flat (bodyOf Try.f94))) ⟨(V.agg [V.i IntKind.u8 x0, V.i IntKind.u8 x1] :: V.p (some (id, 0)) :: List.replicate 12 .undef), [], h⟩ (VQ [3] K)) =
  (∃ (n : Int),
  hcells h id 0 1 = some [V.i IntKind.u8 n] ∧
 If (leI x0 n) (∃ (n : Int), hcells h id 0 1 = some [V.i IntKind.u8 n] ∧ K Out.ret 14 [V.b (leI n x1)] h)
 (K Out.ret 14 [V.b false] h)) := by kernel_rfl
end Go.Y

/- Valid pieces, by contracts. -/
namespace Go.Y
open Go.Proofs
set_option maxRecDepth 100000

theorem one1_con (x : Span) : PCon Try.Y 106 [.agg (encS x)] (· = .b (ltI x.hi x.lo)) := by
  refine pcon_of Try.Yok (fn := Try.f106) (by kernel_rfl) (by kernel_rfl) rfl (end_rule Try.Yok (loc := Try.Y.loc 106) 100 [2] ?_)
  refine Eq.mpr (f106_0 x.lo x.hi _ _) ?_
  exact finV1 (.inr rfl) rfl (.b _) rfl

theorem indexBad  (l : List Span) (p : Span → Bool) (h : Heap) (hl : l.length < 2 ^ 30) (hp : ∀ x ∈ l, PCon Try.Y 106 [.agg (encS x)] (· = .b (p x))) :
    Con Try.Y 114 [lst encS l, .fn (.func 106) [] []] h fun v h' => ∃ n : Int, v = .i .i64 n ∧ leI 0 n = l.any p ∧ h' = h := by
  refine conz_of Try.Yok (fn := Try.f114) (by kernel_rfl) (by kernel_rfl) ?_
  refine pre_rule Try.Yok (n := 19) (loc := Try.Y.loc 114) 100 [0, 1, 7, 8] (by kernel_rfl) ?_
  refine Eq.mpr (f114a_0 (row encS l) l.length  h _) ?_
  refine ⟨rfl, loop2 [0, 1, 7, 8] [0, 1, 4, 7, 8] rfl (by kernel_rfl) (fun m vs h' => ∃ i : Nat, vs = [lst encS l, .fn (.func 106) [] [], .i .i64 l.length, .i .i64 (i : Nat)] ∧ i ≤ l.length ∧ (l.take i).any p = false ∧ m = l.length - i ∧ h' = h) l.length mk_len ⟨0, rfl, by omega, rfl, by omega, rfl⟩ ?_⟩
  rintro m vs h' ⟨i, rfl, hi, hno, rfl, rfl⟩
  refine all_rule Try.Yok (loc := Try.Y.loc 114) 100 [0, 1, 4, 7, 8] ?_
  refine Eq.mpr (f114a_1 (row encS l) l.length  (i : Nat) h' _) ?_
  refine if_lt_nat (fun hlt => ?_) (fun hge => ?_)
  · have hget : takeX 2 (List.drop ((i : Int).toNat * 2) (row encS l)) = some (encS l[i]) := by rw [Int.toNat_natCast]; exact row_get (f := encS) (k := 2) (fun _ => rfl) hlt
    refine ⟨bnd_nat hlt, _, _, hget, p l[i], hp l[i] (List.getElem_mem hlt), if_mk (fun hc => ?_) (fun hc => ?_)⟩
    · refine fin_at (.inr rfl) rfl (.now ⟨(i : Nat), rfl, ?_, rfl⟩)
      have : l.any p = true := List.any_eq_true.2 ⟨l[i], List.getElem_mem hlt, hc⟩
      rw [this]; simp [leI]
    · refine ⟨rfl, l.length - (i + 1), by omega, i + 1, ?_, by omega, ?_, rfl, rfl⟩
      · rw [wrap_succ (by omega)]; rfl
      · rw [List.take_succ_eq_append_getElem hlt, List.any_append, hno]; simp [hc]
  · refine roundW_exit [] (by kernel_rfl) rfl rfl ?_
    refine end_rule Try.Yok (loc := Try.Y.loc 114) 100 [4] ?_
    refine Eq.mpr (f114a_2 h' _) ?_
    rw [List.take_of_length_le hge] at hno
    exact finC (.inr rfl) rfl (.now ⟨-1, rfl, by rw [hno]; rfl, rfl⟩)

theorem containsBad  (l : List Span) (p : Span → Bool) (h : Heap) (hl : l.length < 2 ^ 30) (hp : ∀ x ∈ l, PCon Try.Y 106 [.agg (encS x)] (· = .b (p x))) :
    Con Try.Y 93 [lst encS l, .fn (.func 106) [] []] h fun v h' => v = .b (l.any p) ∧ h' = h := by
  refine conz_of Try.Yok (fn := Try.f93) (by kernel_rfl) (by kernel_rfl) (end_rule Try.Yok (loc := Try.Y.loc 93) 100 [4] ?_)
  refine Eq.mpr (f93a_0 (row encS l) l.length  h _) ?_
  refine (indexBad  l p h hl hp).mono fun v h' ⟨n, e1, e2, e3⟩ => ⟨n, e1, ?_⟩
  subst e3
  rw [e2]
  exact finC (.inr rfl) rfl (.now ⟨rfl, rfl⟩)

theorem one_con (g : Glob) (hs : g.sp.length < 2 ^ 30) : PCon Try.Y 71 [.agg (encG g)] (· = .b (oneS g)) := by
  refine pcon_of Try.Yok (fn := Try.f71) (by kernel_rfl) (by kernel_rfl) rfl (end_rule Try.Yok (loc := Try.Y.loc 71) 100 [2] ?_)
  refine Eq.mpr (f71_0 g.k g.b (row encS g.sp) g.sp.length _ _) ?_
  have f : ∀ b : Bool, b = oneS g → Fin Try.Y Try.f71 [2] (fun v h => ∃ r, Frz h v r ∧ r = .b (oneS g)) .ret 40 [.b b] .empty := fun b hb => finV1 (.inr rfl) rfl (.b _) (by rw [hb])
  have he : (((g.sp.length : Nat) : Int) == 0) = g.sp.isEmpty := by cases g.sp <;> simp <;> omega
  rw [he]
  refine if_mk (fun h0 => f _ ?_) (fun h0 => ?_)
  · have h0 : g.k = 0 := by simpa using h0
    simp [oneS, h0]
  have h0 : g.k ≠ 0 := by simpa using h0
  refine if_mk (fun h1 => ?_) (fun h1 => ?_)
  · have h1 : g.k = 1 := by simpa using h1
    exact if_mk (fun hb => f _ (by simp [oneS, h1, hb])) (fun hb => f _ (by simp [oneS, h1, hb]))
  have h1 : g.k ≠ 1 := by simpa using h1
  refine if_mk (fun h2 => ?_) (fun h2 => ?_)
  · have h2 : g.k = 2 := by simpa using h2
    exact if_mk (fun hb => f _ (by simp [oneS, h2, hb])) (fun hb => f _ (by simp [oneS, h2, hb]))
  have h2 : g.k ≠ 2 := by simpa using h2
  refine if_mk (fun h3 => ?_) (fun h3 => f _ ?_)
  · have h3 : g.k = 3 := by simpa using h3
    refine if_mk (fun hb => ?_) (fun hb => f _ (by simp [oneS, h3, hb]))
    refine if_pos_nat (fun hp => ?_) (fun hz => f _ ?_)
    · refine (containsBad g.sp (fun x => ltI x.hi x.lo) _ hs fun x _ => one1_con x).mono fun v h' ⟨e1, e2⟩ => ⟨_, e1, ?_⟩
      subst e2
      refine f _ ?_
      have : g.sp.isEmpty = false := by cases hsp : g.sp with
        | nil => rw [hsp] at hp; simp at hp
        | cons _ _ => rfl
      simp [oneS, h3, hb, this]
    · have : g.sp = [] := List.eq_nil_of_length_eq_zero hz
      simp [oneS, h3, this]
  · have h3 : g.k ≠ 3 := by simpa using h3
    simp [oneS, h0, h1, h2, h3]

theorem may1_con (g : Glob) (hs : g.sp.length < 2 ^ 30) : PCon Try.Y 70 [.agg (encG g)] (· = .b (!oneS g)) := by
  refine pcon_of Try.Yok (fn := Try.f70) (by kernel_rfl) (by kernel_rfl) rfl (end_rule Try.Yok (loc := Try.Y.loc 70) 100 [2] ?_)
  refine Eq.mpr (f70_0 g.k g.b (row encS g.sp) g.sp.length _ _) ?_
  exact ⟨_, one_con g hs, finV1 (.inr rfl) rfl (.b _) rfl⟩

theorem indexOdd  (l : List Glob) (p : Glob → Bool) (h : Heap) (hl : l.length < 2 ^ 30) (hp : ∀ x ∈ l, PCon Try.Y 70 [.agg (encG x)] (· = .b (p x))) :
    Con Try.Y 105 [lst encG l, .fn (.func 70) [] []] h fun v h' => ∃ n : Int, v = .i .i64 n ∧ leI 0 n = l.any p ∧ h' = h := by
  refine conz_of Try.Yok (fn := Try.f105) (by kernel_rfl) (by kernel_rfl) ?_
  refine pre_rule Try.Yok (n := 19) (loc := Try.Y.loc 105) 100 [0, 1, 7, 8] (by kernel_rfl) ?_
  refine Eq.mpr (f105_0 (row encG l) l.length  h _) ?_
  refine ⟨rfl, loop2 [0, 1, 7, 8] [0, 1, 4, 7, 8] rfl (by kernel_rfl) (fun m vs h' => ∃ i : Nat, vs = [lst encG l, .fn (.func 70) [] [], .i .i64 l.length, .i .i64 (i : Nat)] ∧ i ≤ l.length ∧ (l.take i).any p = false ∧ m = l.length - i ∧ h' = h) l.length mk_len ⟨0, rfl, by omega, rfl, by omega, rfl⟩ ?_⟩
  rintro m vs h' ⟨i, rfl, hi, hno, rfl, rfl⟩
  refine all_rule Try.Yok (loc := Try.Y.loc 105) 100 [0, 1, 4, 7, 8] ?_
  refine Eq.mpr (f105_1 (row encG l) l.length  (i : Nat) h' _) ?_
  refine if_lt_nat (fun hlt => ?_) (fun hge => ?_)
  · have hget : takeX 3 (List.drop ((i : Int).toNat * 3) (row encG l)) = some (encG l[i]) := by rw [Int.toNat_natCast]; exact row_get (f := encG) (k := 3) (fun _ => rfl) hlt
    refine ⟨bnd_nat hlt, _, _, _, _, _, hget, p l[i], hp l[i] (List.getElem_mem hlt), if_mk (fun hc => ?_) (fun hc => ?_)⟩
    · refine fin_at (.inr rfl) rfl (.now ⟨(i : Nat), rfl, ?_, rfl⟩)
      have : l.any p = true := List.any_eq_true.2 ⟨l[i], List.getElem_mem hlt, hc⟩
      rw [this]; simp [leI]
    · refine ⟨rfl, l.length - (i + 1), by omega, i + 1, ?_, by omega, ?_, rfl, rfl⟩
      · rw [wrap_succ (by omega)]; rfl
      · rw [List.take_succ_eq_append_getElem hlt, List.any_append, hno]; simp [hc]
  · refine roundW_exit [] (by kernel_rfl) rfl rfl ?_
    refine end_rule Try.Yok (loc := Try.Y.loc 105) 100 [4] ?_
    refine Eq.mpr (f105_2 h' _) ?_
    rw [List.take_of_length_le hge] at hno
    exact finC (.inr rfl) rfl (.now ⟨-1, rfl, by rw [hno]; rfl, rfl⟩)

theorem containsOdd  (l : List Glob) (p : Glob → Bool) (h : Heap) (hl : l.length < 2 ^ 30) (hp : ∀ x ∈ l, PCon Try.Y 70 [.agg (encG x)] (· = .b (p x))) :
    Con Try.Y 69 [lst encG l, .fn (.func 70) [] []] h fun v h' => v = .b (l.any p) ∧ h' = h := by
  refine conz_of Try.Yok (fn := Try.f69) (by kernel_rfl) (by kernel_rfl) (end_rule Try.Yok (loc := Try.Y.loc 69) 100 [4] ?_)
  refine Eq.mpr (f69_0 (row encG l) l.length  h _) ?_
  refine (indexOdd  l p h hl hp).mono fun v h' ⟨n, e1, e2, e3⟩ => ⟨n, e1, ?_⟩
  subst e3
  rw [e2]
  exact finC (.inr rfl) rfl (.now ⟨rfl, rfl⟩)

/-- Sizes that are reckoned with. -/
def okG (l : List Glob) : Prop := l.length < 2 ^ 28 ∧ ∀ x ∈ l, x.sp.length < 2 ^ 28

theorem gmay_con (l : List Glob) (hs : okG l) : PCon Try.Y 26 [lst encG l] (· = .b (mayS l)) := by
  refine pcon_of Try.Yok (fn := Try.f26) (by kernel_rfl) (by kernel_rfl) rfl (end_rule Try.Yok (loc := Try.Y.loc 26) 100 [2] ?_)
  refine Eq.mpr (f26_0 (row encG l) l.length _ _) ?_
  refine (containsOdd l (fun g => !oneS g) _ (by have := hs.1; omega) fun x hx => may1_con x (by have := hs.2 x hx; omega)).mono fun v h' ⟨e1, e2⟩ => ⟨_, e1, ?_⟩
  subst e2
  refine finV1 (.inr rfl) rfl (.b _) ?_
  rw [mayS, List.not_any_eq_all_not]
  simp

/-- The reference's. -/
theorem rone_con (g : Glob) (hs : g.sp.length < 2 ^ 30) : PCon Try.Y 50 [.agg (encG g)] (· = .b (oneS g)) := by
  refine pcon_of Try.Yok (fn := Try.f50) (by kernel_rfl) (by kernel_rfl) rfl ?_
  refine pre_rule Try.Yok (n := 54) (loc := Try.Y.loc 50) 100 [1, 2, 3] (by kernel_rfl) ?_
  refine Eq.mpr (f50_0 g.k g.b (row encS g.sp) g.sp.length _ _) ?_
  have f : ∀ (b : Bool) (v1 v3 : V) (h : Heap), b = oneS g → AtV [1, 2, 3] (FinS Try.Y Try.f50 fun v h => ∃ r, Frz h v r ∧ r = .b (oneS g)) .ret 54 [v1, .b b, v3] h := fun b v1 v3 h hb => fin_at (.inr rfl) rfl ⟨_, .b _, by rw [hb]⟩
  have he : (((g.sp.length : Nat) : Int) == 0) = g.sp.isEmpty := by cases g.sp <;> simp <;> omega
  refine if_mk (fun h0 => f _ _ _ _ ?_) (fun h0 => ?_)
  · have h0 : g.k = 0 := by simpa using h0
    rw [he]; simp [oneS, h0]
  have h0 : g.k ≠ 0 := by simpa using h0
  refine if_mk (fun hb => f _ _ _ _ ?_) (fun hb => ?_)
  · have hb : g.b ≠ 0 := by simpa using hb
    simp [oneS, h0, hb]
  have hb : g.b = 0 := by simpa using hb
  refine if_lt (fun hk => f _ _ _ _ ?_) (fun hk => ?_)
  · have n1 : g.k ≠ 1 := by omega
    have n2 : g.k ≠ 2 := by omega
    have n3 : g.k ≠ 3 := by omega
    simp [oneS, h0, n1, n2, n3]
  refine if_lt (fun hk3 => f _ _ _ _ ?_) (fun hk3 => ?_)
  · have n1 : g.k ≠ 1 := by omega
    have n2 : g.k ≠ 2 := by omega
    have n3 : g.k ≠ 3 := by omega
    simp [oneS, h0, n1, n2, n3]
  have hlen : ltI 0 ((g.sp.length : Nat) : Int) = !g.sp.isEmpty := by cases g.sp <;> simp [ltI] <;> omega
  rw [hlen]
  have h12 : g.k ≠ 3 → (g.k = 1 ∨ g.k = 2) := by omega
  refine if_mk (fun hc => f _ _ _ _ ?_) (fun hc => ?_)
  · by_cases h3 : g.k = 3
    · have : g.sp.isEmpty = true := by rw [h3] at hc; cases h : g.sp.isEmpty <;> rw [h] at hc <;> simp_all
      simp [oneS, h3, this]
    · have : g.sp.isEmpty = false := by
        have h3' : (g.k == 3) = false := by simpa using h3
        rw [h3'] at hc; cases h : g.sp.isEmpty <;> rw [h] at hc <;> simp_all
      simp [oneS, h0, h12 h3, this]
  refine ⟨rfl, loop2 [1, 3] [1, 2, 3] rfl (by kernel_rfl) (fun m vs _ => ∃ i : Nat, vs = [.lb (encG g), .i .i64 (i : Nat)] ∧ i ≤ g.sp.length ∧ (g.sp.take i).any (fun x => ltI x.hi x.lo) = false ∧ m = g.sp.length - i) g.sp.length mk_len ⟨0, rfl, by omega, rfl, by omega⟩ ?_⟩
  rintro m vs h' ⟨i, rfl, hi, hno, rfl⟩
  refine all_rule Try.Yok (loc := Try.Y.loc 50) 100 [1, 2, 3] ?_
  refine Eq.mpr (f50_1 g.k g.b (row encS g.sp) g.sp.length (i : Nat) h' _) ?_
  have hspe : g.k ≠ 3 → g.sp = [] := by
    intro h3
    have h3' : (g.k == 3) = false := by simpa using h3
    rw [h3'] at hc
    cases h : g.sp.isEmpty
    · rw [h] at hc; simp at hc
    · exact List.isEmpty_iff.1 h
  refine if_lt_nat (fun hlt => ?_) (fun hge => ?_)
  · have rc := row_cons encS_len g.sp hlt
    rw [Int.toNat_natCast, rc]
    have h3 : g.k = 3 := by
      by_cases h3 : g.k = 3
      · exact h3
      · rw [hspe h3] at hlt; simp at hlt
    have hne : g.sp.isEmpty = false := by
      cases hsp : g.sp with
      | nil => rw [hsp] at hlt; simp at hlt
      | cons _ _ => rfl
    refine ⟨bnd_nat hlt, _, rfl, bnd_nat hlt, _, rfl, if_mk (fun hc => f _ _ _ _ ?_) (fun hc => ?_)⟩
    · have : g.sp.any (fun x => ltI x.hi x.lo) = true := List.any_eq_true.2 ⟨_, List.getElem_mem hlt, hc⟩
      simp [oneS, h3, hb, hne, this]
    · refine ⟨rfl, g.sp.length - (i + 1), by omega, i + 1, ?_, by omega, ?_, rfl⟩
      · rw [wrap_succ (by omega)]; rfl
      · rw [List.take_succ_eq_append_getElem hlt, List.any_append, hno]; simp [hc]
  · refine roundW_exit [] (by kernel_rfl) rfl rfl ?_
    refine end_rule Try.Yok (loc := Try.Y.loc 50) 100 [2] ?_
    refine Eq.mpr (f50_2 h' _) ?_
    rw [List.take_of_length_le hge] at hno
    refine finV1 (.inr rfl) rfl (.b _) ?_
    by_cases h3 : g.k = 3
    · have hne : g.sp.isEmpty = false := by
        rw [h3] at hc
        cases h : g.sp.isEmpty <;> rw [h] at hc <;> simp_all
      simp [oneS, h3, hb, hne, hno]
    · simp [oneS, h0, h12 h3, hb, hspe h3]

theorem rmay_con (l : List Glob) (hs : okG l) : PCon Try.Y 17 [lst encG l] (· = .b (mayS l)) := by
  refine pcon_of Try.Yok (fn := Try.f17) (by kernel_rfl) (by kernel_rfl) rfl ?_
  refine pre_rule Try.Yok (n := 16) (loc := Try.Y.loc 17) 100 [0, 3] (by kernel_rfl) ?_
  refine Eq.mpr (f17_0 (row encG l) l.length _ _) ?_
  have hl := hs.1
  refine ⟨rfl, loop2 [0, 3] [0, 2, 3] rfl (by kernel_rfl) (fun m vs _ => ∃ i : Nat, vs = [lst encG l, .i .i64 (i : Nat)] ∧ i ≤ l.length ∧ (l.take i).all oneS = true ∧ m = l.length - i) l.length mk_len ⟨0, rfl, by omega, rfl, by omega⟩ ?_⟩
  rintro m vs h' ⟨i, rfl, hi, hno, rfl⟩
  refine all_rule Try.Yok (loc := Try.Y.loc 17) 100 [0, 2, 3] ?_
  refine Eq.mpr (f17_1 (row encG l) l.length (i : Nat) h' _) ?_
  refine if_lt_nat (fun hlt => ?_) (fun hge => ?_)
  · rw [Int.toNat_natCast]
    refine ⟨bnd_nat hlt, _, _, _, _, _, row_get encG_len hlt, _, rone_con l[i] (by have := hs.2 _ (List.getElem_mem hlt); omega), if_mk (fun hc => ?_) (fun hc => ?_)⟩
    · refine fin_at (.inr rfl) rfl ⟨_, .b _, ?_⟩
      have : mayS l = false := by
        rw [mayS, List.all_eq_false]
        exact ⟨_, List.getElem_mem hlt, by simpa using hc⟩
      rw [this]
    · refine ⟨rfl, l.length - (i + 1), by omega, i + 1, ?_, by omega, ?_, rfl⟩
      · rw [wrap_succ (by omega)]; rfl
      · rw [List.take_succ_eq_append_getElem hlt, List.all_append, hno]; simpa using hc
  · refine roundW_exit [] (by kernel_rfl) rfl rfl ?_
    refine end_rule Try.Yok (loc := Try.Y.loc 17) 100 [2] ?_
    refine Eq.mpr (f17_2 h' _) ?_
    rw [List.take_of_length_le hge] at hno
    exact finV1 (.inr rfl) rfl (.b _) (by rw [mayS, hno])

/-- Small ones. -/
def smallS (l : List Glob) : Bool := decide (l.length ≤ 80) && l.all fun g => decide (g.sp.length ≤ 40)
theorem small_con (l : List Glob) : PCon Try.Y 16 [lst encG l] (· = .b (smallS l)) := by
  refine pcon_of Try.Yok (fn := Try.f16) (by kernel_rfl) (by kernel_rfl) rfl ?_
  refine pre_rule Try.Yok (n := 19) (loc := Try.Y.loc 16) 100 [2, 8, 9, 10] (by kernel_rfl) ?_
  refine Eq.mpr (f16_0 (row encG l) l.length _ _) ?_
  refine if_lt (fun hl => fin_at (.inr rfl) rfl ⟨_, .b _, ?_⟩) (fun hl => ?_)
  · have : ¬ l.length ≤ 80 := by omega
    simp [smallS, this]
  have h80 : l.length ≤ 80 := by omega
  refine ⟨rfl, loop2 [8, 9, 10] [2, 8, 9, 10] rfl (by kernel_rfl) (fun m vs _ => ∃ i : Nat, vs = [lst encG l, .i .i64 l.length, .i .i64 (i : Nat)] ∧ i ≤ l.length ∧ (l.take i).all (fun g => decide (g.sp.length ≤ 40)) = true ∧ m = l.length - i) l.length mk_len ⟨0, rfl, by omega, rfl, by omega⟩ ?_⟩
  rintro m vs h' ⟨i, rfl, hi, hno, rfl⟩
  refine all_rule Try.Yok (loc := Try.Y.loc 16) 100 [2, 8, 9, 10] ?_
  refine Eq.mpr (f16_1 (row encG l) l.length (i : Nat) h' _) ?_
  refine if_lt_nat (fun hlt => ?_) (fun hge => ?_)
  · rw [Int.toNat_natCast]
    refine ⟨bnd_nat hlt, _, _, _, _, _, row_get encG_len hlt, if_lt (fun hc => ?_) (fun hc => ?_)⟩
    · refine fin_at (.inr rfl) rfl ⟨_, .b _, ?_⟩
      have : l.all (fun g => decide (g.sp.length ≤ 40)) = false := by
        rw [List.all_eq_false]
        exact ⟨_, List.getElem_mem hlt, by simp; omega⟩
      simp [smallS, this]
    · refine ⟨rfl, l.length - (i + 1), by omega, i + 1, ?_, by omega, ?_, rfl⟩
      · rw [wrap_succ (by omega)]; rfl
      · rw [List.take_succ_eq_append_getElem hlt, List.all_append, hno]
        have : l[i].sp.length ≤ 40 := by omega
        simp [this]
  · refine roundW_exit [] (by kernel_rfl) rfl rfl ?_
    refine end_rule Try.Yok (loc := Try.Y.loc 16) 100 [2] ?_
    refine Eq.mpr (f16_2 h' _) ?_
    rw [List.take_of_length_le hge] at hno
    exact finV1 (.inr rfl) rfl (.b _) (by simp only [smallS, hno, h80, decide_true, Bool.and_self])
theorem small_ok {l : List Glob} (h : smallS l = true) : okG l := by
  simp only [smallS, Bool.and_eq_true, decide_eq_true_eq, List.all_eq_true] at h
  exact ⟨by omega, fun x hx => by have := h.2 x hx; omega⟩
end Go.Y
