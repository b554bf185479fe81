/- For every list of choices, 'souffleurlaw30.LiftAny' and 'souffleurlaw30.LiftBack' return true, and the list reads behind the call as it read before. Conditions: none beyond the given statements' own. -/
import Derived.Test.YtlbbbmljaigajaaPLaw30
import Derived.Test.YtlbbbmljaigajaaYRow
import Derived.Test.YtlbbbmljaigajaaRows
namespace Go.Proofs.Ytlbbbmljaigajaa
open Go.ChangeShapes Go.WideShapes Go.ChangeAt Go.RowKit Go.Y
open Go.Proofs
set_option linter.unusedVariables false
set_option maxRecDepth 100000

theorem own : ownKnob Try.prog.godebug = none := by kernel_rfl
theorem laidOut : laidOutB Try.prog = true := by kernel_rfl

theorem kd22 : Try.Y.kd 22 = some (.slice 41) := by kernel_rfl
theorem kd41 : Try.Y.kd 41 = some (.struct [(0, 3), (1, 3), (2, 3)]) := by kernel_rfl
theorem kd3 : Try.Y.kd 3 = some (.int .i64) := by kernel_rfl

theorem shp41 {n : Nat} {vs : List V} (h : Shp Try.Y n 41 vs) : ∃ c : Choice, vs = encC c := by
  obtain ⟨m, rfl, h⟩ := shp_struct kd41 h
  obtain ⟨a, b, rfl, ha, c, d, rfl, hc, e, f, rfl, he, hf⟩ := h
  obtain ⟨k, rfl, _⟩ := shp_int kd3 ha
  obtain ⟨p, rfl, _⟩ := shp_int kd3 hc
  obtain ⟨q, rfl, _⟩ := shp_int kd3 he
  obtain rfl : f = [] := hf
  exact ⟨⟨k, p, q⟩, rfl⟩

theorem shp22 {n : Nat} {vs : List V} (h : Shp Try.Y n 22 vs) : ∃ l : List Choice, vs = [lst encC l] := by
  obtain ⟨m, es, rfl, rfl, h, _⟩ := shp_slice kd22 h
  obtain ⟨l, hl⟩ := list_of (f := encC) fun x hx => shp41 (h x hx)
  simp at hl
  subst hl
  exact ⟨l, by simp [lst, row]⟩

theorem served22 : ∀ n, servedB Try.Y n 22 = true
  | 0 => by kernel_rfl
  | 1 => by kernel_rfl
  | 2 => by kernel_rfl
  | n + 3 => by kernel_rfl

theorem lifted3 (os : Os) (started : os.Started) (H : Type) (enc : TypeId × Value → H) :
    ReturnsInHanded {} Try.checked os 3 .any (Rows.liftAnySpec.pre6 enc Try.prog Try.f3 Rows.liftAnyRow.domain false) (Rows.liftAnySpec.post enc Try.prog Try.f3 false true false false) := by
  refine returnsInHanded_of_change (C := Try.checked) own started (by kernel_rfl) Try.func3
    (ChangeSpec.witness6 (enc := enc) (C := Try.checked) false ⟨#[], #[.slice none 0 0], []⟩ 8 (by kernel_rfl) (by kernel_rfl) (by kernel_rfl) (by kernel_rfl)) ?_
  intro W base args ds gs before hval0 hW hcnd _
  have hval : ∀ (j : Nat) t v, Try.f3.params[j]? = some t → args[j]? = some v → Value.okWide Try.prog W .any base t v := hval0
  have hW' := hW
  obtain ⟨p, q, hA0, hV, rfl, hfz, hnd⟩ := hW
  have hA : DataW.TrodAll enc Try.prog W 0 (fun _ => true) true Try.f3.params.toList args.toList ds p := hA0
  rw [Try.params3] at hA hval
  obtain ⟨v0, vs0, d0, ds0, p0, q0, hargs, rfl, rfl, h0, r0⟩ := trodAll_cons hA
  obtain ⟨rfl, rfl, rfl⟩ := trodAll_nil r0
  obtain rfl : args = #[v0] := by cases args; simp_all
  obtain ⟨rfl, rfl⟩ := trodVars_none hV
  obtain ⟨a0, len0, cap0, rfl⟩ := okWide_slice Try.underlying22 (hval 0 22 v0 rfl rfl)
  have k0 := h0
  have lt0 : ∀ x ∈ p0, x.block < W.heap.size := by obtain ⟨m, hm⟩ := k0; exact DataW.trod_lt m _ _ _ hm
  obtain ⟨l, hl⟩ : ∃ l : List Choice, VRs (inW W) [lst encC l] [.slice a0 len0 cap0] := by
    obtain ⟨fuel, hf⟩ := h0
    obtain ⟨vs, h1, h2⟩ := trod_vr Try.Yok fuel 22 _ _ (served22 fuel) hf
    obtain ⟨l, rfl⟩ := shp22 h2
    exact ⟨l, h1⟩
  clear hA0 hval0
  refine ((any_con l).calls hl).mono fun e W' ⟨he, bel⟩ => ?_
  subst he
  exact ⟨_, rfl, _, _, _, [], _, [], hW', trodAll_mk1 (shut_bool Try.underlying4 _), (trodAll_cons_mk (Below.trod laidOut (by kernel_rfl) (of_decide_eq_true (by kernel_rfl)) k0 bel lt0) trodAll_mk0), rfl, bel.frame _, fun h => by cases h⟩

/-- LiftAny: for every input the law returns true, and its argument reads as it did. -/
theorem any_holds : Rows.LiftAnySaid :=
  OpenClaim.holds_of_wide 3 Try.f3 rfl rfl rfl rfl rfl rfl rfl ⟨rfl, rfl, rfl, rfl, rfl⟩ rfl rfl rfl rfl rfl (by kernel_rfl) Try.func3 (by kernel_rfl)
    (of_decide_eq_true (by kernel_rfl)) (by unfold Func.isWrapper; first | (rw [if_pos (by decide +kernel)]; kernel_rfl) | (rw [if_neg (by decide +kernel)]; exact ⟨rfl, rfl⟩))
    (fun os started H enc _ => lifted3 os started H enc)

theorem lifted4 (os : Os) (started : os.Started) (H : Type) (enc : TypeId × Value → H) :
    ReturnsInHanded {} Try.checked os 4 .any (Rows.liftBackSpec.pre6 enc Try.prog Try.f4 Rows.liftBackRow.domain false) (Rows.liftBackSpec.post enc Try.prog Try.f4 false true false false) := by
  refine returnsInHanded_of_change (C := Try.checked) own started (by kernel_rfl) Try.func4
    (ChangeSpec.witness6 (enc := enc) (C := Try.checked) false ⟨#[], #[.slice none 0 0], []⟩ 8 (by kernel_rfl) (by kernel_rfl) (by kernel_rfl) (by kernel_rfl)) ?_
  intro W base args ds gs before hval0 hW hcnd _
  have hval : ∀ (j : Nat) t v, Try.f4.params[j]? = some t → args[j]? = some v → Value.okWide Try.prog W .any base t v := hval0
  have hW' := hW
  obtain ⟨p, q, hA0, hV, rfl, hfz, hnd⟩ := hW
  have hA : DataW.TrodAll enc Try.prog W 0 (fun _ => true) true Try.f4.params.toList args.toList ds p := hA0
  rw [Try.params4] at hA hval
  obtain ⟨v0, vs0, d0, ds0, p0, q0, hargs, rfl, rfl, h0, r0⟩ := trodAll_cons hA
  obtain ⟨rfl, rfl, rfl⟩ := trodAll_nil r0
  obtain rfl : args = #[v0] := by cases args; simp_all
  obtain ⟨rfl, rfl⟩ := trodVars_none hV
  obtain ⟨a0, len0, cap0, rfl⟩ := okWide_slice Try.underlying22 (hval 0 22 v0 rfl rfl)
  have k0 := h0
  have lt0 : ∀ x ∈ p0, x.block < W.heap.size := by obtain ⟨m, hm⟩ := k0; exact DataW.trod_lt m _ _ _ hm
  obtain ⟨l, hl⟩ : ∃ l : List Choice, VRs (inW W) [lst encC l] [.slice a0 len0 cap0] := by
    obtain ⟨fuel, hf⟩ := h0
    obtain ⟨vs, h1, h2⟩ := trod_vr Try.Yok fuel 22 _ _ (served22 fuel) hf
    obtain ⟨l, rfl⟩ := shp22 h2
    exact ⟨l, h1⟩
  clear hA0 hval0
  refine ((back_con l).calls hl).mono fun e W' ⟨he, bel⟩ => ?_
  subst he
  exact ⟨_, rfl, _, _, _, [], _, [], hW', trodAll_mk1 (shut_bool Try.underlying4 _), (trodAll_cons_mk (Below.trod laidOut (by kernel_rfl) (of_decide_eq_true (by kernel_rfl)) k0 bel lt0) trodAll_mk0), rfl, bel.frame _, fun h => by cases h⟩

/-- LiftBack: for every input the law returns true, and its argument reads as it did. -/
theorem back_holds : Rows.LiftBackSaid :=
  OpenClaim.holds_of_wide 4 Try.f4 rfl rfl rfl rfl rfl rfl rfl ⟨rfl, rfl, rfl, rfl, rfl⟩ rfl rfl rfl rfl rfl (by kernel_rfl) Try.func4 (by kernel_rfl)
    (of_decide_eq_true (by kernel_rfl)) (by unfold Func.isWrapper; first | (rw [if_pos (by decide +kernel)]; kernel_rfl) | (rw [if_neg (by decide +kernel)]; exact ⟨rfl, rfl⟩))
    (fun os started H enc _ => lifted4 os started H enc)
end Go.Proofs.Ytlbbbmljaigajaa
