/- For every graph and two numbers 'souffleurlaw41.GraphLeads' returns true, and its arguments read behind the call as they read before. Conditions: none beyond the given statement's own. -/
import Derived.Test.YtdoanndgjipbmaaGLaw41d
import Derived.Test.YtdoanndgjipbmaaRows
namespace Go.Proofs.Ytdoanndgjipbmaa
open Go.ChangeShapes Go.WideShapes Go.ChangeAt Go.RowKit Go.Y
open Go.Proofs
set_option linter.unusedVariables false
set_option maxRecDepth 100000
theorem lifted4 (os : Os) (started : os.Started) (H : Type) (enc : TypeId × Value → H) :
    ReturnsInHanded {} Try.checked os 4 .any (Rows.graphLeadsSpec.pre6 enc Try.prog Try.f4 Rows.graphLeadsRow.domain false) (Rows.graphLeadsSpec.post enc Try.prog Try.f4 false true false false) := by
  refine returnsInHanded_of_change (C := Try.checked) own started (by kernel_rfl) Try.func4
    (ChangeSpec.witness6 (enc := enc) (C := Try.checked) false ⟨#[], #[.agg #[.slice none 0 0], .int .u8 0, .int .u8 0], []⟩ 8 (by kernel_rfl) (by kernel_rfl) (by kernel_rfl) (by kernel_rfl)) ?_
  intro W base args ds gs before hval0 hW hcnd _
  have hval : ∀ (j : Nat) t v, Try.f4.params[j]? = some t → args[j]? = some v → Value.okWide Try.prog W .any base t v := hval0
  have hW' := hW
  obtain ⟨p, q, hA0, hV, rfl, hfz, hnd⟩ := hW
  have hA : DataW.TrodAll enc Try.prog W 0 (fun _ => true) true Try.f4.params.toList args.toList ds p := hA0
  rw [Try.params4] at hA hval
  obtain ⟨v0, vs0, d0, ds0, p0, q0, hargs, rfl, rfl, h0, r0⟩ := trodAll_cons hA
  obtain ⟨v1, vs1, d1, ds1, p1, q1, rfl, rfl, rfl, h1, r1⟩ := trodAll_cons r0
  obtain ⟨v2, vs2, d2, ds2, p2, q2, rfl, rfl, rfl, h2, r2⟩ := trodAll_cons r1
  obtain ⟨rfl, rfl, rfl⟩ := trodAll_nil r2
  obtain rfl : args = #[v0, v1, v2] := by cases args; simp_all
  obtain ⟨rfl, rfl⟩ := trodVars_none hV
  obtain ⟨z0, rfl, -⟩ := okWide_struct Try.underlying24 (hval 0 24 v0 rfl rfl)
  obtain ⟨z1, rfl⟩ := okWide_int Try.underlying5 (hval 1 5 v1 rfl rfl)
  obtain ⟨z2, rfl⟩ := okWide_int Try.underlying5 (hval 2 5 v2 rfl rfl)
  have k0 := h0
  have lt0 : ∀ x ∈ p0, x.block < W.heap.size := by obtain ⟨m, hm⟩ := k0; exact DataW.trod_lt m _ _ _ hm
  have k1 := h1
  have lt1 : ∀ x ∈ p1, x.block < W.heap.size := by obtain ⟨m, hm⟩ := k1; exact DataW.trod_lt m _ _ _ hm
  have k2 := h2
  have lt2 : ∀ x ∈ p2, x.block < W.heap.size := by obtain ⟨m, hm⟩ := k2; exact DataW.trod_lt m _ _ _ hm
  obtain ⟨x0, hl0, hw0⟩ : ∃ x : List (List Int), VR (inW W) (V.agg [V.ts (rowsV x) x.length none]) (.agg z0) ∧ (∀ r ∈ x, r.length ≤ 2 ^ 63 - 1) := by
    obtain ⟨fuel, hf⟩ := h0
    obtain ⟨vs, h1, h2⟩ := trod_vr Try.Yok fuel 24 _ _ (served24 fuel) hf
    obtain ⟨x, rfl, hm⟩ := shp24 h2
    exact ⟨x, by have := VR.agg _ _ h1; simpa [Value.cells] using this, hm⟩
  obtain ⟨x1, hl1, hw1⟩ : ∃ x : Int, VR (inW W) (V.i .u8 x) (.int .u8 z1) ∧ (0 ≤ x ∧ x ≤ 255) := by
    obtain ⟨fuel, hf⟩ := h1
    obtain ⟨vs, h1, h2⟩ := trod_vr Try.Yok fuel 5 _ _ (served5 fuel) hf
    obtain ⟨x, rfl, hm⟩ := shp5 h2
    cases h1 with | cons _ _ _ _ h3 h4 => exact ⟨x, h3, hm⟩
  obtain ⟨x2, hl2, hw2⟩ : ∃ x : Int, VR (inW W) (V.i .u8 x) (.int .u8 z2) ∧ (0 ≤ x ∧ x ≤ 255) := by
    obtain ⟨fuel, hf⟩ := h2
    obtain ⟨vs, h1, h2⟩ := trod_vr Try.Yok fuel 5 _ _ (served5 fuel) hf
    obtain ⟨x, rfl, hm⟩ := shp5 h2
    cases h1 with | cons _ _ _ _ h3 h4 => exact ⟨x, h3, hm⟩
  clear hA0 hval0
  refine ((leads_con (G := x0) (x := x1) (y := x2) sorts26 hw1.1 hw1.2 hw2.1 hw2.2 hw0).calls (.cons _ _ _ _ hl0 (.cons _ _ _ _ hl1 (.cons _ _ _ _ hl2 .nil)))).mono fun e W' ⟨he, bel⟩ => ?_
  subst he
  exact ⟨_, rfl, _, _, _, [], _, [], hW', trodAll_mk1 (shut_bool Try.underlying4 _), (trodAll_cons_mk (Below.trod laidOut (by kernel_rfl) (of_decide_eq_true (by kernel_rfl)) k0 bel lt0) (trodAll_cons_mk (Below.trod laidOut (by kernel_rfl) (of_decide_eq_true (by kernel_rfl)) k1 bel lt1) (trodAll_cons_mk (Below.trod laidOut (by kernel_rfl) (of_decide_eq_true (by kernel_rfl)) k2 bel lt2) trodAll_mk0))), rfl, bel.frame _, fun h => by cases h⟩

theorem graphLeads_holds : Rows.GraphLeadsSaid :=
  OpenClaim.holds_of_wide 4 Try.f4 rfl rfl rfl rfl rfl rfl rfl ⟨rfl, rfl, rfl, rfl, rfl⟩ rfl rfl rfl rfl rfl (by kernel_rfl) Try.func4 (by kernel_rfl)
    (of_decide_eq_true (by kernel_rfl)) (by unfold Func.isWrapper; first | (rw [if_pos (by decide +kernel)]; kernel_rfl) | (rw [if_neg (by decide +kernel)]; exact ⟨rfl, rfl⟩))
    (fun os started H enc _ => lifted4 os started H enc)
end Go.Proofs.Ytdoanndgjipbmaa
