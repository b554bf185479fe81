/- For every graph and number 'souffleurlaw41.GraphParts' returns true, and its arguments read behind the call as they read before. Conditions: none beyond the given statement's own. -/
import Derived.Test.YtdoanndgjipbmaaGLaw41d
import Derived.Test.YtdoanndgjipbmaaRows
namespace Go.Proofs.Ytdoanndgjipbmaa
open Go.ChangeShapes Go.WideShapes Go.ChangeAt Go.RowKit Go.Y
open Go.Proofs
set_option linter.unusedVariables false
set_option maxRecDepth 100000
theorem lifted3 (os : Os) (started : os.Started) (H : Type) (enc : TypeId × Value → H) :
    ReturnsInHanded {} Try.checked os 3 .any (Rows.graphPartsSpec.pre6 enc Try.prog Try.f3 Rows.graphPartsRow.domain false) (Rows.graphPartsSpec.post enc Try.prog Try.f3 false true false false) := by
  refine returnsInHanded_of_change (C := Try.checked) own started (by kernel_rfl) Try.func3
    (ChangeSpec.witness6 (enc := enc) (C := Try.checked) false ⟨#[], #[.agg #[.slice none 0 0], .int .i64 0], []⟩ 8 (by kernel_rfl) (by kernel_rfl) (by kernel_rfl) (by kernel_rfl)) ?_
  intro W base args ds gs before hval0 hW hcnd _
  have hval : ∀ (j : Nat) t v, Try.f3.params[j]? = some t → args[j]? = some v → Value.okWide Try.prog W .any base t v := hval0
  have hW' := hW
  obtain ⟨p, q, hA0, hV, rfl, hfz, hnd⟩ := hW
  have hA : DataW.TrodAll enc Try.prog W 0 (fun _ => true) true Try.f3.params.toList args.toList ds p := hA0
  rw [Try.params3] at hA hval
  obtain ⟨v0, vs0, d0, ds0, p0, q0, hargs, rfl, rfl, h0, r0⟩ := trodAll_cons hA
  obtain ⟨v1, vs1, d1, ds1, p1, q1, rfl, rfl, rfl, h1, r1⟩ := trodAll_cons r0
  obtain ⟨rfl, rfl, rfl⟩ := trodAll_nil r1
  obtain rfl : args = #[v0, v1] := by cases args; simp_all
  obtain ⟨rfl, rfl⟩ := trodVars_none hV
  obtain ⟨z0, rfl, -⟩ := okWide_struct Try.underlying24 (hval 0 24 v0 rfl rfl)
  obtain ⟨z1, rfl⟩ := okWide_int Try.underlying3 (hval 1 3 v1 rfl rfl)
  have k0 := h0
  have lt0 : ∀ x ∈ p0, x.block < W.heap.size := by obtain ⟨m, hm⟩ := k0; exact DataW.trod_lt m _ _ _ hm
  have k1 := h1
  have lt1 : ∀ x ∈ p1, x.block < W.heap.size := by obtain ⟨m, hm⟩ := k1; exact DataW.trod_lt m _ _ _ hm
  obtain ⟨x0, hl0⟩ : ∃ x : List (List Int), VR (inW W) (V.agg [V.ts (rowsV x) x.length none]) (.agg z0) := by
    obtain ⟨fuel, hf⟩ := h0
    obtain ⟨vs, h1, h2⟩ := trod_vr Try.Yok fuel 24 _ _ (served24 fuel) hf
    obtain ⟨x, rfl⟩ := shp24a h2
    exact ⟨x, by have := VR.agg _ _ h1; simpa [Value.cells] using this⟩
  obtain ⟨x1, hl1⟩ : ∃ x : Int, VR (inW W) (V.i .i64 x) (.int .i64 z1) := by
    obtain ⟨fuel, hf⟩ := h1
    obtain ⟨vs, h1, h2⟩ := trod_vr Try.Yok fuel 3 _ _ (served3 fuel) hf
    obtain ⟨x, rfl⟩ := shp3 h2
    cases h1 with | cons _ _ _ _ h3 h4 => exact ⟨x, h3⟩
  clear hA0 hval0
  refine ((parts3_con (G := x0) (x := x1) sorts26).calls (.cons _ _ _ _ hl0 (.cons _ _ _ _ hl1 .nil))).mono fun e W' ⟨he, bel⟩ => ?_
  subst he
  exact ⟨_, rfl, _, _, _, [], _, [], hW', trodAll_mk1 (shut_bool Try.underlying4 _), (trodAll_cons_mk (Below.trod laidOut (by kernel_rfl) (of_decide_eq_true (by kernel_rfl)) k0 bel lt0) (trodAll_cons_mk (Below.trod laidOut (by kernel_rfl) (of_decide_eq_true (by kernel_rfl)) k1 bel lt1) trodAll_mk0)), rfl, bel.frame _, fun h => by cases h⟩

theorem graphParts_holds : Rows.GraphPartsSaid :=
  OpenClaim.holds_of_wide 3 Try.f3 rfl rfl rfl rfl rfl rfl rfl ⟨rfl, rfl, rfl, rfl, rfl⟩ rfl rfl rfl rfl rfl (by kernel_rfl) Try.func3 (by kernel_rfl)
    (of_decide_eq_true (by kernel_rfl)) (by unfold Func.isWrapper; first | (rw [if_pos (by decide +kernel)]; kernel_rfl) | (rw [if_neg (by decide +kernel)]; exact ⟨rfl, rfl⟩))
    (fun os started H enc _ => lifted3 os started H enc)
end Go.Proofs.Ytdoanndgjipbmaa
