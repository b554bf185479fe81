/- For every side and peer 'souffleurlaw18.ActorComes' returns true, and its arguments read behind the call as they read before. Conditions: none beyond the given statement's own. -/
import Derived.Test.YtpddiafjmkjpmaaGD8
import Derived.Test.YtpddiafjmkjpmaaRows
namespace Go.Proofs.Ytpddiafjmkjpmaa
open Go.ChangeShapes Go.WideShapes Go.ChangeAt Go.RowKit Go.Y
open Go.Proofs
set_option linter.unusedVariables false
set_option maxRecDepth 100000

theorem lifted11 (os : Os) (started : os.Started) (H : Type) (enc : TypeId × Value → H) :
    ReturnsInHanded {} Try.checked os 11 .any (Rows.actorComesSpec.pre6 enc Try.prog Try.f11 Rows.actorComesRow.domain false) (Rows.actorComesSpec.post enc Try.prog Try.f11 false true false false) := by
  refine returnsInHanded_of_change (C := Try.checked) own started (by kernel_rfl) Try.func11
    (ChangeSpec.witness6 (enc := enc) (C := Try.checked) false ⟨#[], #[.agg #[.bool false, .bool false, .bool false, .int .i64 0, .int .i64 0, .string .empty, .slice none 0 0, .string .empty, .slice none 0 0, .string .empty, .string .empty], .agg #[.int .i64 0, .slice none 0 0]], []⟩ 8 (by kernel_rfl) (by kernel_rfl) (by kernel_rfl) (by kernel_rfl)) ?_
  intro W base args ds gs before hval0 hW hcnd _
  have hval : ∀ (j : Nat) t v, Try.f11.params[j]? = some t → args[j]? = some v → Value.okWide Try.prog W .any base t v := hval0
  have hW' := hW
  obtain ⟨p, q, hA0, hV, rfl, hfz, hnd⟩ := hW
  have hA : DataW.TrodAll enc Try.prog W 0 (fun _ => true) true Try.f11.params.toList args.toList ds p := hA0
  rw [Try.params11] at hA hval
  obtain ⟨v0, vs0, d0, ds0, p0, q0, hargs, rfl, rfl, h0, r0⟩ := trodAll_cons hA
  obtain ⟨v1, vs1, d1, ds1, p1, q1, rfl, rfl, rfl, h1, r1⟩ := trodAll_cons r0
  obtain ⟨rfl, rfl, rfl⟩ := trodAll_nil r1
  obtain rfl : args = #[v0, v1] := by cases args; simp_all
  obtain ⟨rfl, rfl⟩ := trodVars_none hV
  obtain ⟨z0, rfl, -⟩ := okWide_struct Try.underlying43 (hval 0 43 v0 rfl rfl)
  obtain ⟨z1, rfl, -⟩ := okWide_struct Try.underlying40 (hval 1 40 v1 rfl rfl)
  have k0 := h0
  have lt0 : ∀ x ∈ p0, x.block < W.heap.size := by obtain ⟨m, hm⟩ := k0; exact DataW.trod_lt m _ _ _ hm
  have k1 := h1
  have lt1 : ∀ x ∈ p1, x.block < W.heap.size := by obtain ⟨m, hm⟩ := k1; exact DataW.trod_lt m _ _ _ hm
  obtain ⟨x0, hl0⟩ : ∃ x : Side, VR (inW W) (V.agg (sideC x)) (.agg z0) := by
    obtain ⟨fuel, hf⟩ := h0
    obtain ⟨vs, h1, h2⟩ := trod_vr Try.Yok fuel 43 _ _ (served43 fuel) hf
    obtain ⟨x, rfl⟩ := shp43 h2
    exact ⟨x, by have := VR.agg _ _ h1; simpa [Value.cells] using this⟩
  obtain ⟨x1, hl1⟩ : ∃ x : Int × List Plc, VR (inW W) (V.agg (peerC x.1 x.2)) (.agg z1) := by
    obtain ⟨fuel, hf⟩ := h1
    obtain ⟨vs, h1, h2⟩ := trod_vr Try.Yok fuel 40 _ _ (served40 fuel) hf
    obtain ⟨x, rfl⟩ := shp40 h2
    exact ⟨x, by have := VR.agg _ _ h1; simpa [Value.cells] using this⟩
  clear hA0 hval0
  refine ((actorComes_con x0 x1.1 x1.2).calls (.cons _ _ _ _ hl0 (.cons _ _ _ _ hl1 .nil))).mono fun e W' ⟨he, bel⟩ => ?_
  subst he
  exact ⟨_, rfl, _, _, _, [], _, [], hW', trodAll_mk1 (shut_bool Try.underlying4 _), (trodAll_cons_mk (Below.trod laidOut (by kernel_rfl) (of_decide_eq_true (by kernel_rfl)) k0 bel lt0) (trodAll_cons_mk (Below.trod laidOut (by kernel_rfl) (of_decide_eq_true (by kernel_rfl)) k1 bel lt1) trodAll_mk0)), rfl, bel.frame _, fun h => by cases h⟩

theorem actorComes_holds : Rows.ActorComesSaid :=
  OpenClaim.holds_of_wide 11 Try.f11 rfl rfl rfl rfl rfl rfl rfl ⟨rfl, rfl, rfl, rfl, rfl⟩ rfl rfl rfl rfl rfl (by kernel_rfl) Try.func11 (by kernel_rfl)
    (of_decide_eq_true (by kernel_rfl)) (by unfold Func.isWrapper; first | (rw [if_pos (by decide +kernel)]; kernel_rfl) | (rw [if_neg (by decide +kernel)]; exact ⟨rfl, rfl⟩))
    (fun os started H enc _ => lifted11 os started H enc)

end Go.Proofs.Ytpddiafjmkjpmaa
