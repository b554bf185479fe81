/- For every model and operation 'souffleurlaw33.BoundTells' returns true, and its arguments read behind the call as they read before. Conditions: none beyond the given statement's own. -/
import Derived.Test.YtlnpmefmmiacaaaGreatHAw7
import Derived.Test.YtlnpmefmmiacaaaGreatRows
namespace Go.Proofs.YtlnpmefmmiacaaaGreat
open Go.ChangeShapes Go.WideShapes Go.ChangeAt Go.RowKit Go.Y
open Go.Proofs
set_option linter.unusedVariables false
set_option maxRecDepth 100000

theorem lifted3 (os : Os) (started : os.Started) (H : Type) (enc : TypeId × Value → H) :
    ReturnsInHanded {} Tryz.checked os 3 .any (Rows.boundTellsSpec.pre6 enc Tryz.prog Tryz.f3 Rows.boundTellsRow.domain false) (Rows.boundTellsSpec.post enc Tryz.prog Tryz.f3 false true false false) := by
  refine returnsInHanded_of_change (C := Tryz.checked) own started (by kernel_rfl) Tryz.func3
    (ChangeSpec.witness6 (enc := enc) (C := Tryz.checked) false ⟨#[], #[.agg #[.slice none 0 0, .slice none 0 0, .slice none 0 0, .int .i64 0, .int .i64 0], .int .i64 0], []⟩ 8 (by kernel_rfl) (by kernel_rfl) (by kernel_rfl) (by kernel_rfl)) ?_
  intro W base args ds gs before hval0 hW hcnd _
  have hval : ∀ (j : Nat) t v, Tryz.f3.params[j]? = some t → args[j]? = some v → Value.okWide Tryz.prog W .any base t v := hval0
  have hW' := hW
  obtain ⟨p, q, hA0, hV, rfl, hfz, hnd⟩ := hW
  have hA : DataW.TrodAll enc Tryz.prog W 0 (fun _ => true) true Tryz.f3.params.toList args.toList ds p := hA0
  rw [Tryz.params3] at hA hval
  obtain ⟨v0, vs0, d0, ds0, p0, q0, hargs, rfl, rfl, h0, r0⟩ := trodAll_cons hA
  obtain ⟨v1, vs1, d1, ds1, p1, q1, rfl, rfl, rfl, h1, r1⟩ := trodAll_cons r0
  obtain ⟨rfl, rfl, rfl⟩ := trodAll_nil r1
  obtain rfl : args = #[v0, v1] := by cases args; simp_all
  obtain ⟨rfl, rfl⟩ := trodVars_none hV
  obtain ⟨z0, rfl, -⟩ := okWide_struct Tryz.underlying28 (hval 0 28 v0 rfl rfl)
  obtain ⟨z1, rfl⟩ := okWide_int Tryz.underlying3 (hval 1 3 v1 rfl rfl)
  have k0 := h0
  have lt0 : ∀ x ∈ p0, x.block < W.heap.size := by obtain ⟨m, hm⟩ := k0; exact DataW.trod_lt m _ _ _ hm
  have k1 := h1
  have lt1 : ∀ x ∈ p1, x.block < W.heap.size := by obtain ⟨m, hm⟩ := k1; exact DataW.trod_lt m _ _ _ hm
  obtain ⟨x0, hl0⟩ : ∃ x : Mod, VR (inW W) (V.agg (encMo x)) (.agg z0) := by
    obtain ⟨fuel, hf⟩ := h0
    obtain ⟨vs, h1, h2⟩ := trod_vr Tryz.Yok fuel 28 _ _ (served28 fuel) hf
    obtain ⟨x, rfl⟩ := shp28 h2
    exact ⟨x, by have := VR.agg _ _ h1; simpa [Value.cells] using this⟩
  obtain ⟨x1, hl1⟩ : ∃ x : Int, VR (inW W) (V.i .i64 x) (.int .i64 z1) := by
    obtain ⟨fuel, hf⟩ := h1
    obtain ⟨vs, h1, h2⟩ := trod_vr Tryz.Yok fuel 3 _ _ (served3 fuel) hf
    obtain ⟨x, rfl⟩ := shp3 h2
    cases h1 with | cons _ _ _ _ h3 h4 => exact ⟨x, h3⟩
  clear hA0 hval0
  refine ((law3_con x0.ins x0.ws x0.ps x0.lat x0.mat x1).calls (.cons _ _ _ _ hl0 (.cons _ _ _ _ hl1 .nil))).mono fun e W' ⟨he, bel⟩ => ?_
  subst he
  exact ⟨_, rfl, _, _, _, [], _, [], hW', trodAll_mk1 (shut_bool Tryz.underlying4 _), (trodAll_cons_mk (Below.trod laidOut (by kernel_rfl) (of_decide_eq_true (by kernel_rfl)) k0 bel lt0) (trodAll_cons_mk (Below.trod laidOut (by kernel_rfl) (of_decide_eq_true (by kernel_rfl)) k1 bel lt1) trodAll_mk0)), rfl, bel.frame _, fun h => by cases h⟩

theorem boundTells_holds : Rows.BoundTellsSaid :=
  OpenClaim.holds_of_wide 3 Tryz.f3 rfl rfl rfl rfl rfl rfl rfl ⟨rfl, rfl, rfl, rfl, rfl⟩ rfl rfl rfl rfl rfl (by kernel_rfl) Tryz.func3 (by kernel_rfl)
    (of_decide_eq_true (by kernel_rfl)) (by unfold Func.isWrapper; first | (rw [if_pos (by decide +kernel)]; kernel_rfl) | (rw [if_neg (by decide +kernel)]; exact ⟨rfl, rfl⟩))
    (fun os started H enc _ => lifted3 os started H enc)

end Go.Proofs.YtlnpmefmmiacaaaGreat
