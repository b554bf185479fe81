/- For every side, peer and two bytes 'souffleurlaw18.ActorShort' returns true, and its arguments read behind the call as they read before. Conditions: none beyond the given statement's own. -/
import Derived.Test.YtpddiafjmkjpmaaGD8
import Derived.Test.YtpddiafjmkjpmaaRows
namespace Go.Proofs.Ytpddiafjmkjpmaa
open Go.ChangeShapes Go.WideShapes Go.ChangeAt Go.RowKit Go.Y
open Go.Proofs
set_option linter.unusedVariables false
set_option maxRecDepth 100000

theorem lifted10 (os : Os) (started : os.Started) (H : Type) (enc : TypeId × Value → H) :
    ReturnsInHanded {} Try.checked os 10 .any (Rows.actorShortSpec.pre6 enc Try.prog Try.f10 Rows.actorShortRow.domain false) (Rows.actorShortSpec.post enc Try.prog Try.f10 false true false false) := by
  refine returnsInHanded_of_change (C := Try.checked) own started (by kernel_rfl) Try.func10
    (ChangeSpec.witness6 (enc := enc) (C := Try.checked) false ⟨#[], #[.agg #[.bool false, .bool false, .bool false, .int .i64 0, .int .i64 0, .string .empty, .slice none 0 0, .string .empty, .slice none 0 0, .string .empty, .string .empty], .agg #[.int .i64 0, .slice none 0 0], .agg #[.int .u8 0, .int .u8 0]], []⟩ 8 (by kernel_rfl) (by kernel_rfl) (by kernel_rfl) (by kernel_rfl)) ?_
  intro W base args ds gs before hval0 hW hcnd _
  have hval : ∀ (j : Nat) t v, Try.f10.params[j]? = some t → args[j]? = some v → Value.okWide Try.prog W .any base t v := hval0
  have hW' := hW
  obtain ⟨p, q, hA0, hV, rfl, hfz, hnd⟩ := hW
  have hA : DataW.TrodAll enc Try.prog W 0 (fun _ => true) true Try.f10.params.toList args.toList ds p := hA0
  rw [Try.params10] at hA hval
  obtain ⟨v0, vs0, d0, ds0, p0, q0, hargs, rfl, rfl, h0, r0⟩ := trodAll_cons hA
  obtain ⟨v1, vs1, d1, ds1, p1, q1, rfl, rfl, rfl, h1, r1⟩ := trodAll_cons r0
  obtain ⟨v2, vs2, d2, ds2, p2, q2, rfl, rfl, rfl, h2, r2⟩ := trodAll_cons r1
  obtain ⟨rfl, rfl, rfl⟩ := trodAll_nil r2
  obtain rfl : args = #[v0, v1, v2] := by cases args; simp_all
  obtain ⟨rfl, rfl⟩ := trodVars_none hV
  obtain ⟨z0, rfl, -⟩ := okWide_struct Try.underlying43 (hval 0 43 v0 rfl rfl)
  obtain ⟨z1, rfl, -⟩ := okWide_struct Try.underlying40 (hval 1 40 v1 rfl rfl)
  obtain ⟨z2, rfl, -⟩ := okWide_array Try.underlying67 (hval 2 67 v2 rfl rfl)
  have k0 := h0
  have lt0 : ∀ x ∈ p0, x.block < W.heap.size := by obtain ⟨m, hm⟩ := k0; exact DataW.trod_lt m _ _ _ hm
  have k1 := h1
  have lt1 : ∀ x ∈ p1, x.block < W.heap.size := by obtain ⟨m, hm⟩ := k1; exact DataW.trod_lt m _ _ _ hm
  have k2 := h2
  have lt2 : ∀ x ∈ p2, x.block < W.heap.size := by obtain ⟨m, hm⟩ := k2; exact DataW.trod_lt m _ _ _ hm
  obtain ⟨x0, hl0⟩ : ∃ x : Side, VR (inW W) (V.agg (sideC x)) (.agg z0) := by
    obtain ⟨fuel, hf⟩ := h0
    obtain ⟨vs, h1, h2⟩ := trod_vr Try.Yok fuel 43 _ _ (served43 fuel) hf
    obtain ⟨x, rfl⟩ := shp43 h2
    exact ⟨x, by have := VR.agg _ _ h1; simpa [Value.cells] using this⟩
  obtain ⟨x1, hl1⟩ : ∃ x : Int × List Plc, VR (inW W) (V.agg (peerC x.1 x.2)) (.agg z1) := by
    obtain ⟨fuel, hf⟩ := h1
    obtain ⟨vs, h1, h2⟩ := trod_vr Try.Yok fuel 40 _ _ (served40 fuel) hf
    obtain ⟨x, rfl⟩ := shp40 h2
    exact ⟨x, by have := VR.agg _ _ h1; simpa [Value.cells] using this⟩
  obtain ⟨x2, hl2, hw2⟩ : ∃ x : Int × Int, VR (inW W) (V.agg [V.i .u8 x.1, V.i .u8 x.2]) (.agg z2) ∧ (0 ≤ x.1 ∧ x.1 ≤ 255) ∧ 0 ≤ x.2 ∧ x.2 ≤ 255 := by
    obtain ⟨fuel, hf⟩ := h2
    obtain ⟨vs, h1, h2⟩ := trod_vr Try.Yok fuel 67 _ _ (served67 fuel) hf
    obtain ⟨x, rfl, hm⟩ := shp67 h2
    exact ⟨x, by have := VR.agg _ _ h1; simpa [Value.cells] using this, hm⟩
  clear hA0 hval0
  refine ((actorShort_con x0 x1.1 x1.2 x2.1 x2.2 hw2.1.1 hw2.1.2).calls (.cons _ _ _ _ hl0 (.cons _ _ _ _ hl1 (.cons _ _ _ _ hl2 .nil)))).mono fun e W' ⟨he, bel⟩ => ?_
  subst he
  exact ⟨_, rfl, _, _, _, [], _, [], hW', trodAll_mk1 (shut_bool Try.underlying4 _), (trodAll_cons_mk (Below.trod laidOut (by kernel_rfl) (of_decide_eq_true (by kernel_rfl)) k0 bel lt0) (trodAll_cons_mk (Below.trod laidOut (by kernel_rfl) (of_decide_eq_true (by kernel_rfl)) k1 bel lt1) (trodAll_cons_mk (Below.trod laidOut (by kernel_rfl) (of_decide_eq_true (by kernel_rfl)) k2 bel lt2) trodAll_mk0))), rfl, bel.frame _, fun h => by cases h⟩

theorem actorShort_holds : Rows.ActorShortSaid :=
  OpenClaim.holds_of_wide 10 Try.f10 rfl rfl rfl rfl rfl rfl rfl ⟨rfl, rfl, rfl, rfl, rfl⟩ rfl rfl rfl rfl rfl (by kernel_rfl) Try.func10 (by kernel_rfl)
    (of_decide_eq_true (by kernel_rfl)) (by unfold Func.isWrapper; first | (rw [if_pos (by decide +kernel)]; kernel_rfl) | (rw [if_neg (by decide +kernel)]; exact ⟨rfl, rfl⟩))
    (fun os started H enc _ => lifted10 os started H enc)

end Go.Proofs.Ytpddiafjmkjpmaa
