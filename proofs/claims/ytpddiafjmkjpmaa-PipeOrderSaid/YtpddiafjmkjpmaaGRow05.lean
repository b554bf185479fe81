/- For every number and list of strings 'souffleurlaw16.PipeOrder' returns true, and its arguments read behind the call as they read before. Conditions: none beyond the given statement's own. -/
import Derived.Test.YtpddiafjmkjpmaaGLaw5
import Derived.Test.YtpddiafjmkjpmaaGRows
import Derived.Test.YtpddiafjmkjpmaaRows
namespace Go.Proofs.Ytpddiafjmkjpmaa
open Go.ChangeShapes Go.WideShapes Go.ChangeAt Go.RowKit Go.Y
open Go.Proofs
set_option linter.unusedVariables false
set_option maxRecDepth 100000

theorem shp3 {n : Nat} {vs : List V} (h : Shp Try.Y n 3 vs) : ∃ x : Int, vs = [.i .i64 x] := by
  obtain ⟨x, rfl, _⟩ := shp_int (show Try.Y.kd 3 = some (.int .i64) by kernel_rfl) h
  exact ⟨x, rfl⟩
theorem served3 : ∀ n, servedB Try.Y n 3 = true
  | 0 => by kernel_rfl
  | n + 1 => by kernel_rfl
theorem shp9s {n : Nat} {vs : List V} (h : Shp Try.Y n 9 vs) : ∃ s : List UInt8, vs = encT s := by
  obtain ⟨s, h⟩ := shp9 h
  exact ⟨s, h⟩
theorem shp34 {n : Nat} {vs : List V} (h : Shp Try.Y n 34 vs) : ∃ l : List (List UInt8), vs = [lst encT l] := by
  obtain ⟨m, es, rfl, rfl, h, _⟩ := shp_slice (show Try.Y.kd 34 = some (.slice 9) by kernel_rfl) h
  obtain ⟨l, hl⟩ := list_of (f := encT) fun x hx => shp9s (h x hx)
  simp at hl
  subst hl
  exact ⟨l, by simp [lst, row]⟩
theorem served34 : ∀ n, servedB Try.Y n 34 = true
  | 0 => by kernel_rfl
  | 1 => by kernel_rfl
  | n + 2 => by kernel_rfl

theorem lifted5 (os : Os) (started : os.Started) (H : Type) (enc : TypeId × Value → H) :
    ReturnsInHanded {} Try.checked os 5 .any (Rows.pipeOrderSpec.pre6 enc Try.prog Try.f5 Rows.pipeOrderRow.domain false) (Rows.pipeOrderSpec.post enc Try.prog Try.f5 false true false false) := by
  refine returnsInHanded_of_change (C := Try.checked) own started (by kernel_rfl) Try.func5
    (ChangeSpec.witness6 (enc := enc) (C := Try.checked) false ⟨#[], #[.int .i64 0, .slice none 0 0], []⟩ 8 (by kernel_rfl) (by kernel_rfl) (by kernel_rfl) (by kernel_rfl)) ?_
  intro W base args ds gs before hval0 hW hcnd _
  have hval : ∀ (j : Nat) t v, Try.f5.params[j]? = some t → args[j]? = some v → Value.okWide Try.prog W .any base t v := hval0
  have hW' := hW
  obtain ⟨p, q, hA0, hV, rfl, hfz, hnd⟩ := hW
  have hA : DataW.TrodAll enc Try.prog W 0 (fun _ => true) true Try.f5.params.toList args.toList ds p := hA0
  rw [Try.params5] at hA hval
  obtain ⟨v0, vs0, d0, ds0, p0, q0, hargs, rfl, rfl, h0, r0⟩ := trodAll_cons hA
  obtain ⟨v1, vs1, d1, ds1, p1, q1, rfl, rfl, rfl, h1, r1⟩ := trodAll_cons r0
  obtain ⟨rfl, rfl, rfl⟩ := trodAll_nil r1
  obtain rfl : args = #[v0, v1] := by cases args; simp_all
  obtain ⟨rfl, rfl⟩ := trodVars_none hV
  obtain ⟨z0, rfl⟩ := okWide_int Try.underlying3 (hval 0 3 v0 rfl rfl)
  obtain ⟨a1, len1, cap1, rfl⟩ := okWide_slice Try.underlying34 (hval 1 34 v1 rfl rfl)
  have k0 := h0
  have lt0 : ∀ x ∈ p0, x.block < W.heap.size := by obtain ⟨m, hm⟩ := k0; exact DataW.trod_lt m _ _ _ hm
  have k1 := h1
  have lt1 : ∀ x ∈ p1, x.block < W.heap.size := by obtain ⟨m, hm⟩ := k1; exact DataW.trod_lt m _ _ _ hm
  obtain ⟨x0, hl0⟩ : ∃ x : Int, VR (inW W) (V.i .i64 x) (.int .i64 z0) := by
    obtain ⟨fuel, hf⟩ := h0
    obtain ⟨vs, h1, h2⟩ := trod_vr Try.Yok fuel 3 _ _ (served3 fuel) hf
    obtain ⟨x, rfl⟩ := shp3 h2
    cases h1 with | cons _ _ _ _ h3 h4 => exact ⟨x, h3⟩
  obtain ⟨x1, hl1⟩ : ∃ x : List (List UInt8), VR (inW W) (lst encT x) (.slice a1 len1 cap1) := by
    obtain ⟨fuel, hf⟩ := h1
    obtain ⟨vs, h1, h2⟩ := trod_vr Try.Yok fuel 34 _ _ (served34 fuel) hf
    obtain ⟨x, rfl⟩ := shp34 h2
    cases h1 with | cons _ _ _ _ h3 h4 => exact ⟨x, h3⟩
  clear hA0 hval0
  refine ((pipeOrder_con x0 x1).calls (.cons _ _ _ _ hl0 (.cons _ _ _ _ hl1 .nil))).mono fun e W' ⟨he, bel⟩ => ?_
  subst he
  exact ⟨_, rfl, _, _, _, [], _, [], hW', trodAll_mk1 (shut_bool Try.underlying4 _), (trodAll_cons_mk (Below.trod laidOut (by kernel_rfl) (of_decide_eq_true (by kernel_rfl)) k0 bel lt0) (trodAll_cons_mk (Below.trod laidOut (by kernel_rfl) (of_decide_eq_true (by kernel_rfl)) k1 bel lt1) trodAll_mk0)), rfl, bel.frame _, fun h => by cases h⟩

theorem pipeOrder_holds : Rows.PipeOrderSaid :=
  OpenClaim.holds_of_wide 5 Try.f5 rfl rfl rfl rfl rfl rfl rfl ⟨rfl, rfl, rfl, rfl, rfl⟩ rfl rfl rfl rfl rfl (by kernel_rfl) Try.func5 (by kernel_rfl)
    (of_decide_eq_true (by kernel_rfl)) (by unfold Func.isWrapper; first | (rw [if_pos (by decide +kernel)]; kernel_rfl) | (rw [if_neg (by decide +kernel)]; exact ⟨rfl, rfl⟩))
    (fun os started H enc _ => lifted5 os started H enc)

end Go.Proofs.Ytpddiafjmkjpmaa
