/- For every list of pieces 'souffleurlaw03.GlobBack' returns true, and its argument reads behind the call as it read before. Conditions: none beyond the given statement's own. -/
import Derived.Test.YtpddiafjmkjpmaaGLaw6
import Derived.Test.YtpddiafjmkjpmaaGRows
import Derived.Test.YtpddiafjmkjpmaaRows
namespace Go.Proofs.Ytpddiafjmkjpmaa
open Go.ChangeShapes Go.WideShapes Go.ChangeAt Go.RowKit Go.Y
open Go.Proofs
set_option linter.unusedVariables false
set_option maxRecDepth 100000

theorem list_ofP {α : Type} {f : α → List V} {P : α → Prop} {es : List (List V)} (h : ∀ x ∈ es, ∃ a, x = f a ∧ P a) : ∃ l : List α, es.map id = l.map f ∧ ∀ a ∈ l, P a := by
  induction es with
  | nil => exact ⟨[], rfl, by simp⟩
  | cons x es ih =>
    obtain ⟨a, rfl, ha⟩ := h x (by simp)
    obtain ⟨l, hl, hp⟩ := ih fun y hy => h y (by simp [hy])
    refine ⟨a :: l, by simp at hl ⊢; exact hl, fun b hb => ?_⟩
    rcases List.mem_cons.1 hb with rfl | hb
    · exact ha
    · exact hp b hb
theorem shp82w {n : Nat} {vs : List V} (h : Shp Try.Y n 82 vs) : ∃ x : Span, vs = encS x ∧ wfSpan x := by
  obtain ⟨m, rfl, h⟩ := shp_struct (show Try.Y.kd 82 = some (.struct [(0, 5), (1, 5)]) by kernel_rfl) h
  obtain ⟨a, b, rfl, ha, c, d, rfl, hc, rfl⟩ := h
  obtain ⟨k, rfl, hk⟩ := shp5 ha
  obtain ⟨p, rfl, hp⟩ := shp5 hc
  exact ⟨⟨k, p⟩, rfl, hk, hp⟩
theorem shp75w {n : Nat} {vs : List V} (h : Shp Try.Y n 75 vs) : ∃ l : List Span, vs = [lst encS l] ∧ ∀ x ∈ l, wfSpan x := by
  obtain ⟨m, es, rfl, rfl, h, _⟩ := shp_slice (show Try.Y.kd 75 = some (.slice 82) by kernel_rfl) h
  obtain ⟨l, hl, hp⟩ := list_ofP (f := encS) (P := wfSpan) fun x hx => shp82w (h x hx)
  simp at hl
  subst hl
  exact ⟨l, by simp [lst, row], hp⟩
theorem shp77w {n : Nat} {vs : List V} (h : Shp Try.Y n 77 vs) : ∃ x : Glob, vs = encG x ∧ wfGlob x := by
  obtain ⟨m, rfl, h⟩ := shp_struct (show Try.Y.kd 77 = some (.struct [(0, 3), (1, 5), (2, 75)]) by kernel_rfl) h
  obtain ⟨a, b, rfl, ha, c, d, rfl, hc, e, f, rfl, he, rfl⟩ := h
  obtain ⟨k, rfl, _⟩ := shp_int (show Try.Y.kd 3 = some (.int .i64) by kernel_rfl) ha
  obtain ⟨p, rfl, hp⟩ := shp5 hc
  obtain ⟨l, rfl, hl⟩ := shp75w he
  exact ⟨⟨k, p, l⟩, rfl, hp, hl⟩
theorem shp23w {n : Nat} {vs : List V} (h : Shp Try.Y n 23 vs) : ∃ l : List Glob, vs = [lst encG l] ∧ ∀ g ∈ l, wfGlob g := by
  obtain ⟨m, es, rfl, rfl, h, _⟩ := shp_slice (show Try.Y.kd 23 = some (.slice 77) by kernel_rfl) h
  obtain ⟨l, hl, hp⟩ := list_ofP (f := encG) (P := wfGlob) fun x hx => shp77w (h x hx)
  simp at hl
  subst hl
  exact ⟨l, by simp [lst, row], hp⟩

theorem lifted6 (os : Os) (started : os.Started) (H : Type) (enc : TypeId × Value → H) :
    ReturnsInHanded {} Try.checked os 6 .any (Rows.globBackSpec.pre6 enc Try.prog Try.f6 Rows.globBackRow.domain false) (Rows.globBackSpec.post enc Try.prog Try.f6 false true false false) := by
  refine returnsInHanded_of_change (C := Try.checked) own started (by kernel_rfl) Try.func6
    (ChangeSpec.witness6 (enc := enc) (C := Try.checked) false ⟨#[], #[.slice none 0 0], []⟩ 8 (by kernel_rfl) (by kernel_rfl) (by kernel_rfl) (by kernel_rfl)) ?_
  intro W base args ds gs before hval0 hW hcnd _
  have hval : ∀ (j : Nat) t v, Try.f6.params[j]? = some t → args[j]? = some v → Value.okWide Try.prog W .any base t v := hval0
  have hW' := hW
  obtain ⟨p, q, hA0, hV, rfl, hfz, hnd⟩ := hW
  have hA : DataW.TrodAll enc Try.prog W 0 (fun _ => true) true Try.f6.params.toList args.toList ds p := hA0
  rw [Try.params6] at hA hval
  obtain ⟨v0, vs0, d0, ds0, p0, q0, hargs, rfl, rfl, h0, r0⟩ := trodAll_cons hA
  obtain ⟨rfl, rfl, rfl⟩ := trodAll_nil r0
  obtain rfl : args = #[v0] := by cases args; simp_all
  obtain ⟨rfl, rfl⟩ := trodVars_none hV
  obtain ⟨a0, len0, cap0, rfl⟩ := okWide_slice Try.underlying23 (hval 0 23 v0 rfl rfl)
  have k0 := h0
  have lt0 : ∀ x ∈ p0, x.block < W.heap.size := by obtain ⟨m, hm⟩ := k0; exact DataW.trod_lt m _ _ _ hm
  obtain ⟨x0, hl0, hw0⟩ : ∃ x : List Glob, VR (inW W) (lst encG x) (.slice a0 len0 cap0) ∧ ∀ g ∈ x, wfGlob g := by
    obtain ⟨fuel, hf⟩ := h0
    obtain ⟨vs, h1, h2⟩ := trod_vr Try.Yok fuel 23 _ _ (served23 fuel) hf
    obtain ⟨x, rfl, hm⟩ := shp23w h2
    cases h1 with | cons _ _ _ _ h3 h4 => exact ⟨x, h3, hm⟩
  clear hA0 hval0
  refine ((globBack_con x0 hw0).calls (.cons _ _ _ _ hl0 .nil)).mono fun e W' ⟨he, bel⟩ => ?_
  subst he
  exact ⟨_, rfl, _, _, _, [], _, [], hW', trodAll_mk1 (shut_bool Try.underlying4 _), (trodAll_cons_mk (Below.trod laidOut (by kernel_rfl) (of_decide_eq_true (by kernel_rfl)) k0 bel lt0) trodAll_mk0), rfl, bel.frame _, fun h => by cases h⟩

theorem globBack_holds : Rows.GlobBackSaid :=
  OpenClaim.holds_of_wide 6 Try.f6 rfl rfl rfl rfl rfl rfl rfl ⟨rfl, rfl, rfl, rfl, rfl⟩ rfl rfl rfl rfl rfl (by kernel_rfl) Try.func6 (by kernel_rfl)
    (of_decide_eq_true (by kernel_rfl)) (by unfold Func.isWrapper; first | (rw [if_pos (by decide +kernel)]; kernel_rfl) | (rw [if_neg (by decide +kernel)]; exact ⟨rfl, rfl⟩))
    (fun os started H enc _ => lifted6 os started H enc)

end Go.Proofs.Ytpddiafjmkjpmaa
