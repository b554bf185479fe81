/- For every small model and configuration 'souffleurlaw22.FaultTells' returns true, as it does for all others; its arguments read behind the call as they read before. Conditions: none beyond the given statement's own. -/
import Derived.Test.YtkcgmnhojldoiaaGreatFAw6
import Derived.Test.YtkcgmnhojldoiaaGreatFRs
import Derived.Test.YtkcgmnhojldoiaaGreatGSized
import Derived.Test.YtkcgmnhojldoiaaGreatFClo
namespace Go.Proofs.YtkcgmnhojldoiaaGreat
open Go.ChangeShapes Go.WideShapes Go.ChangeAt Go.RowKit Go.Y
open Go.Proofs
set_option linter.unusedVariables false
set_option maxRecDepth 100000

theorem ZEs (n k : Nat) (h1 : n ≤ reachBytes) (h2 : k ≤ reachBytes) : n + k < 2 ^ 62 := by
 have := reachBytes_lt; omega

theorem lifted3 (os : Os) (started : os.Started) (H : Type) (enc : TypeId × Value → H) :
  ReturnsInHanded {} Tryz.checked os 3 .any (Rows.faultTellsSpec.pre6 enc Tryz.prog Tryz.f3 Rows.faultTellsRow.domain false) (Rows.faultTellsSpec.post enc Tryz.prog Tryz.f3 false true false false) := by
 refine returnsInHanded_of_change_sized (C := Tryz.checked) own started (by kernel_rfl) Tryz.func3
  (ChangeSpec.witness6 (enc := enc) (C := Tryz.checked) false ⟨#[], #[.agg #[.slice none 0 0, .slice none 0 0, .slice none 0 0, .int .i64 0, .int .i64 0], .agg #[.int .i64 0, .slice none 0 0, .string ⟨#[]⟩, .string ⟨#[]⟩, .string ⟨#[]⟩, .string ⟨#[]⟩, .string ⟨#[]⟩, .string ⟨#[]⟩, .string ⟨#[]⟩, .string ⟨#[]⟩, .string ⟨#[]⟩, .string ⟨#[]⟩, .slice none 0 0, .int .i64 0, .int .i64 0, .int .i64 0, .int .i64 0, .int .i64 0, .slice none 0 0, .slice none 0 0, .slice none 0 0]], []⟩ 8 (by kernel_rfl) (by kernel_rfl) (by kernel_rfl) (by kernel_rfl)) ?_
 intro W base args ds gs before hval0 hW hcnd hz _
 have hval : ∀ (j : Nat) t v, Tryz.f3.params[j]? = some t → args[j]? = some v → Value.okWide Tryz.prog W .any base t v := hval0
 have hW' := hW
 obtain ⟨p, q, hA0, hV, rfl, hfz, hnd⟩ := hW
 have hA : DataW.TrodAll enc Tryz.prog W 0 (fun _ => true) true Tryz.f3.params.toList args.toList ds p := hA0
 rw [Tryz.params3] at hA hval
 obtain ⟨v0, vs0, d0, ds0, p0, q0, hargs, rfl, rfl, h0, r0⟩ := trodAll_cons hA
 obtain ⟨v1, vs1, d1, ds1, p1, q1, rfl, rfl, rfl, h1, r1⟩ := trodAll_cons r0
 obtain ⟨rfl, rfl, rfl⟩ := trodAll_nil r1
 obtain rfl : args = #[v0, v1] := by cases args; simp_all
 obtain ⟨rfl, rfl⟩ := trodVars_none hV
 obtain ⟨z0, rfl, -⟩ := okWide_struct Tryz.underlying28 (hval 0 28 v0 rfl rfl)
 obtain ⟨z1, rfl, -⟩ := okWide_struct Tryz.underlying35 (hval 1 35 v1 rfl rfl)
 have k0 := h0
 have lt0 : ∀ x ∈ p0, x.block < W.heap.size := by obtain ⟨m, hm⟩ := k0; exact DataW.trod_lt m _ _ _ hm
 have k1 := h1
 have lt1 : ∀ x ∈ p1, x.block < W.heap.size := by obtain ⟨m, hm⟩ := k1; exact DataW.trod_lt m _ _ _ hm
 have hw1 : ∀ n ∈ d1.weights Tryz.prog 35, n ≤ reachBytes := fun n hn => by
  have := List.all_eq_true.1 hz _ (DataW.weights_mem_each (j := 1) (t := 35) (d := d1) (by kernel_rfl) rfl n hn)
  simpa using this
 obtain ⟨x0, hl0⟩ : ∃ x : Mdl, VR (inW W) (V.agg (ZAo x)) (.agg z0) := by
  obtain ⟨fuel, hf⟩ := h0
  obtain ⟨vs, h1, h2⟩ := Zb2 UK fuel 28 _ _ (Zrs fuel) hf
  obtain ⟨x, rfl⟩ := ZEk h2
  exact ⟨x, by have := VR.agg _ _ h1; simpa [Value.cells] using this⟩
 obtain ⟨x1, hl1, hb1⟩ : ∃ x : Cfg, VR (inW W) (V.agg (ZAr x)) (.agg z1) ∧ x.before.length + x.after.length < 2 ^ 62 := by
  obtain ⟨fuel, hf⟩ := h1
  obtain ⟨vs, h1, h2⟩ := Zb2 UK fuel 35 _ _ (Zrt fuel) hf
  obtain ⟨x, rfl⟩ := ZEr h2
  refine ⟨x, by have := VR.agg _ _ h1; simpa [Value.cells] using this, ZEs _ _ ?_ ?_⟩
  ·obtain ⟨u, g1, g2⟩ := Zo7 h1 (i := 18) (v := lst Go.Y.encI x.before) rfl
   obtain ⟨a, cap, rfl⟩ := Zj6 g2
   exact Zhh Tryz.underlying35 hf hw1 (i := 9) rfl Tryz.underlying31 (of_decide_eq_true (by kernel_rfl)) (by kernel_rfl) g1
  ·obtain ⟨u, g1, g2⟩ := Zo7 h1 (i := 19) (v := lst Go.Y.encI x.after) rfl
   obtain ⟨a, cap, rfl⟩ := Zj6 g2
   exact Zhh Tryz.underlying35 hf hw1 (i := 10) rfl Tryz.underlying31 (of_decide_eq_true (by kernel_rfl)) (by kernel_rfl) g1
 clear hA0 hval0
 refine ((law3 x0 x1 hb1).calls (fun p hp => nomatch hp) (.cons _ _ _ _ hl0 (.cons _ _ _ _ hl1 .nil))).mono fun e W' ⟨he, bel⟩ => ?_
 subst he
 exact ⟨_, rfl, _, _, _, [], _, [], hW', trodAll_mk1 (shut_bool Tryz.underlying4 _), (trodAll_cons_mk (Below.trod Zo4 (by kernel_rfl) (of_decide_eq_true (by kernel_rfl)) k0 bel lt0) (trodAll_cons_mk (Below.trod Zo4 (by kernel_rfl) (of_decide_eq_true (by kernel_rfl)) k1 bel lt1) trodAll_mk0)), rfl, bel.frame _, fun h => by cases h⟩

theorem faultTells_holds : Rows.FaultTellsSaid :=
 OpenClaim.holds_of_wide 3 Tryz.f3 rfl rfl rfl rfl rfl rfl rfl ⟨rfl, rfl, rfl, rfl, rfl⟩ rfl rfl rfl rfl rfl named3 Tryz.func3 closed3 inst3 wrap3
  (fun os started H enc _ => lifted3 os started H enc)

end Go.Proofs.YtkcgmnhojldoiaaGreat
