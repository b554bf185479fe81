/- Shapes of configurations that come in to the law. -/
import Derived.Test.YtfnpgefoikffdaaDoorGWkD
import Derived.Test.YtfnpgefoikffdaaDoorGTell14
import Derived.ProofKit
import Derived.LaidMore
import Derived.OpenShut
import Derived.Stop.Joined
namespace Go.Proofs.YtfnpgefoikffdaaDoor
open Go.Y Go.RowKit
open Go.Proofs
set_option maxRecDepth 100000

theorem shp9 {n : Nat} {vs : List V} (h : Shp Tryd.Y n 9 vs) : ∃ s : List UInt8, vs = [.s s] := by
  obtain ⟨s, h, _⟩ := shp_str (by kernel_rfl) h
  exact ⟨s, h⟩
theorem shp4 {n : Nat} {vs : List V} (h : Shp Tryd.Y n 4 vs) : ∃ x : Bool, vs = [.b x] := shp_bool (show Tryd.Y.kd 4 = some .bool by kernel_rfl) h
theorem shp51 {n : Nat} {vs : List V} (h : Shp Tryd.Y n 51 vs) : ∃ l : List (List UInt8), vs = [lst encT l] := by
  obtain ⟨m, es, rfl, rfl, h, _⟩ := shp_slice (show Tryd.Y.kd 51 = some (.slice 9) by kernel_rfl) h
  obtain ⟨l, hl⟩ := list_of (f := encT) fun x hx => shp9 (h x hx)
  simp at hl
  subst hl
  exact ⟨l, by simp [lst, row]⟩
theorem shp74 {n : Nat} {vs : List V} (h : Shp Tryd.Y n 74 vs) : ∃ x : List UInt8 × List UInt8, vs = encVr x := by
  obtain ⟨m, rfl, h⟩ := shp_struct (show Tryd.Y.kd 74 = some (.struct [(0, 9), (1, 9)]) by kernel_rfl) h
  obtain ⟨a0, r0, rfl, h0, a1, r1, rfl, h1, rfl⟩ := h
  obtain ⟨b0, rfl⟩ := shp9 h0
  obtain ⟨b1, rfl⟩ := shp9 h1
  exact ⟨(b0, b1), rfl⟩
theorem shp33 {n : Nat} {vs : List V} (h : Shp Tryd.Y n 33 vs) : ∃ l : List (List UInt8 × List UInt8), vs = [lst encVr l] := by
  obtain ⟨m, es, rfl, rfl, h, _⟩ := shp_slice (show Tryd.Y.kd 33 = some (.slice 74) by kernel_rfl) h
  obtain ⟨l, hl⟩ := list_of (f := encVr) fun x hx => shp74 (h x hx)
  simp at hl
  subst hl
  exact ⟨l, by simp [lst, row]⟩
theorem shp34 {n : Nat} {vs : List V} (h : Shp Tryd.Y n 34 vs) : ∃ c0 c1 c2 c3 c4 c5 c6 c7 c8 c9 : List UInt8, vs = [.s c0, .s c1, .s c2, .s c3, .s c4, .s c5, .s c6, .s c7, .s c8, .s c9] := by
  cases n with
  | zero => exact h.elim
  | succ n =>
    have hk : Tryd.Y.kd 34 = some (.arr 10 9) := by kernel_rfl
    obtain ⟨es, rfl, h4, hes⟩ := (by simpa [Shp, hk] using h : ∃ es : List (List V), vs = es.flatten ∧ es.length = 10 ∧ ∀ x ∈ es, Shp Tryd.Y n 9 x)
    match es, h4, hes with
    | [a0, a1, a2, a3, a4, a5, a6, a7, a8, a9], _, hes =>
      obtain ⟨x0, rfl⟩ := shp9 (hes a0 (by simp))
      obtain ⟨x1, rfl⟩ := shp9 (hes a1 (by simp))
      obtain ⟨x2, rfl⟩ := shp9 (hes a2 (by simp))
      obtain ⟨x3, rfl⟩ := shp9 (hes a3 (by simp))
      obtain ⟨x4, rfl⟩ := shp9 (hes a4 (by simp))
      obtain ⟨x5, rfl⟩ := shp9 (hes a5 (by simp))
      obtain ⟨x6, rfl⟩ := shp9 (hes a6 (by simp))
      obtain ⟨x7, rfl⟩ := shp9 (hes a7 (by simp))
      obtain ⟨x8, rfl⟩ := shp9 (hes a8 (by simp))
      obtain ⟨x9, rfl⟩ := shp9 (hes a9 (by simp))
      exact ⟨x0, x1, x2, x3, x4, x5, x6, x7, x8, x9, rfl⟩
theorem shp53 {n : Nat} {vs : List V} (h : Shp Tryd.Y n 53 vs) : ∃ x : {x : Side // wfSd x}, vs = sideC x.1 := by
  obtain ⟨m, rfl, h⟩ := shp_struct (show Tryd.Y.kd 53 = some (.struct [(0, 4), (1, 4), (2, 4), (3, 3), (4, 3), (5, 9), (6, 51), (7, 9), (8, 26), (9, 9), (10, 9)]) by kernel_rfl) h
  obtain ⟨a0, r0, rfl, h0, a1, r1, rfl, h1, a2, r2, rfl, h2, a3, r3, rfl, h3, a4, r4, rfl, h4, a5, r5, rfl, h5, a6, r6, rfl, h6, a7, r7, rfl, h7, a8, r8, rfl, h8, a9, r9, rfl, h9, a10, r10, rfl, h10, rfl⟩ := h
  obtain ⟨b0, rfl⟩ := shp4 h0
  obtain ⟨b1, rfl⟩ := shp4 h1
  obtain ⟨b2, rfl⟩ := shp4 h2
  obtain ⟨b3, rfl⟩ := shp3 h3
  obtain ⟨b4, rfl⟩ := shp3 h4
  obtain ⟨b5, rfl⟩ := shp9 h5
  obtain ⟨b6, rfl⟩ := shp51 h6
  obtain ⟨b7, rfl⟩ := shp9 h7
  obtain ⟨b8, rfl, _⟩ := shp26 h8
  obtain ⟨b9, rfl⟩ := shp9 h9
  obtain ⟨b10, rfl⟩ := shp9 h10
  exact ⟨⟨⟨b0, b1, b2, b3.1, b4.1, b5, b6, b7, b8, b9, b10⟩, b3.2, b4.2⟩, rfl⟩
theorem shp35 {n : Nat} {vs : List V} (h : Shp Tryd.Y n 35 vs) : ∃ l : List Side, vs = [lst sideC l] ∧ ∀ x ∈ l, wfSd x := by
  obtain ⟨m, es, rfl, rfl, h, _⟩ := shp_slice (show Tryd.Y.kd 35 = some (.slice 53) by kernel_rfl) h
  obtain ⟨l, hl⟩ := list_of (f := fun x : {x : Side // wfSd x} => sideC x.1) fun x hx => shp53 (h x hx)
  simp at hl
  subst hl
  refine ⟨l.unattach, by simp [lst, row], fun x hx => ?_⟩
  obtain ⟨h, _⟩ := List.mem_unattach.1 hx
  exact h
theorem shp37 {n : Nat} {vs : List V} (h : Shp Tryd.Y n 37 vs) : ∃ c : Cfg, vs = cfgC c ∧ wfCfg c := by
  obtain ⟨m, rfl, h⟩ := shp_struct (show Tryd.Y.kd 37 = some (.struct [(0, 3), (1, 33), (2, 34), (12, 26), (13, 3), (14, 22), (15, 3), (16, 3), (17, 3), (18, 26), (19, 26), (20, 35)]) by kernel_rfl) h
  obtain ⟨a0, r0, rfl, h0, a1, r1, rfl, h1, a2, r2, rfl, h2, a3, r3, rfl, h3, a4, r4, rfl, h4, a5, r5, rfl, h5, a6, r6, rfl, h6, a7, r7, rfl, h7, a8, r8, rfl, h8, a9, r9, rfl, h9, a10, r10, rfl, h10, a11, r11, rfl, h11, rfl⟩ := h
  obtain ⟨b0, rfl⟩ := shp3 h0
  obtain ⟨b1, rfl⟩ := shp33 h1
  obtain ⟨c0, c1, c2, c3, c4, c5, c6, c7, c8, c9, rfl⟩ := shp34 h2
  obtain ⟨b3, rfl, _⟩ := shp26 h3
  obtain ⟨b4, rfl⟩ := shp3 h4
  obtain ⟨b5, rfl⟩ := shp22 h5
  obtain ⟨b6, rfl⟩ := shp3 h6
  obtain ⟨b7, rfl⟩ := shp3 h7
  obtain ⟨b8, rfl⟩ := shp3 h8
  obtain ⟨b9, rfl, _⟩ := shp26 h9
  obtain ⟨b10, rfl, _⟩ := shp26 h10
  obtain ⟨b11, rfl, p11⟩ := shp35 h11
  exact ⟨⟨b0.1, b1, c0, c1, c2, c3, c4, c5, c6, c7, c8, c9, b3, b4.1, b5.1, b6.1, b7.1, b8.1, b9, b10, b11⟩, rfl, ⟨b0.2, b5.2, p11⟩⟩
theorem served37 : ∀ n, servedB Tryd.Y n 37 = true
  | 0 => by kernel_rfl
  | 1 => by kernel_rfl
  | 2 => by kernel_rfl
  | 3 => by kernel_rfl
  | 4 => by kernel_rfl
  | 5 => by kernel_rfl
  | 6 => by kernel_rfl
  | n + 7 => by kernel_rfl
theorem served9 : ∀ n, servedB Tryd.Y n 9 = true
  | 0 => by kernel_rfl
  | n + 1 => by kernel_rfl
end Go.Proofs.YtfnpgefoikffdaaDoor

/- For every configuration and string 'souffleurlaw32.TellConfigs' returns true, and its arguments read behind the call as they read before. Conditions: none beyond the given statement's own (three package variables start as the program's text lays them: the card ties them). -/
namespace Go.Proofs.YtfnpgefoikffdaaDoor
open Go.ChangeShapes Go.WideShapes Go.ChangeAt Go.RowKit Go.Y
open Go.Proofs
set_option linter.unusedVariables false
set_option maxRecDepth 100000

theorem door_met4 (os : Os) (args : Array Value) : laidMetH Tryd.prog Rows.tellConfigsRow.laid ((World.doorLaid Tryd.prog 400 os).forCall (fun _ _ => 0) ⟨#[], args, []⟩).memory :=
  laidMetH_of_parts3 (fuel := 8) (laidMet_of_run' 8 (by kernel_rfl) (by kernel_rfl)) (by kernel_rfl) (by kernel_rfl)

theorem lifted4 (os : Os) (started : os.Started) (H : Type) (enc : TypeId × Value → H) :
    ReturnsInHanded {} Tryd.checked os 4 .any (fun w args => (Rows.tellConfigsSpec.pre enc Tryd.prog Tryd.f4 [] false w args ∧ laidMetH Tryd.prog Rows.tellConfigsRow.laid w) ∧ sizedMet enc Tryd.prog Tryd.f4 (OpenSpec.ofChange Rows.tellConfigsSpec) false w args)
      (Rows.tellConfigsSpec.post enc Tryd.prog Tryd.f4 false true false false) := by
  refine returnsInHanded_of_change_and (C := Tryd.checked) (X := fun w _ => laidMetH Tryd.prog Rows.tellConfigsRow.laid w) (fun _ _ _ hh h => h.of_heap hh) own started (by kernel_rfl) Tryd.func4
    (ChangeSpec.witness_shaped (enc := enc) (C := Tryd.checked) (os := os) (X := fun w _ => laidMetH Tryd.prog Rows.tellConfigsRow.laid w) false (World.doorLaid Tryd.prog 400 os) #[.agg #[.int .i64 0, .slice none 0 0, .string ⟨#[]⟩, .string ⟨#[]⟩, .string ⟨#[]⟩, .string ⟨#[]⟩, .string ⟨#[]⟩, .string ⟨#[]⟩, .string ⟨#[]⟩, .string ⟨#[]⟩, .string ⟨#[]⟩, .string ⟨#[]⟩, .slice none 0 0, .int .i64 0, .int .i64 0, .int .i64 0, .int .i64 0, .int .i64 0, .slice none 0 0, .slice none 0 0, .slice none 0 0], .string ⟨#[]⟩] 8 rfl (World.shaped_of_RefB (by kernel_rfl) (by kernel_rfl)) (by kernel_rfl) (by kernel_rfl) (by kernel_rfl) (door_met4 os _)) ?_
  intro W base args ds gs before hval0 hW hcnd _ hlaid _
  have hval : ∀ (j : Nat) t v, Tryd.f4.params[j]? = some t → args[j]? = some v → Value.okWide Tryd.prog W .any base t v := hval0
  have hW' := hW
  obtain ⟨p, q, hA0, hV, rfl, hfz, hnd⟩ := hW
  have hA : DataW.TrodAll enc Tryd.prog W 0 (fun _ => true) true Tryd.f4.params.toList args.toList ds p := hA0
  rw [Tryd.params4] at hA hval
  obtain ⟨v0, vs0, d0, ds0, p0, q0, hargs, rfl, rfl, h0, r0⟩ := trodAll_cons hA
  obtain ⟨v1, vs1, d1, ds1, p1, q1, rfl, rfl, rfl, h1, r1⟩ := trodAll_cons r0
  obtain ⟨rfl, rfl, rfl⟩ := trodAll_nil r1
  obtain rfl : args = #[v0, v1] := by cases args; simp_all
  obtain ⟨rfl, rfl⟩ := trodVars_none hV
  obtain ⟨z0, rfl, -⟩ := okWide_struct Tryd.underlying37 (hval 0 37 v0 rfl rfl)
  obtain ⟨z1, rfl⟩ := okWide_string Tryd.underlying9 (hval 1 9 v1 rfl rfl)
  have k0 := h0
  have lt0 : ∀ x ∈ p0, x.block < W.heap.size := by obtain ⟨m, hm⟩ := k0; exact DataW.trod_lt m _ _ _ hm
  have k1 := h1
  have lt1 : ∀ x ∈ p1, x.block < W.heap.size := by obtain ⟨m, hm⟩ := k1; exact DataW.trod_lt m _ _ _ hm
  obtain ⟨x0, hl0, hw0⟩ : ∃ x : Cfg, VR (inW W) (V.agg (cfgC x)) (.agg z0) ∧ wfCfg x := by
    obtain ⟨fuel, hf⟩ := h0
    obtain ⟨vs, h1, h2⟩ := trod_vr Tryd.Yok fuel 37 _ _ (served37 fuel) hf
    obtain ⟨x, rfl, hx⟩ := shp37 h2
    exact ⟨x, by have := VR.agg _ _ h1; simpa [Value.cells] using this, hx⟩
  obtain ⟨x1, hl1⟩ : ∃ x : List UInt8, VR (inW W) (V.s x) (.string z1) := by
    obtain ⟨fuel, hf⟩ := h1
    obtain ⟨vs, h1, h2⟩ := trod_vr Tryd.Yok fuel 9 _ _ (served9 fuel) hf
    obtain ⟨x, rfl⟩ := shp9 h2
    cases h1 with | cons _ _ _ _ h3 h4 => exact ⟨x, h3⟩
  clear hA0 hval0
  refine ((law4 hw0 x1).calls (tabbed hlaid) (.cons _ _ _ _ hl0 (.cons _ _ _ _ hl1 .nil))).mono fun e W' ⟨he, bel⟩ => ?_
  subst he
  exact ⟨_, rfl, _, _, _, [], _, [], hW', trodAll_mk1 (shut_bool Tryd.underlying4 _), (trodAll_cons_mk (Below.trod laidOut (by kernel_rfl) (of_decide_eq_true (by kernel_rfl)) k0 bel lt0) (trodAll_cons_mk (Below.trod laidOut (by kernel_rfl) (of_decide_eq_true (by kernel_rfl)) k1 bel lt1) trodAll_mk0)), rfl, bel.frame _, fun h => by cases h⟩

theorem tellConfigs_row_holds : Rows.TellConfigsSaid :=
  OpenClaim.holds_of_wide 4 Tryd.f4 rfl rfl rfl rfl rfl rfl rfl ⟨rfl, rfl, rfl, rfl, rfl⟩ rfl rfl rfl rfl rfl (by kernel_rfl) Tryd.func4 (by kernel_rfl)
    (of_decide_eq_true (by kernel_rfl)) (by unfold Func.isWrapper; first | (rw [if_pos (by decide +kernel)]; kernel_rfl) | (rw [if_neg (by decide +kernel)]; exact ⟨rfl, rfl⟩))
    (fun os started H enc _ => lifted4 os started H enc)
end Go.Proofs.YtfnpgefoikffdaaDoor
