/- What is known ahead: slices.Clone. -/
import Derived.Test.YtpddiafjmkjpmaaGClone
import Derived.Test.YtpddiafjmkjpmaaYFrz
namespace Go.Y
open Go.Proofs
set_option maxRecDepth 100000

theorem clone54 {args : List V} {h : Heap} {v : V} {h' : Heap} (hv : cloneV 1 args h = some (v, h')) : Con Try.Y 54 args h fun v' k' => v' = v ∧ k' = h' :=
  clone_con Try.Yok (fn := Try.f54) (by kernel_rfl) (by kernel_rfl) (st := 41) (e := 3) (te := ⟨1, 8, .int .i64, [.i .i64 0]⟩) (k := 1) (by kernel_rfl) (by kernel_rfl) rfl (by decide) (by decide)
    (fun c k h K hk => all_rule Try.Yok (loc := Try.Y.loc 54) 100 [2] (by rw [show (⟨[V.sl none 0 c k] ++ List.replicate (Try.f54.ntmps - 1) .undef, [], h⟩ : St) = ⟨V.sl none 0 c k :: List.replicate 7 .undef, [], h⟩ by rfl, cl54_0]; exact hk))
    (fun cs n c h K hk => all_rule Try.Yok (loc := Try.Y.loc 54) 100 [2] (by rw [show (⟨[V.ts cs n c] ++ List.replicate (Try.f54.ntmps - 1) .undef, [], h⟩ : St) = ⟨V.ts cs n c :: List.replicate 7 .undef, [], h⟩ by rfl, cl54_1]; exact hk))
    (by kernel_rfl) hv
theorem clone79 {args : List V} {h : Heap} {v : V} {h' : Heap} (hv : cloneV 1 args h = some (v, h')) : Con Try.Y 79 args h fun v' k' => v' = v ∧ k' = h' :=
  clone_con Try.Yok (fn := Try.f79) (by kernel_rfl) (by kernel_rfl) (st := 34) (e := 9) (te := ⟨1, 16, .str, [.s []]⟩) (k := 1) (by kernel_rfl) (by kernel_rfl) rfl (by decide) (by decide)
    (fun c k h K hk => all_rule Try.Yok (loc := Try.Y.loc 79) 100 [2] (by rw [show (⟨[V.sl none 0 c k] ++ List.replicate (Try.f79.ntmps - 1) .undef, [], h⟩ : St) = ⟨V.sl none 0 c k :: List.replicate 7 .undef, [], h⟩ by rfl, cl79_0]; exact hk))
    (fun cs n c h K hk => all_rule Try.Yok (loc := Try.Y.loc 79) 100 [2] (by rw [show (⟨[V.ts cs n c] ++ List.replicate (Try.f79.ntmps - 1) .undef, [], h⟩ : St) = ⟨V.ts cs n c :: List.replicate 7 .undef, [], h⟩ by rfl, cl79_1]; exact hk))
    (by kernel_rfl) hv

def Try.kn (f : FuncId) (args : List V) (h : Heap) : Option (V × Heap) := match f with
  | 54 | 79 => cloneV 1 args h
  | _ => none

theorem Try.knok : KOK Try.Y Try.kn := by
  intro f args h v h' hv
  unfold Try.kn at hv
  split at hv
  · exact ⟨clone54 hv, clone_tame hv⟩
  · exact ⟨clone79 hv, clone_tame hv⟩
  · cases hv

theorem awake03 : PCon Try.Y 12 [] (· = .b true) := callN_ok Try.Yok Try.knok (n := 200) (by kernel_rfl) rfl
theorem awake16 : PCon Try.Y 19 [] (· = .b true) := callN_ok Try.Yok Try.knok (n := 200) (by kernel_rfl) rfl
-- theorem awake17 : PCon Try.Y 30 [] (· = .b true) := callN_ok Try.Yok Try.knok (n := 200) (by kernel_rfl) rfl
theorem awake18 : PCon Try.Y 39 [] (· = .b true) := callN_ok Try.Yok Try.knok (n := 200) (by kernel_rfl) rfl
end Go.Y
