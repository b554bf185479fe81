import Derived.Test.YtpddiafjmkjpmaaYTryP
import Derived.Test.YtpddiafjmkjpmaaYFun
import Derived.Test.YtpddiafjmkjpmaaYFrz
namespace Go.Y
open Go.Proofs
set_option maxRecDepth 100000
set_option maxHeartbeats 0
theorem cl54_0 (c : Option Nat) (k : Nat) (h : Heap) (K : Out → Nat → List V → Heap → Prop) : (codeP Try.Y (Try.Y.loc 54) 100 ((flat (bodyOf Try.f54))) ⟨(V.sl none 0 c k :: List.replicate 7 .undef), [], h⟩ (VQ [2] K)) =
  (K Out.ret 8 [V.sl none 0 (some 0) 0] h) := by kernel_rfl
theorem cl54_1 (cs : List V) (n : Nat) (c : Option Nat) (h : Heap) (K : Out → Nat → List V → Heap → Prop) : (codeP Try.Y (Try.Y.loc 54) 100 ((flat (bodyOf Try.f54))) ⟨(V.ts cs n c :: List.replicate 7 .undef), [], h⟩ (VQ [2] K)) =
  ((n = 0 → K Out.ret 8 [V.sl none 0 (some 0) 0] h) ∧
  ((∃ (a : Option (Nat × Nat)),
      ∃ (l : Nat),
        ∃ (c_1 : Option Nat),
          ∃ (k : Nat),
            ∃ (h_1 : Heap),
              appendH Try.Y h 41 41 (V.ts [] 0 (some 0)) (V.ts cs n c) = some (V.sl a l c_1 k, h_1) ∧
                K Out.ret 8 [V.sl a l c_1 k] h_1) ∨
    appendH Try.Y h 41 41 (V.ts [] 0 (some 0)) (V.ts cs n c) = some (V.ts [] 0 (some 0), h) ∧
      K Out.ret 8 [V.ts [] 0 (some 0)] h)) := by kernel_rfl
theorem cl79_0 (c : Option Nat) (k : Nat) (h : Heap) (K : Out → Nat → List V → Heap → Prop) : (codeP Try.Y (Try.Y.loc 79) 100 ((flat (bodyOf Try.f79))) ⟨(V.sl none 0 c k :: List.replicate 7 .undef), [], h⟩ (VQ [2] K)) =
  (K Out.ret 8 [V.sl none 0 (some 0) 0] h) := by kernel_rfl
theorem cl79_1 (cs : List V) (n : Nat) (c : Option Nat) (h : Heap) (K : Out → Nat → List V → Heap → Prop) : (codeP Try.Y (Try.Y.loc 79) 100 ((flat (bodyOf Try.f79))) ⟨(V.ts cs n c :: List.replicate 7 .undef), [], h⟩ (VQ [2] K)) =
  ((n = 0 → K Out.ret 8 [V.sl none 0 (some 0) 0] h) ∧
  ((∃ (a : Option (Nat × Nat)),
      ∃ (l : Nat),
        ∃ (c_1 : Option Nat),
          ∃ (k : Nat),
            ∃ (h_1 : Heap),
              appendH Try.Y h 34 34 (V.ts [] 0 (some 0)) (V.ts cs n c) = some (V.sl a l c_1 k, h_1) ∧
                K Out.ret 8 [V.sl a l c_1 k] h_1) ∨
    appendH Try.Y h 34 34 (V.ts [] 0 (some 0)) (V.ts cs n c) = some (V.ts [] 0 (some 0), h) ∧
      K Out.ret 8 [V.ts [] 0 (some 0)] h)) := by kernel_rfl
end Go.Y

/- What is known ahead: slices.Clone. -/
namespace Go.Y
open Go.Proofs
set_option maxRecDepth 100000

theorem clone54 {args : List V} {h : Heap} {v : V} {h' : Heap} (hv : cloneV 1 args h = some (v, h')) : Con Try.Y 54 args h fun v' k' => v' = v ∧ k' = h' :=
  clone_con Try.Yok (fn := Try.f54) (by kernel_rfl) (by kernel_rfl) (st := 41) (e := 3) (te := ⟨1, 8, .int .i64, [.i .i64 0]⟩) (k := 1) (by kernel_rfl) (by kernel_rfl) rfl (by decide) (by decide)
    (fun c k h K hk => all_rule Try.Yok (loc := Try.Y.loc 54) 100 [2] (by rw [show (⟨[V.sl none 0 c k] ++ List.replicate (Try.f54.ntmps - 1) .undef, [], h⟩ : St) = ⟨V.sl none 0 c k :: List.replicate 7 .undef, [], h⟩ by rfl, cl54_0]; exact hk))
    (fun cs n c h K hk => all_rule Try.Yok (loc := Try.Y.loc 54) 100 [2] (by rw [show (⟨[V.ts cs n c] ++ List.replicate (Try.f54.ntmps - 1) .undef, [], h⟩ : St) = ⟨V.ts cs n c :: List.replicate 7 .undef, [], h⟩ by rfl, cl54_1]; exact hk))
    (by kernel_rfl) hv
theorem clone79 {args : List V} {h : Heap} {v : V} {h' : Heap} (hv : cloneV 1 args h = some (v, h')) : Con Try.Y 79 args h fun v' k' => v' = v ∧ k' = h' :=
  clone_con Try.Yok (fn := Try.f79) (by kernel_rfl) (by kernel_rfl) (st := 34) (e := 9) (te := ⟨1, 16, .str, [.s []]⟩) (k := 1) (by kernel_rfl) (by kernel_rfl) rfl (by decide) (by decide)
    (fun c k h K hk => all_rule Try.Yok (loc := Try.Y.loc 79) 100 [2] (by rw [show (⟨[V.sl none 0 c k] ++ List.replicate (Try.f79.ntmps - 1) .undef, [], h⟩ : St) = ⟨V.sl none 0 c k :: List.replicate 7 .undef, [], h⟩ by rfl, cl79_0]; exact hk))
    (fun cs n c h K hk => all_rule Try.Yok (loc := Try.Y.loc 79) 100 [2] (by rw [show (⟨[V.ts cs n c] ++ List.replicate (Try.f79.ntmps - 1) .undef, [], h⟩ : St) = ⟨V.ts cs n c :: List.replicate 7 .undef, [], h⟩ by rfl, cl79_1]; exact hk))
    (by kernel_rfl) hv

def Try.kn (f : FuncId) (args : List V) (h : Heap) : Option (V × Heap) := match f with
  | 54 | 79 => cloneV 1 args h
  | _ => none

theorem Try.knok : KOK Try.Y Try.kn := by
  intro f args h v h' hv
  unfold Try.kn at hv
  split at hv
  · exact ⟨clone54 hv, clone_tame hv⟩
  · exact ⟨clone79 hv, clone_tame hv⟩
  · cases hv

theorem awake03 : PCon Try.Y 12 [] (· = .b true) := callN_ok Try.Yok Try.knok (n := 200) (by kernel_rfl) rfl
theorem awake16 : PCon Try.Y 19 [] (· = .b true) := callN_ok Try.Yok Try.knok (n := 200) (by kernel_rfl) rfl
-- theorem awake17 : PCon Try.Y 30 [] (· = .b true) := callN_ok Try.Yok Try.knok (n := 200) (by kernel_rfl) rfl
theorem awake18 : PCon Try.Y 39 [] (· = .b true) := callN_ok Try.Yok Try.knok (n := 200) (by kernel_rfl) rfl
end Go.Y
