import Derived.Test.YtpddiafjmkjpmaaYTryP
import Derived.Test.YtpddiafjmkjpmaaYFun
namespace Go.Y
open Go.Proofs
set_option maxRecDepth 100000
set_option maxHeartbeats 0
theorem cl54_0 (c : Option Nat) (k : Nat) (h : Heap) (K : Out → Nat → List V → Heap → Prop) : (codeP Try.Y (Try.Y.loc 54) 100 ((flat (bodyOf Try.f54))) ⟨(V.sl none 0 c k :: List.replicate 7 .undef), [], h⟩ (VQ [2] K)) =
  (K Out.ret 8 [V.sl none 0 (some 0) 0] h) := by kernel_rfl
theorem cl54_1 (cs : List V) (n : Nat) (c : Option Nat) (h : Heap) (K : Out → Nat → List V → Heap → Prop) : (codeP Try.Y (Try.Y.loc 54) 100 ((flat (bodyOf Try.f54))) ⟨(V.ts cs n c :: List.replicate 7 .undef), [], h⟩ (VQ [2] K)) =
  ((n = 0 → K Out.ret 8 [V.sl none 0 (some 0) 0] h) ∧
  ((∃ (a : Option (Nat × Nat)),
      ∃ (l : Nat),
        ∃ (c_1 : Option Nat),
          ∃ (k : Nat),
            ∃ (h_1 : Heap),
              appendH Try.Y h 41 41 (V.ts [] 0 (some 0)) (V.ts cs n c) = some (V.sl a l c_1 k, h_1) ∧
                K Out.ret 8 [V.sl a l c_1 k] h_1) ∨
    appendH Try.Y h 41 41 (V.ts [] 0 (some 0)) (V.ts cs n c) = some (V.ts [] 0 (some 0), h) ∧
      K Out.ret 8 [V.ts [] 0 (some 0)] h)) := by kernel_rfl
theorem cl79_0 (c : Option Nat) (k : Nat) (h : Heap) (K : Out → Nat → List V → Heap → Prop) : (codeP Try.Y (Try.Y.loc 79) 100 ((flat (bodyOf Try.f79))) ⟨(V.sl none 0 c k :: List.replicate 7 .undef), [], h⟩ (VQ [2] K)) =
  (K Out.ret 8 [V.sl none 0 (some 0) 0] h) := by kernel_rfl
theorem cl79_1 (cs : List V) (n : Nat) (c : Option Nat) (h : Heap) (K : Out → Nat → List V → Heap → Prop) : (codeP Try.Y (Try.Y.loc 79) 100 ((flat (bodyOf Try.f79))) ⟨(V.ts cs n c :: List.replicate 7 .undef), [], h⟩ (VQ [2] K)) =
  ((n = 0 → K Out.ret 8 [V.sl none 0 (some 0) 0] h) ∧
  ((∃ (a : Option (Nat × Nat)),
      ∃ (l : Nat),
        ∃ (c_1 : Option Nat),
          ∃ (k : Nat),
            ∃ (h_1 : Heap),
              appendH Try.Y h 34 34 (V.ts [] 0 (some 0)) (V.ts cs n c) = some (V.sl a l c_1 k, h_1) ∧
                K Out.ret 8 [V.sl a l c_1 k] h_1) ∨
    appendH Try.Y h 34 34 (V.ts [] 0 (some 0)) (V.ts cs n c) = some (V.ts [] 0 (some 0), h) ∧
      K Out.ret 8 [V.ts [] 0 (some 0)] h)) := by kernel_rfl
end Go.Y
