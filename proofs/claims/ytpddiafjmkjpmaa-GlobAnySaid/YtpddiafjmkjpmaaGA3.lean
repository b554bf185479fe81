/- What the pieces of functions come to: printed by program. -/
import Derived.Test.YtpddiafjmkjpmaaYTryP
import Derived.Test.YtpddiafjmkjpmaaYFun
namespace Go.Y
open Go.Proofs
set_option maxRecDepth 100000
set_option maxHeartbeats 0
theorem f3_0 (s0 : List UInt8) (h : Heap) (K : Out → Nat → List V → Heap → Prop) : (codeP Try.Y (Try.Y.loc 3) 100 ((flat (bodyOf Try.f3))) ⟨(V.s s0 :: List.replicate 47 .undef), [], h⟩ (VQ [2] K)) =
  (∃ (b : Bool),
  (PCon Try.Y 12 [] fun (v : V) => v = V.b b) ∧
    If (!b) (K Out.ret 48 [V.b false] h)
      (If (ltI 250 (↑s0.length : Int)) (K Out.ret 48 [V.b true] h)
        (∃ (cs : List V),
          ∃ (l : Nat),
            ∃ (c : Option Nat),
              ∃ (n : Int),
                ∃ (n_1 : Int),
                  (PCon Try.Y 13 [V.s s0] fun (v : V) =>
                      v = V.tup [V.ts cs l c, V.i IntKind.i64 n, V.i IntKind.i64 n_1]) ∧
                    ∃ (cs_1 : List V),
                      ∃ (l_1 : Nat),
                        ∃ (c_1 : Option Nat),
                          ∃ (n_2 : Int),
                            ∃ (n_3 : Int),
                              (PCon Try.Y 14 [V.s s0] fun (v : V) =>
                                  v = V.tup [V.ts cs_1 l_1 c_1, V.i IntKind.i64 n_2, V.i IntKind.i64 n_3]) ∧
                                ∃ (b : Bool),
                                  (PCon Try.Y 15 [V.ts cs l c, V.ts cs_1 l_1 c_1] fun (v : V) => v = V.b b) ∧
                                    If b
                                      (If (n == n_2)
                                        (If (n_1 == n_3)
                                          (If (n_1 == 0) (K Out.ret 48 [V.b true] h)
                                            (K Out.ret 48 [V.b ((↑l : Int) == 0)] h))
                                          (K Out.ret 48 [V.b false] h))
                                        (K Out.ret 48 [V.b false] h))
                                      (K Out.ret 48 [V.b false] h)))) := by kernel_rfl
end Go.Y
