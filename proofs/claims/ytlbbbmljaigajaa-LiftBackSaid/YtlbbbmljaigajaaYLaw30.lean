import Derived.Test.YtlbbbmljaigajaaYTryP
import Derived.Test.YtlbbbmljaigajaaYFun
namespace Go.Y
open Go.Proofs
set_option maxRecDepth 100000
set_option maxHeartbeats 0
theorem any_0 (cs : List V) (n : Nat) (h : Heap) (K : Out → Nat → List V → Heap → Prop) : (codeP Try.Y (Try.Y.loc 3) 100 ((flat (bodyOf Try.f3))) ⟨(V.ts cs n none :: List.replicate 60 .undef), [], h⟩ (VQ [2] K)) =
  (∃ (b : Bool),
  (PCon Try.Y 7 [] fun (v : V) => v = V.b b) ∧
    If (!b) (K Out.ret 61 [V.b false] h)
      (If (ltI 60 (↑n : Int)) (K Out.ret 61 [V.b true] h)
        (∃ (cs_1 : List V),
          ∃ (l : Nat),
            ∃ (c : Option Nat),
              ∃ (b : Bool),
                (PCon Try.Y 8 [V.ts cs n none] fun (v : V) => v = V.tup [V.ts cs_1 l c, V.b b]) ∧
                  ∃ (cs_2 : List V),
                    ∃ (l_1 : Nat),
                      ∃ (c_1 : Option Nat),
                        ∃ (b_1 : Bool),
                          (PCon Try.Y 9 [V.ts cs n none] fun (v : V) => v = V.tup [V.ts cs_2 l_1 c_1, V.b b_1]) ∧
                            ∃ (cs_3 : List V),
                              ∃ (l_2 : Nat),
                                ∃ (c_2 : Option Nat),
                                  ∃ (b_2 : Bool),
                                    (PCon Try.Y 10 [V.ts cs n none] fun (v : V) =>
                                        v = V.tup [V.ts cs_3 l_2 c_2, V.b b_2]) ∧
                                      ∃ (cs_4 : List V),
                                        ∃ (l_3 : Nat),
                                          ∃ (c_3 : Option Nat),
                                            ∃ (b_3 : Bool),
                                              (PCon Try.Y 11 [V.ts cs n none] fun (v : V) =>
                                                  v = V.tup [V.ts cs_4 l_3 c_3, V.b b_3]) ∧
                                                ∃ (b_4 : Bool),
                                                  (PCon Try.Y 12 [V.ts cs_1 l c, V.ts cs_2 l_1 c_1] fun (v : V) =>
                                                      v = V.b b_4) ∧
                                                    If b_4
                                                      (If (b == b_1)
                                                        (∃ (b : Bool),
                                                          (PCon Try.Y 12 [V.ts cs_3 l_2 c_2, V.ts cs_4 l_3 c_3]
                                                              fun (v : V) => v = V.b b) ∧
                                                            If b
                                                              (If (b_2 == b_3)
                                                                (∃ (n_1 : Int),
                                                                  (PCon Try.Y 13 [V.ts cs n none] fun (v : V) =>
                                                                      v = V.i IntKind.i64 n_1) ∧
                                                                    K Out.ret 61 [V.b (n_1 == (↑l_3 : Int))] h)
                                                                (K Out.ret 61 [V.b false] h))
                                                              (K Out.ret 61 [V.b false] h))
                                                        (K Out.ret 61 [V.b false] h))
                                                      (K Out.ret 61 [V.b false] h)))) := by kernel_rfl
theorem back_0 (cs : List V) (n : Nat) (h : Heap) (K : Out → Nat → List V → Heap → Prop) : (codeP Try.Y (Try.Y.loc 4) 100 ((flat (bodyOf Try.f4))) ⟨(V.ts cs n none :: List.replicate 52 .undef), [], h⟩ (VQ [2] K)) =
  (∃ (b : Bool),
  (PCon Try.Y 7 [] fun (v : V) => v = V.b b) ∧
    If (!b) (K Out.ret 53 [V.b false] h)
      (If (ltI 60 (↑n : Int)) (K Out.ret 53 [V.b true] h)
        (∃ (cs_1 : List V),
          ∃ (l : Nat),
            ∃ (c : Option Nat),
              ∃ (b : Bool),
                (PCon Try.Y 10 [V.ts cs n none] fun (v : V) => v = V.tup [V.ts cs_1 l c, V.b b]) ∧
                  If b
                    (∃ (cs_2 : List V),
                      ∃ (l_1 : Nat),
                        ∃ (c_1 : Option Nat),
                          ∃ (b : Bool),
                            (PCon Try.Y 8 [V.ts cs_1 l c] fun (v : V) => v = V.tup [V.ts cs_2 l_1 c_1, V.b b]) ∧
                              If (!b) (K Out.ret 53 [V.b false] h)
                                (∃ (b : Bool),
                                  (PCon Try.Y 12 [V.ts cs_2 l_1 c_1, V.ts cs n none] fun (v : V) => v = V.b b) ∧
                                    If (!b) (K Out.ret 53 [V.b false] h)
                                      (∃ (cs_3 : List V),
                                        ∃ (l : Nat),
                                          ∃ (c : Option Nat),
                                            ∃ (b : Bool),
                                              (PCon Try.Y 8 [V.ts cs n none] fun (v : V) =>
                                                  v = V.tup [V.ts cs_3 l c, V.b b]) ∧
                                                If (!b) (K Out.ret 53 [V.b true] h)
                                                  (∃ (cs_4 : List V),
                                                    ∃ (l_2 : Nat),
                                                      ∃ (c_2 : Option Nat),
                                                        ∃ (b : Bool),
                                                          (PCon Try.Y 10 [V.ts cs_3 l c] fun (v : V) =>
                                                              v = V.tup [V.ts cs_4 l_2 c_2, V.b b]) ∧
                                                            If b
                                                              (∃ (b : Bool),
                                                                (PCon Try.Y 12 [V.ts cs_4 l_2 c_2, V.ts cs n none]
                                                                    fun (v : V) => v = V.b b) ∧
                                                                  K Out.ret 53 [V.b b] h)
                                                              (K Out.ret 53 [V.b false] h)))))
                    (∃ (cs_2 : List V),
                      ∃ (l : Nat),
                        ∃ (c : Option Nat),
                          ∃ (b : Bool),
                            (PCon Try.Y 8 [V.ts cs n none] fun (v : V) => v = V.tup [V.ts cs_2 l c, V.b b]) ∧
                              If (!b) (K Out.ret 53 [V.b true] h)
                                (∃ (cs_3 : List V),
                                  ∃ (l_1 : Nat),
                                    ∃ (c_1 : Option Nat),
                                      ∃ (b : Bool),
                                        (PCon Try.Y 10 [V.ts cs_2 l c] fun (v : V) =>
                                            v = V.tup [V.ts cs_3 l_1 c_1, V.b b]) ∧
                                          If b
                                            (∃ (b : Bool),
                                              (PCon Try.Y 12 [V.ts cs_3 l_1 c_1, V.ts cs n none] fun (v : V) =>
                                                  v = V.b b) ∧
                                                K Out.ret 53 [V.b b] h)
                                            (K Out.ret 53 [V.b false] h)))))) := by kernel_rfl
end Go.Y
