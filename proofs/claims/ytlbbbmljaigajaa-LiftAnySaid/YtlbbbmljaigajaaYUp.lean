import Derived.Test.YtlbbbmljaigajaaYTryP
import Derived.Test.YtlbbbmljaigajaaYList
namespace Go.Y
open Go.Proofs
set_option maxRecDepth 100000
set_option maxHeartbeats 0
/-- The body of the loop that comes first. -/
def body1 : List Code → List Code
  | .block _ (.loop b) :: _ => flat b
  | _ => []
theorem up_0 (cs : List V) (len : Nat) (c : Option Nat) (h : Heap) (K : Out → Nat → List V → Heap → Prop) : (codeP Try.Y (Try.Y.loc 8) 100 (pre (flat (bodyOf Try.f8))) ⟨V.ts cs len c :: List.replicate 84 .undef, [], h⟩ (VQ [0, 2, 3, 4, 5, 8, 9, 10] K)) =
  (K Out.normal 85
  [V.ts cs len c, V.sl none 0 (some 0) 0, V.b false, V.sl none 0 (some 0) 0, V.i IntKind.i64 0, V.ts cs len c,
    V.i IntKind.i64 ↑len, V.i IntKind.i64 0]
  h) := by kernel_rfl
theorem up_1 (cs : List V) (len : Nat) (c : Option Nat) (ua : Option (Nat × Nat)) (ul : Nat) (uc : Option Nat) (uk : Nat) (n i : Int) (h : Heap) (K : Out → Nat → List V → Heap → Prop) : (codeP Try.Y (Try.Y.loc 8) 100 (body1 (post (flat (bodyOf Try.f8)))) ⟨mk 85 ([0, 2, 3, 4, 5, 8, 9, 10].zip [.ts cs len c, .sl none 0 (some 0) 0, .b false, .sl ua ul uc uk, .i .i64 n, .ts cs len c, .i .i64 len, .i .i64 i]), [], h⟩ (VQ [0, 2, 3, 4, 5, 8, 9, 10] K)) =
  (If (ltI i ↑len)
  ((0 ≤ i ∧ i < ↑len) ∧
    ∃ (n_1 : Int),
      ∃ (n_2 : Int),
        ∃ (n_3 : Int),
          takeX 3 (List.drop (i.toNat * 3) cs) = some [V.i IntKind.i64 n_1, V.i IntKind.i64 n_2, V.i IntKind.i64 n_3] ∧
            If (n_1 == 7)
              (If (n_3 == 0)
                (If (ltI 0 n)
                  ((0 ≤ IntKind.i64.wrap (i - 1) ∧ IntKind.i64.wrap (i - 1) < ↑len) ∧
                    ∃ (n_4 : Int),
                      ∃ (n_5 : Int),
                        ∃ (n_6 : Int),
                          takeX 3 (List.drop ((IntKind.i64.wrap (i - 1)).toNat * 3) cs) =
                              some [V.i IntKind.i64 n_4, V.i IntKind.i64 n_5, V.i IntKind.i64 n_6] ∧
                            If (!(n_4 == n_1 && (n_5 == n_2 && (n_6 == n_3 && true))))
                              (K Out.ret 85
                                [V.ts cs len c, V.sl none 0 (some 0) 0, V.b false, V.sl ua ul uc uk, V.i IntKind.i64 n,
                                  V.ts cs len c, V.i IntKind.i64 ↑len, V.i IntKind.i64 i]
                                h)
                              (K Out.normal 85
                                [V.ts cs len c, V.sl none 0 (some 0) 0, V.b false, V.sl ua ul uc uk,
                                  V.i IntKind.i64 (IntKind.i64.wrap (n + 1)), V.ts cs len c, V.i IntKind.i64 ↑len,
                                  V.i IntKind.i64 (IntKind.i64.wrap (i + 1))]
                                h))
                  (K Out.normal 85
                    [V.ts cs len c, V.sl none 0 (some 0) 0, V.b false, V.sl ua ul uc uk,
                      V.i IntKind.i64 (IntKind.i64.wrap (n + 1)), V.ts cs len c, V.i IntKind.i64 ↑len,
                      V.i IntKind.i64 (IntKind.i64.wrap (i + 1))]
                    h))
                (If (n_1 == 7)
                  (K Out.ret 85
                    [V.ts cs len c, V.sl none 0 (some 0) 0, V.b false, V.sl ua ul uc uk, V.i IntKind.i64 n,
                      V.ts cs len c, V.i IntKind.i64 ↑len, V.i IntKind.i64 i]
                    h)
                  (If (n_1 == 5)
                    (If (n_3 != 0)
                      (K Out.ret 85
                        [V.ts cs len c, V.sl none 0 (some 0) 0, V.b false, V.sl ua ul uc uk, V.i IntKind.i64 n,
                          V.ts cs len c, V.i IntKind.i64 ↑len, V.i IntKind.i64 i]
                        h)
                      (If (!(n_1 == 8) == ltI 0 n)
                        (K Out.ret 85
                          [V.ts cs len c, V.sl none 0 (some 0) 0, V.b false, V.sl ua ul uc uk, V.i IntKind.i64 n,
                            V.ts cs len c, V.i IntKind.i64 ↑len, V.i IntKind.i64 i]
                          h)
                        (If (n_1 == 8)
                          (If (n_3 != 0)
                            (K Out.ret 85
                              [V.ts cs len c, V.sl none 0 (some 0) 0, V.b false, V.sl ua ul uc uk, V.i IntKind.i64 n,
                                V.ts cs len c, V.i IntKind.i64 ↑len, V.i IntKind.i64 i]
                              h)
                            ((0 ≤ IntKind.i64.wrap (i - 1) ∧ IntKind.i64.wrap (i - 1) < ↑len) ∧
                              ∃ (n_4 : Int),
                                takeX 1 (List.drop 1 (List.drop ((IntKind.i64.wrap (i - 1)).toNat * 3) cs)) =
                                    some [V.i IntKind.i64 n_4] ∧
                                  If (n_4 != n_2)
                                    (K Out.ret 85
                                      [V.ts cs len c, V.sl none 0 (some 0) 0, V.b false, V.sl ua ul uc uk,
                                        V.i IntKind.i64 n, V.ts cs len c, V.i IntKind.i64 ↑len, V.i IntKind.i64 i]
                                      h)
                                    (∃ (a : Option (Nat × Nat)),
                                      ∃ (l : Nat),
                                        ∃ (c_1 : Option Nat),
                                          ∃ (k : Nat),
                                            ∃ (h_1 : Heap),
                                              appendH Try.Y h 22 22 (V.sl ua ul uc uk)
                                                    (V.ts [V.i IntKind.i64 5, V.i IntKind.i64 n_2, V.i IntKind.i64 n] 1
                                                      (some 1)) =
                                                  some (V.sl a l c_1 k, h_1) ∧
                                                K Out.normal 85
                                                  [V.ts cs len c, V.sl none 0 (some 0) 0, V.b false, V.sl a l c_1 k,
                                                    V.i IntKind.i64 0, V.ts cs len c, V.i IntKind.i64 ↑len,
                                                    V.i IntKind.i64 (IntKind.i64.wrap (i + 1))]
                                                  h_1)))
                          (∃ (a : Option (Nat × Nat)),
                            ∃ (l : Nat),
                              ∃ (c_1 : Option Nat),
                                ∃ (k : Nat),
                                  ∃ (h_1 : Heap),
                                    appendH Try.Y h 22 22 (V.sl ua ul uc uk)
                                          (V.ts [V.i IntKind.i64 n_1, V.i IntKind.i64 n_2, V.i IntKind.i64 n_3] 1
                                            (some 1)) =
                                        some (V.sl a l c_1 k, h_1) ∧
                                      K Out.normal 85
                                        [V.ts cs len c, V.sl none 0 (some 0) 0, V.b false, V.sl a l c_1 k,
                                          V.i IntKind.i64 n, V.ts cs len c, V.i IntKind.i64 ↑len,
                                          V.i IntKind.i64 (IntKind.i64.wrap (i + 1))]
                                        h_1))))
                    (If (!(n_1 == 8) == ltI 0 n)
                      (K Out.ret 85
                        [V.ts cs len c, V.sl none 0 (some 0) 0, V.b false, V.sl ua ul uc uk, V.i IntKind.i64 n,
                          V.ts cs len c, V.i IntKind.i64 ↑len, V.i IntKind.i64 i]
                        h)
                      (If (n_1 == 8)
                        (If (n_3 != 0)
                          (K Out.ret 85
                            [V.ts cs len c, V.sl none 0 (some 0) 0, V.b false, V.sl ua ul uc uk, V.i IntKind.i64 n,
                              V.ts cs len c, V.i IntKind.i64 ↑len, V.i IntKind.i64 i]
                            h)
                          ((0 ≤ IntKind.i64.wrap (i - 1) ∧ IntKind.i64.wrap (i - 1) < ↑len) ∧
                            ∃ (n_4 : Int),
                              takeX 1 (List.drop 1 (List.drop ((IntKind.i64.wrap (i - 1)).toNat * 3) cs)) =
                                  some [V.i IntKind.i64 n_4] ∧
                                If (n_4 != n_2)
                                  (K Out.ret 85
                                    [V.ts cs len c, V.sl none 0 (some 0) 0, V.b false, V.sl ua ul uc uk,
                                      V.i IntKind.i64 n, V.ts cs len c, V.i IntKind.i64 ↑len, V.i IntKind.i64 i]
                                    h)
                                  (∃ (a : Option (Nat × Nat)),
                                    ∃ (l : Nat),
                                      ∃ (c_1 : Option Nat),
                                        ∃ (k : Nat),
                                          ∃ (h_1 : Heap),
                                            appendH Try.Y h 22 22 (V.sl ua ul uc uk)
                                                  (V.ts [V.i IntKind.i64 5, V.i IntKind.i64 n_2, V.i IntKind.i64 n] 1
                                                    (some 1)) =
                                                some (V.sl a l c_1 k, h_1) ∧
                                              K Out.normal 85
                                                [V.ts cs len c, V.sl none 0 (some 0) 0, V.b false, V.sl a l c_1 k,
                                                  V.i IntKind.i64 0, V.ts cs len c, V.i IntKind.i64 ↑len,
                                                  V.i IntKind.i64 (IntKind.i64.wrap (i + 1))]
                                                h_1)))
                        (∃ (a : Option (Nat × Nat)),
                          ∃ (l : Nat),
                            ∃ (c_1 : Option Nat),
                              ∃ (k : Nat),
                                ∃ (h_1 : Heap),
                                  appendH Try.Y h 22 22 (V.sl ua ul uc uk)
                                        (V.ts [V.i IntKind.i64 n_1, V.i IntKind.i64 n_2, V.i IntKind.i64 n_3] 1
                                          (some 1)) =
                                      some (V.sl a l c_1 k, h_1) ∧
                                    K Out.normal 85
                                      [V.ts cs len c, V.sl none 0 (some 0) 0, V.b false, V.sl a l c_1 k,
                                        V.i IntKind.i64 n, V.ts cs len c, V.i IntKind.i64 ↑len,
                                        V.i IntKind.i64 (IntKind.i64.wrap (i + 1))]
                                      h_1))))))
              (If (n_1 == 7)
                (K Out.ret 85
                  [V.ts cs len c, V.sl none 0 (some 0) 0, V.b false, V.sl ua ul uc uk, V.i IntKind.i64 n, V.ts cs len c,
                    V.i IntKind.i64 ↑len, V.i IntKind.i64 i]
                  h)
                (If (n_1 == 5)
                  (If (n_3 != 0)
                    (K Out.ret 85
                      [V.ts cs len c, V.sl none 0 (some 0) 0, V.b false, V.sl ua ul uc uk, V.i IntKind.i64 n,
                        V.ts cs len c, V.i IntKind.i64 ↑len, V.i IntKind.i64 i]
                      h)
                    (If (!(n_1 == 8) == ltI 0 n)
                      (K Out.ret 85
                        [V.ts cs len c, V.sl none 0 (some 0) 0, V.b false, V.sl ua ul uc uk, V.i IntKind.i64 n,
                          V.ts cs len c, V.i IntKind.i64 ↑len, V.i IntKind.i64 i]
                        h)
                      (If (n_1 == 8)
                        (If (n_3 != 0)
                          (K Out.ret 85
                            [V.ts cs len c, V.sl none 0 (some 0) 0, V.b false, V.sl ua ul uc uk, V.i IntKind.i64 n,
                              V.ts cs len c, V.i IntKind.i64 ↑len, V.i IntKind.i64 i]
                            h)
                          ((0 ≤ IntKind.i64.wrap (i - 1) ∧ IntKind.i64.wrap (i - 1) < ↑len) ∧
                            ∃ (n_4 : Int),
                              takeX 1 (List.drop 1 (List.drop ((IntKind.i64.wrap (i - 1)).toNat * 3) cs)) =
                                  some [V.i IntKind.i64 n_4] ∧
                                If (n_4 != n_2)
                                  (K Out.ret 85
                                    [V.ts cs len c, V.sl none 0 (some 0) 0, V.b false, V.sl ua ul uc uk,
                                      V.i IntKind.i64 n, V.ts cs len c, V.i IntKind.i64 ↑len, V.i IntKind.i64 i]
                                    h)
                                  (∃ (a : Option (Nat × Nat)),
                                    ∃ (l : Nat),
                                      ∃ (c_1 : Option Nat),
                                        ∃ (k : Nat),
                                          ∃ (h_1 : Heap),
                                            appendH Try.Y h 22 22 (V.sl ua ul uc uk)
                                                  (V.ts [V.i IntKind.i64 5, V.i IntKind.i64 n_2, V.i IntKind.i64 n] 1
                                                    (some 1)) =
                                                some (V.sl a l c_1 k, h_1) ∧
                                              K Out.normal 85
                                                [V.ts cs len c, V.sl none 0 (some 0) 0, V.b false, V.sl a l c_1 k,
                                                  V.i IntKind.i64 0, V.ts cs len c, V.i IntKind.i64 ↑len,
                                                  V.i IntKind.i64 (IntKind.i64.wrap (i + 1))]
                                                h_1)))
                        (∃ (a : Option (Nat × Nat)),
                          ∃ (l : Nat),
                            ∃ (c_1 : Option Nat),
                              ∃ (k : Nat),
                                ∃ (h_1 : Heap),
                                  appendH Try.Y h 22 22 (V.sl ua ul uc uk)
                                        (V.ts [V.i IntKind.i64 n_1, V.i IntKind.i64 n_2, V.i IntKind.i64 n_3] 1
                                          (some 1)) =
                                      some (V.sl a l c_1 k, h_1) ∧
                                    K Out.normal 85
                                      [V.ts cs len c, V.sl none 0 (some 0) 0, V.b false, V.sl a l c_1 k,
                                        V.i IntKind.i64 n, V.ts cs len c, V.i IntKind.i64 ↑len,
                                        V.i IntKind.i64 (IntKind.i64.wrap (i + 1))]
                                      h_1))))
                  (If (!(n_1 == 8) == ltI 0 n)
                    (K Out.ret 85
                      [V.ts cs len c, V.sl none 0 (some 0) 0, V.b false, V.sl ua ul uc uk, V.i IntKind.i64 n,
                        V.ts cs len c, V.i IntKind.i64 ↑len, V.i IntKind.i64 i]
                      h)
                    (If (n_1 == 8)
                      (If (n_3 != 0)
                        (K Out.ret 85
                          [V.ts cs len c, V.sl none 0 (some 0) 0, V.b false, V.sl ua ul uc uk, V.i IntKind.i64 n,
                            V.ts cs len c, V.i IntKind.i64 ↑len, V.i IntKind.i64 i]
                          h)
                        ((0 ≤ IntKind.i64.wrap (i - 1) ∧ IntKind.i64.wrap (i - 1) < ↑len) ∧
                          ∃ (n_4 : Int),
                            takeX 1 (List.drop 1 (List.drop ((IntKind.i64.wrap (i - 1)).toNat * 3) cs)) =
                                some [V.i IntKind.i64 n_4] ∧
                              If (n_4 != n_2)
                                (K Out.ret 85
                                  [V.ts cs len c, V.sl none 0 (some 0) 0, V.b false, V.sl ua ul uc uk,
                                    V.i IntKind.i64 n, V.ts cs len c, V.i IntKind.i64 ↑len, V.i IntKind.i64 i]
                                  h)
                                (∃ (a : Option (Nat × Nat)),
                                  ∃ (l : Nat),
                                    ∃ (c_1 : Option Nat),
                                      ∃ (k : Nat),
                                        ∃ (h_1 : Heap),
                                          appendH Try.Y h 22 22 (V.sl ua ul uc uk)
                                                (V.ts [V.i IntKind.i64 5, V.i IntKind.i64 n_2, V.i IntKind.i64 n] 1
                                                  (some 1)) =
                                              some (V.sl a l c_1 k, h_1) ∧
                                            K Out.normal 85
                                              [V.ts cs len c, V.sl none 0 (some 0) 0, V.b false, V.sl a l c_1 k,
                                                V.i IntKind.i64 0, V.ts cs len c, V.i IntKind.i64 ↑len,
                                                V.i IntKind.i64 (IntKind.i64.wrap (i + 1))]
                                              h_1)))
                      (∃ (a : Option (Nat × Nat)),
                        ∃ (l : Nat),
                          ∃ (c_1 : Option Nat),
                            ∃ (k : Nat),
                              ∃ (h_1 : Heap),
                                appendH Try.Y h 22 22 (V.sl ua ul uc uk)
                                      (V.ts [V.i IntKind.i64 n_1, V.i IntKind.i64 n_2, V.i IntKind.i64 n_3] 1
                                        (some 1)) =
                                    some (V.sl a l c_1 k, h_1) ∧
                                  K Out.normal 85
                                    [V.ts cs len c, V.sl none 0 (some 0) 0, V.b false, V.sl a l c_1 k,
                                      V.i IntKind.i64 n, V.ts cs len c, V.i IntKind.i64 ↑len,
                                      V.i IntKind.i64 (IntKind.i64.wrap (i + 1))]
                                    h_1))))))
  (K (Out.exit 0) 85
    [V.ts cs len c, V.sl none 0 (some 0) 0, V.b false, V.sl ua ul uc uk, V.i IntKind.i64 n, V.ts cs len c,
      V.i IntKind.i64 ↑len, V.i IntKind.i64 i]
    h)) := by kernel_rfl
theorem up_2 (cs : List V) (len : Nat) (c : Option Nat) (ua : Option (Nat × Nat)) (ul : Nat) (uc : Option Nat) (uk : Nat) (n i : Int) (h : Heap) (K : Out → Nat → List V → Heap → Prop) : (codeP Try.Y (Try.Y.loc 8) 100 ((post (flat (bodyOf Try.f8))).drop 1) ⟨mk 85 ([0, 2, 3, 4, 5, 8, 9, 10].zip [.ts cs len c, .sl none 0 (some 0) 0, .b false, .sl ua ul uc uk, .i .i64 n, .ts cs len c, .i .i64 len, .i .i64 i]), [], h⟩ (VQ [2, 3] K)) =
  (If (ltI 0 n) (K Out.ret 85 [V.sl none 0 (some 0) 0, V.b false] h) (K Out.ret 85 [V.sl ua ul uc uk, V.b true] h)) := by kernel_rfl
end Go.Y
