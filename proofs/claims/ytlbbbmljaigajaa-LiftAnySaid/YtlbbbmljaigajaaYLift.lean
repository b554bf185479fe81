import Derived.Test.YtlbbbmljaigajaaYTryP
import Derived.Test.YtlbbbmljaigajaaYFun
namespace Go.Y
open Go.Proofs
set_option maxRecDepth 100000
set_option maxHeartbeats 0
theorem same_0 (cs ds : List V) (n m : Nat) (h : Heap) (K : Out → Nat → List V → Heap → Prop) : (codeP Try.Y (Try.Y.loc 12) 100 (pre (flat (bodyOf Try.f12))) ⟨(V.ts cs n none :: V.ts ds m none :: List.replicate 24 .undef), [], h⟩ (VQ [0, 1, 4, 5] K)) =
  (If ((↑n : Int) != (↑m : Int)) (K Out.ret 26 [V.ts cs n none, V.ts ds m none, V.b false, V.undef] h)
  (K Out.normal 26 [V.ts cs n none, V.ts ds m none, V.b false, V.i IntKind.i64 0] h)) := by kernel_rfl
theorem same_1 (cs ds : List V) (n m : Nat) (i : Int) (h : Heap) (K : Out → Nat → List V → Heap → Prop) : (codeP Try.Y (Try.Y.loc 12) 100 (flat (loopB (post (flat (bodyOf Try.f12))))) ⟨mk 26 ([0, 1, 4, 5].zip [.ts cs n none, .ts ds m none, .b false, .i .i64 i]), [], h⟩ (VQ [0, 1, 4, 5] K)) =
  (If (ltI i (↑n : Int))
  ((0 ≤ i ∧ i < (↑n : Int)) ∧
    ∃ (n_1 : Int),
      ∃ (n_2 : Int),
        ∃ (n_3 : Int),
          takeX 3 (List.drop (i.toNat * 3) cs) = some [V.i IntKind.i64 n_1, V.i IntKind.i64 n_2, V.i IntKind.i64 n_3] ∧
            (0 ≤ i ∧ i < (↑m : Int)) ∧
              ∃ (n_4 : Int),
                ∃ (n_5 : Int),
                  ∃ (n_6 : Int),
                    takeX 3 (List.drop (i.toNat * 3) ds) =
                        some [V.i IntKind.i64 n_4, V.i IntKind.i64 n_5, V.i IntKind.i64 n_6] ∧
                      If (!(n_1 == n_4 && (n_2 == n_5 && (n_3 == n_6 && true))))
                        (K Out.ret 26 [V.ts cs n none, V.ts ds m none, V.b false, V.i IntKind.i64 i] h)
                        (K Out.normal 26
                          [V.ts cs n none, V.ts ds m none, V.b false, V.i IntKind.i64 (IntKind.i64.wrap (i + 1))] h))
  (K (Out.exit 0) 26 [V.ts cs n none, V.ts ds m none, V.b false, V.i IntKind.i64 i] h)) := by kernel_rfl
theorem same_2 (cs ds : List V) (n m : Nat) (i : Int) (h : Heap) (K : Out → Nat → List V → Heap → Prop) : (codeP Try.Y (Try.Y.loc 12) 100 ((post (flat (bodyOf Try.f12))).drop 1) ⟨mk 26 ([0, 1, 4, 5].zip [.ts cs n none, .ts ds m none, .b false, .i .i64 i]), [], h⟩ (VQ [4] K)) =
  (K Out.ret 26 [V.b true] h) := by kernel_rfl
theorem plain_0 (cs : List V) (n : Nat) (h : Heap) (K : Out → Nat → List V → Heap → Prop) : (codeP Try.Y (Try.Y.loc 21) 100 (pre (flat (bodyOf Try.f21))) ⟨(V.ts cs n none :: List.replicate 26 .undef), [], h⟩ (VQ [2, 5, 6, 7] K)) =
  (K Out.normal 27 [V.b false, V.ts cs n none, V.i IntKind.i64 (↑n : Int), V.i IntKind.i64 0] h) := by kernel_rfl
theorem plain_1 (cs : List V) (n : Nat) (i : Int) (h : Heap) (K : Out → Nat → List V → Heap → Prop) : (codeP Try.Y (Try.Y.loc 21) 100 (flat (loopB (post (flat (bodyOf Try.f21))))) ⟨mk 27 ([2, 5, 6, 7].zip [.b false, .ts cs n none, .i .i64 n, .i .i64 i]), [], h⟩ (VQ [2, 5, 6, 7] K)) =
  (If (ltI i (↑n : Int))
  ((0 ≤ i ∧ i < (↑n : Int)) ∧
    ∃ (n_1 : Int),
      ∃ (n_2 : Int),
        ∃ (n_3 : Int),
          takeX 3 (List.drop (i.toNat * 3) cs) = some [V.i IntKind.i64 n_1, V.i IntKind.i64 n_2, V.i IntKind.i64 n_3] ∧
            If (n_1 == 7) (K Out.ret 27 [V.b false, V.ts cs n none, V.i IntKind.i64 (↑n : Int), V.i IntKind.i64 i] h)
              (If (n_1 == 8) (K Out.ret 27 [V.b false, V.ts cs n none, V.i IntKind.i64 (↑n : Int), V.i IntKind.i64 i] h)
                (If (n_1 == 5)
                  (If (ltI n_3 0)
                    (K Out.ret 27 [V.b false, V.ts cs n none, V.i IntKind.i64 (↑n : Int), V.i IntKind.i64 i] h)
                    (If (ltI 64 n_3)
                      (K Out.ret 27 [V.b false, V.ts cs n none, V.i IntKind.i64 (↑n : Int), V.i IntKind.i64 i] h)
                      (K Out.normal 27
                        [V.b false, V.ts cs n none, V.i IntKind.i64 (↑n : Int),
                          V.i IntKind.i64 (IntKind.i64.wrap (i + 1))]
                        h)))
                  (K Out.normal 27
                    [V.b false, V.ts cs n none, V.i IntKind.i64 (↑n : Int), V.i IntKind.i64 (IntKind.i64.wrap (i + 1))]
                    h))))
  (K (Out.exit 0) 27 [V.b false, V.ts cs n none, V.i IntKind.i64 (↑n : Int), V.i IntKind.i64 i] h)) := by kernel_rfl
theorem plain_2 (cs : List V) (n : Nat) (i : Int) (h : Heap) (K : Out → Nat → List V → Heap → Prop) : (codeP Try.Y (Try.Y.loc 21) 100 ((post (flat (bodyOf Try.f21))).drop 1) ⟨mk 27 ([2, 5, 6, 7].zip [.b false, .ts cs n none, .i .i64 n, .i .i64 i]), [], h⟩ (VQ [2] K)) =
  (K Out.ret 27 [V.b true] h) := by kernel_rfl
theorem steps_0 (cs : List V) (n : Nat) (h : Heap) (K : Out → Nat → List V → Heap → Prop) : (codeP Try.Y (Try.Y.loc 13) 100 ((flat (bodyOf Try.f13))) ⟨(V.ts cs n none :: List.replicate 11 .undef), [], h⟩ (VQ [2] K)) =
  (∃ (cs_1 : List V),
  ∃ (l : Nat),
    ∃ (c : Option Nat),
      ∃ (b : Bool),
        (PCon Try.Y 10 [V.ts cs n none] fun (v : V) => v = V.tup [V.ts cs_1 l c, V.b b]) ∧
          K Out.ret 12 [V.i IntKind.i64 (↑l : Int)] h) := by kernel_rfl
theorem down_0 (cs : List V) (n : Nat) (h : Heap) (K : Out → Nat → List V → Heap → Prop) : (codeP Try.Y (Try.Y.loc 10) 100 (pre (flat (bodyOf Try.f10))) ⟨(V.ts cs n none :: List.replicate 46 .undef), [], h⟩ (VQ [2, 3, 4, 10, 11, 12] K)) =
  (∃ (b : Bool),
  (PCon Try.Y 21 [V.ts cs n none] fun (v : V) => v = V.b b) ∧
    If (!b) (K Out.ret 47 [V.sl none 0 (some 0) 0, V.b false, V.undef, V.undef, V.undef, V.undef] h)
      (K Out.normal 47
        [V.sl none 0 (some 0) 0, V.b false, V.sl none 0 (some 0) 0, V.ts cs n none, V.i IntKind.i64 (↑n : Int),
          V.i IntKind.i64 0]
        h)) := by kernel_rfl
theorem rdown_0 (cs : List V) (n : Nat) (h : Heap) (K : Out → Nat → List V → Heap → Prop) : (codeP Try.Y (Try.Y.loc 11) 100 (pre (flat (bodyOf Try.f11))) ⟨(V.ts cs n none :: List.replicate 71 .undef), [], h⟩ (VQ [0, 2, 3, 4, 5] K)) =
  (K Out.normal 72 [V.ts cs n none, V.sl none 0 (some 0) 0, V.b false, V.sl none 0 (some 0) 0, V.i IntKind.i64 0] h) := by kernel_rfl
theorem rup_0 (cs : List V) (n : Nat) (h : Heap) (K : Out → Nat → List V → Heap → Prop) : (codeP Try.Y (Try.Y.loc 9) 100 (pre (flat (bodyOf Try.f9))) ⟨(V.ts cs n none :: List.replicate 85 .undef), [], h⟩ (VQ [0, 2, 3, 4, 5] K)) =
  (K Out.normal 86 [V.ts cs n none, V.sl none 0 (some 0) 0, V.b false, V.sl none 0 (some 0) 0, V.i IntKind.i64 0] h) := by kernel_rfl
theorem down_1 (cs : List V) (n : Nat) (a : Option (Nat × Nat)) (l : Nat) (c : Option Nat) (k : Nat) (i : Int) (h : Heap) (K : Out → Nat → List V → Heap → Prop) : (codeP Try.Y (Try.Y.loc 10) 100 (pre (flat (loopB (post (flat (bodyOf Try.f10)))))) ⟨mk 47 ([2, 3, 4, 10, 11, 12].zip [.sl none 0 (some 0) 0, .b false, .sl a l c k, .ts cs n none, .i .i64 n, .i .i64 i]), [], h⟩ (VQ [2, 3, 4, 10, 11, 12] K)) =
  (If (ltI i (↑n : Int))
  (K Out.normal 47
    [V.sl none 0 (some 0) 0, V.b false, V.sl a l c k, V.ts cs n none, V.i IntKind.i64 (↑n : Int), V.i IntKind.i64 i] h)
  (K (Out.exit 0) 47
    [V.sl none 0 (some 0) 0, V.b false, V.sl a l c k, V.ts cs n none, V.i IntKind.i64 (↑n : Int), V.i IntKind.i64 i] h)) := by kernel_rfl
theorem down_2 (cs : List V) (n : Nat) (a : Option (Nat × Nat)) (l : Nat) (c : Option Nat) (k : Nat) (i : Int) (h : Heap) (K : Out → Nat → List V → Heap → Prop) : (codeP Try.Y (Try.Y.loc 10) 100 (pre (flat (blockB (post (flat (loopB (post (flat (bodyOf Try.f10))))))))) ⟨mk 47 ([2, 3, 4, 10, 11, 12].zip [.sl none 0 (some 0) 0, .b false, .sl a l c k, .ts cs n none, .i .i64 n, .i .i64 i]), [], h⟩ (VQ [2, 3, 4, 10, 11, 12, 6, 29, 30] K)) =
  ((0 ≤ i ∧ i < (↑n : Int)) ∧
  ∃ (n_1 : Int),
    ∃ (n_2 : Int),
      ∃ (n_3 : Int),
        takeX 3 (List.drop (i.toNat * 3) cs) = some [V.i IntKind.i64 n_1, V.i IntKind.i64 n_2, V.i IntKind.i64 n_3] ∧
          If (n_1 != 5)
            (∃ (a_1 : Option (Nat × Nat)),
              ∃ (l_1 : Nat),
                ∃ (c_1 : Option Nat),
                  ∃ (k_1 : Nat),
                    ∃ (h_1 : Heap),
                      appendH Try.Y h 22 22 (V.sl a l c k)
                            (V.ts [V.i IntKind.i64 n_1, V.i IntKind.i64 n_2, V.i IntKind.i64 n_3] 1 (some 1)) =
                          some (V.sl a_1 l_1 c_1 k_1, h_1) ∧
                        K (Out.exit 1) 47
                          [V.sl none 0 (some 0) 0, V.b false, V.sl a_1 l_1 c_1 k_1, V.ts cs n none,
                            V.i IntKind.i64 (↑n : Int), V.i IntKind.i64 i,
                            V.lb [V.i IntKind.i64 n_1, V.i IntKind.i64 n_2, V.i IntKind.i64 n_3], V.undef, V.undef]
                          h_1)
            (If (n_3 == 0)
              (∃ (a_1 : Option (Nat × Nat)),
                ∃ (l_1 : Nat),
                  ∃ (c_1 : Option Nat),
                    ∃ (k_1 : Nat),
                      ∃ (h_1 : Heap),
                        appendH Try.Y h 22 22 (V.sl a l c k)
                              (V.ts [V.i IntKind.i64 n_1, V.i IntKind.i64 n_2, V.i IntKind.i64 n_3] 1 (some 1)) =
                            some (V.sl a_1 l_1 c_1 k_1, h_1) ∧
                          K (Out.exit 1) 47
                            [V.sl none 0 (some 0) 0, V.b false, V.sl a_1 l_1 c_1 k_1, V.ts cs n none,
                              V.i IntKind.i64 (↑n : Int), V.i IntKind.i64 i,
                              V.lb [V.i IntKind.i64 n_1, V.i IntKind.i64 n_2, V.i IntKind.i64 n_3], V.undef, V.undef]
                            h_1)
              (K Out.normal 47
                [V.sl none 0 (some 0) 0, V.b false, V.sl a l c k, V.ts cs n none, V.i IntKind.i64 (↑n : Int),
                  V.i IntKind.i64 i, V.lb [V.i IntKind.i64 n_1, V.i IntKind.i64 n_2, V.i IntKind.i64 n_3],
                  V.i IntKind.i64 n_3, V.i IntKind.i64 0]
                h))) := by kernel_rfl
theorem down_3 (cs : List V) (n : Nat) (a : Option (Nat × Nat)) (l : Nat) (c : Option Nat) (k : Nat) (i : Int) (x y z : Int) (j : Int) (h : Heap) (K : Out → Nat → List V → Heap → Prop) : (codeP Try.Y (Try.Y.loc 10) 100 (flat (loopB (post (flat (blockB (post (flat (loopB (post (flat (bodyOf Try.f10))))))))))) ⟨mk 47 ([2, 3, 4, 10, 11, 12, 6, 29, 30].zip [.sl none 0 (some 0) 0, .b false, .sl a l c k, .ts cs n none, .i .i64 n, .i .i64 i, .lb [.i .i64 x, .i .i64 y, .i .i64 z], .i .i64 z, .i .i64 j]), [], h⟩ (VQ [2, 3, 4, 10, 11, 12, 6, 29, 30] K)) =
  (If (ltI j z)
  (∃ (a_1 : Option (Nat × Nat)),
    ∃ (l_1 : Nat),
      ∃ (c_1 : Option Nat),
        ∃ (k_1 : Nat),
          ∃ (h_1 : Heap),
            appendH Try.Y h 22 22 (V.sl a l c k)
                  (V.ts [V.i IntKind.i64 7, V.i IntKind.i64 y, V.i IntKind.i64 0] 1 (some 1)) =
                some (V.sl a_1 l_1 c_1 k_1, h_1) ∧
              K Out.normal 47
                [V.sl none 0 (some 0) 0, V.b false, V.sl a_1 l_1 c_1 k_1, V.ts cs n none, V.i IntKind.i64 (↑n : Int),
                  V.i IntKind.i64 i, V.lb [V.i IntKind.i64 x, V.i IntKind.i64 y, V.i IntKind.i64 z], V.i IntKind.i64 z,
                  V.i IntKind.i64 (IntKind.i64.wrap (j + 1))]
                h_1)
  (K (Out.exit 2) 47
    [V.sl none 0 (some 0) 0, V.b false, V.sl a l c k, V.ts cs n none, V.i IntKind.i64 (↑n : Int), V.i IntKind.i64 i,
      V.lb [V.i IntKind.i64 x, V.i IntKind.i64 y, V.i IntKind.i64 z], V.i IntKind.i64 z, V.i IntKind.i64 j]
    h)) := by kernel_rfl
theorem down_4 (cs : List V) (n : Nat) (a : Option (Nat × Nat)) (l : Nat) (c : Option Nat) (k : Nat) (i : Int) (x y z : Int) (j : Int) (h : Heap) (K : Out → Nat → List V → Heap → Prop) : (codeP Try.Y (Try.Y.loc 10) 100 ((post (flat (blockB (post (flat (loopB (post (flat (bodyOf Try.f10))))))))).drop 1) ⟨mk 47 ([2, 3, 4, 10, 11, 12, 6, 29, 30].zip [.sl none 0 (some 0) 0, .b false, .sl a l c k, .ts cs n none, .i .i64 n, .i .i64 i, .lb [.i .i64 x, .i .i64 y, .i .i64 z], .i .i64 z, .i .i64 j]), [], h⟩ (VQ [2, 3, 4, 10, 11, 12] K)) =
  (∃ (a_1 : Option (Nat × Nat)),
  ∃ (l_1 : Nat),
    ∃ (c_1 : Option Nat),
      ∃ (k_1 : Nat),
        ∃ (h_1 : Heap),
          appendH Try.Y h 22 22 (V.sl a l c k)
                (V.ts [V.i IntKind.i64 8, V.i IntKind.i64 y, V.i IntKind.i64 0] 1 (some 1)) =
              some (V.sl a_1 l_1 c_1 k_1, h_1) ∧
            K Out.normal 47
              [V.sl none 0 (some 0) 0, V.b false, V.sl a_1 l_1 c_1 k_1, V.ts cs n none, V.i IntKind.i64 (↑n : Int),
                V.i IntKind.i64 i]
              h_1) := by kernel_rfl
theorem down_5 (cs : List V) (n : Nat) (a : Option (Nat × Nat)) (l : Nat) (c : Option Nat) (k : Nat) (i : Int) (h : Heap) (K : Out → Nat → List V → Heap → Prop) : (codeP Try.Y (Try.Y.loc 10) 100 ((post (flat (loopB (post (flat (bodyOf Try.f10)))))).drop 1) ⟨mk 47 ([2, 3, 4, 10, 11, 12].zip [.sl none 0 (some 0) 0, .b false, .sl a l c k, .ts cs n none, .i .i64 n, .i .i64 i]), [], h⟩ (VQ [2, 3, 4, 10, 11, 12] K)) =
  (K Out.normal 47
  [V.sl none 0 (some 0) 0, V.b false, V.sl a l c k, V.ts cs n none, V.i IntKind.i64 (↑n : Int),
    V.i IntKind.i64 (IntKind.i64.wrap (i + 1))]
  h) := by kernel_rfl
theorem down_6 (cs : List V) (n : Nat) (a : Option (Nat × Nat)) (l : Nat) (c : Option Nat) (k : Nat) (i : Int) (h : Heap) (K : Out → Nat → List V → Heap → Prop) : (codeP Try.Y (Try.Y.loc 10) 100 ((post (flat (bodyOf Try.f10))).drop 1) ⟨mk 47 ([2, 3, 4, 10, 11, 12].zip [.sl none 0 (some 0) 0, .b false, .sl a l c k, .ts cs n none, .i .i64 n, .i .i64 i]), [], h⟩ (VQ [2, 3] K)) =
  (K Out.ret 47 [V.sl a l c k, V.b true] h) := by kernel_rfl
theorem rdown_1 (cs : List V) (n : Nat) (a : Option (Nat × Nat)) (l : Nat) (c : Option Nat) (k : Nat) (i : Int) (h : Heap) (K : Out → Nat → List V → Heap → Prop) : (codeP Try.Y (Try.Y.loc 11) 100 (pre (flat (loopB (post (flat (bodyOf Try.f11)))))) ⟨mk 72 ([0, 2, 3, 4, 5].zip [.ts cs n none, .sl none 0 (some 0) 0, .b false, .sl a l c k, .i .i64 i]), [], h⟩ (VQ [0, 2, 3, 4, 5] K)) =
  (If (ltI i (↑n : Int))
  (K Out.normal 72 [V.ts cs n none, V.sl none 0 (some 0) 0, V.b false, V.sl a l c k, V.i IntKind.i64 i] h)
  (K (Out.exit 0) 72 [V.ts cs n none, V.sl none 0 (some 0) 0, V.b false, V.sl a l c k, V.i IntKind.i64 i] h)) := by kernel_rfl
theorem rdown_2 (cs : List V) (n : Nat) (a : Option (Nat × Nat)) (l : Nat) (c : Option Nat) (k : Nat) (i : Int) (h : Heap) (K : Out → Nat → List V → Heap → Prop) : (codeP Try.Y (Try.Y.loc 11) 100 (pre (flat (blockB (post (flat (loopB (post (flat (bodyOf Try.f11))))))))) ⟨mk 72 ([0, 2, 3, 4, 5].zip [.ts cs n none, .sl none 0 (some 0) 0, .b false, .sl a l c k, .i .i64 i]), [], h⟩ (VQ [0, 2, 3, 4, 5, 6, 48] K)) =
  ((0 ≤ i ∧ i < (↑n : Int)) ∧
  ∃ (n_1 : Int),
    ∃ (n_2 : Int),
      ∃ (n_3 : Int),
        takeX 3 (List.drop (i.toNat * 3) cs) = some [V.i IntKind.i64 n_1, V.i IntKind.i64 n_2, V.i IntKind.i64 n_3] ∧
          If (n_1 == 7)
            (K Out.ret 72
              [V.ts cs n none, V.sl none 0 (some 0) 0, V.b false, V.sl a l c k, V.i IntKind.i64 i,
                V.lb [V.i IntKind.i64 n_1, V.i IntKind.i64 n_2, V.i IntKind.i64 n_3], V.undef]
              h)
            (If (n_1 == 8)
              (K Out.ret 72
                [V.ts cs n none, V.sl none 0 (some 0) 0, V.b false, V.sl a l c k, V.i IntKind.i64 i,
                  V.lb [V.i IntKind.i64 n_1, V.i IntKind.i64 n_2, V.i IntKind.i64 n_3], V.undef]
                h)
              (If (n_1 == 5)
                (If (ltI n_3 0)
                  (K Out.ret 72
                    [V.ts cs n none, V.sl none 0 (some 0) 0, V.b false, V.sl a l c k, V.i IntKind.i64 i,
                      V.lb [V.i IntKind.i64 n_1, V.i IntKind.i64 n_2, V.i IntKind.i64 n_3], V.undef]
                    h)
                  (If (ltI 64 n_3)
                    (K Out.ret 72
                      [V.ts cs n none, V.sl none 0 (some 0) 0, V.b false, V.sl a l c k, V.i IntKind.i64 i,
                        V.lb [V.i IntKind.i64 n_1, V.i IntKind.i64 n_2, V.i IntKind.i64 n_3], V.undef]
                      h)
                    (If (n_1 == 5)
                      (K Out.normal 72
                        [V.ts cs n none, V.sl none 0 (some 0) 0, V.b false, V.sl a l c k, V.i IntKind.i64 i,
                          V.lb [V.i IntKind.i64 n_1, V.i IntKind.i64 n_2, V.i IntKind.i64 n_3], V.b (ltI 0 n_3)]
                        h)
                      (K Out.normal 72
                        [V.ts cs n none, V.sl none 0 (some 0) 0, V.b false, V.sl a l c k, V.i IntKind.i64 i,
                          V.lb [V.i IntKind.i64 n_1, V.i IntKind.i64 n_2, V.i IntKind.i64 n_3], V.b false]
                        h))))
                (If (n_1 == 5)
                  (K Out.normal 72
                    [V.ts cs n none, V.sl none 0 (some 0) 0, V.b false, V.sl a l c k, V.i IntKind.i64 i,
                      V.lb [V.i IntKind.i64 n_1, V.i IntKind.i64 n_2, V.i IntKind.i64 n_3], V.b (ltI 0 n_3)]
                    h)
                  (K Out.normal 72
                    [V.ts cs n none, V.sl none 0 (some 0) 0, V.b false, V.sl a l c k, V.i IntKind.i64 i,
                      V.lb [V.i IntKind.i64 n_1, V.i IntKind.i64 n_2, V.i IntKind.i64 n_3], V.b false]
                    h))))) := by kernel_rfl
theorem rdown_3 (cs : List V) (n : Nat) (a : Option (Nat × Nat)) (l : Nat) (c : Option Nat) (k : Nat) (i : Int) (x y z : Int) (h : Heap) (K : Out → Nat → List V → Heap → Prop) : (codeP Try.Y (Try.Y.loc 11) 100 (pre (flat (condT (post (flat (blockB (post (flat (loopB (post (flat (bodyOf Try.f11)))))))))))) ⟨mk 72 ([0, 2, 3, 4, 5, 6, 48].zip [.ts cs n none, .sl none 0 (some 0) 0, .b false, .sl a l c k, .i .i64 i, .lb [.i .i64 x, .i .i64 y, .i .i64 z], .b true]), [], h⟩ (VQ [0, 2, 3, 4, 5, 6, 7] K)) =
  (K Out.normal 72
  [V.ts cs n none, V.sl none 0 (some 0) 0, V.b false, V.sl a l c k, V.i IntKind.i64 i,
    V.lb [V.i IntKind.i64 x, V.i IntKind.i64 y, V.i IntKind.i64 z], V.i IntKind.i64 0]
  h) := by kernel_rfl
theorem rdown_4 (cs : List V) (n : Nat) (a : Option (Nat × Nat)) (l : Nat) (c : Option Nat) (k : Nat) (i : Int) (x y z : Int) (j : Int) (h : Heap) (K : Out → Nat → List V → Heap → Prop) : (codeP Try.Y (Try.Y.loc 11) 100 (flat (loopB (post (flat (condT (post (flat (blockB (post (flat (loopB (post (flat (bodyOf Try.f11)))))))))))))) ⟨mk 72 ([0, 2, 3, 4, 5, 6, 7].zip [.ts cs n none, .sl none 0 (some 0) 0, .b false, .sl a l c k, .i .i64 i, .lb [.i .i64 x, .i .i64 y, .i .i64 z], .i .i64 j]), [], h⟩ (VQ [0, 2, 3, 4, 5, 6, 7] K)) =
  (If (ltI j z)
  (∃ (a_1 : Option (Nat × Nat)),
    ∃ (l_1 : Nat),
      ∃ (c_1 : Option Nat),
        ∃ (k_1 : Nat),
          ∃ (h_1 : Heap),
            appendH Try.Y h 22 22 (V.sl a l c k)
                  (V.ts [V.i IntKind.i64 7, V.i IntKind.i64 y, V.i IntKind.i64 0] 1 (some 1)) =
                some (V.sl a_1 l_1 c_1 k_1, h_1) ∧
              K Out.normal 72
                [V.ts cs n none, V.sl none 0 (some 0) 0, V.b false, V.sl a_1 l_1 c_1 k_1, V.i IntKind.i64 i,
                  V.lb [V.i IntKind.i64 x, V.i IntKind.i64 y, V.i IntKind.i64 z],
                  V.i IntKind.i64 (IntKind.i64.wrap (j + 1))]
                h_1)
  (K (Out.exit 2) 72
    [V.ts cs n none, V.sl none 0 (some 0) 0, V.b false, V.sl a l c k, V.i IntKind.i64 i,
      V.lb [V.i IntKind.i64 x, V.i IntKind.i64 y, V.i IntKind.i64 z], V.i IntKind.i64 j]
    h)) := by kernel_rfl
theorem rdown_5 (cs : List V) (n : Nat) (a : Option (Nat × Nat)) (l : Nat) (c : Option Nat) (k : Nat) (i : Int) (x y z : Int) (j : Int) (h : Heap) (K : Out → Nat → List V → Heap → Prop) : (codeP Try.Y (Try.Y.loc 11) 100 ((post (flat (condT (post (flat (blockB (post (flat (loopB (post (flat (bodyOf Try.f11)))))))))))).drop 1) ⟨mk 72 ([0, 2, 3, 4, 5, 6, 7].zip [.ts cs n none, .sl none 0 (some 0) 0, .b false, .sl a l c k, .i .i64 i, .lb [.i .i64 x, .i .i64 y, .i .i64 z], .i .i64 j]), [], h⟩ (VQ [0, 2, 3, 4, 5] K)) =
  (∃ (a_1 : Option (Nat × Nat)),
  ∃ (l_1 : Nat),
    ∃ (c_1 : Option Nat),
      ∃ (k_1 : Nat),
        ∃ (h_1 : Heap),
          appendH Try.Y h 22 22 (V.sl a l c k)
                (V.ts [V.i IntKind.i64 8, V.i IntKind.i64 y, V.i IntKind.i64 0] 1 (some 1)) =
              some (V.sl a_1 l_1 c_1 k_1, h_1) ∧
            K Out.normal 72 [V.ts cs n none, V.sl none 0 (some 0) 0, V.b false, V.sl a_1 l_1 c_1 k_1, V.i IntKind.i64 i]
              h_1) := by kernel_rfl
theorem rdown_6 (cs : List V) (n : Nat) (a : Option (Nat × Nat)) (l : Nat) (c : Option Nat) (k : Nat) (i : Int) (x y z : Int) (h : Heap) (K : Out → Nat → List V → Heap → Prop) : (codeP Try.Y (Try.Y.loc 11) 100 ((flat (condF (post (flat (blockB (post (flat (loopB (post (flat (bodyOf Try.f11)))))))))))) ⟨mk 72 ([0, 2, 3, 4, 5, 6, 48].zip [.ts cs n none, .sl none 0 (some 0) 0, .b false, .sl a l c k, .i .i64 i, .lb [.i .i64 x, .i .i64 y, .i .i64 z], .b false]), [], h⟩ (VQ [0, 2, 3, 4, 5] K)) =
  (∃ (a_1 : Option (Nat × Nat)),
  ∃ (l_1 : Nat),
    ∃ (c_1 : Option Nat),
      ∃ (k_1 : Nat),
        ∃ (h_1 : Heap),
          appendH Try.Y h 22 22 (V.sl a l c k)
                (V.ts [V.i IntKind.i64 x, V.i IntKind.i64 y, V.i IntKind.i64 z] 1 (some 1)) =
              some (V.sl a_1 l_1 c_1 k_1, h_1) ∧
            K Out.normal 72 [V.ts cs n none, V.sl none 0 (some 0) 0, V.b false, V.sl a_1 l_1 c_1 k_1, V.i IntKind.i64 i]
              h_1) := by kernel_rfl
theorem rdown_7 (cs : List V) (n : Nat) (a : Option (Nat × Nat)) (l : Nat) (c : Option Nat) (k : Nat) (i : Int) (h : Heap) (K : Out → Nat → List V → Heap → Prop) : (codeP Try.Y (Try.Y.loc 11) 100 ((post (flat (loopB (post (flat (bodyOf Try.f11)))))).drop 1) ⟨mk 72 ([0, 2, 3, 4, 5].zip [.ts cs n none, .sl none 0 (some 0) 0, .b false, .sl a l c k, .i .i64 i]), [], h⟩ (VQ [0, 2, 3, 4, 5] K)) =
  (K Out.normal 72
  [V.ts cs n none, V.sl none 0 (some 0) 0, V.b false, V.sl a l c k, V.i IntKind.i64 (IntKind.i64.wrap (i + 1))] h) := by kernel_rfl
theorem rdown_8 (cs : List V) (n : Nat) (a : Option (Nat × Nat)) (l : Nat) (c : Option Nat) (k : Nat) (i : Int) (h : Heap) (K : Out → Nat → List V → Heap → Prop) : (codeP Try.Y (Try.Y.loc 11) 100 ((post (flat (bodyOf Try.f11))).drop 1) ⟨mk 72 ([0, 2, 3, 4, 5].zip [.ts cs n none, .sl none 0 (some 0) 0, .b false, .sl a l c k, .i .i64 i]), [], h⟩ (VQ [2, 3] K)) =
  (K Out.ret 72 [V.sl a l c k, V.b true] h) := by kernel_rfl
theorem rup_1 (cs : List V) (n : Nat) (a : Option (Nat × Nat)) (l : Nat) (c : Option Nat) (k : Nat) (i : Int) (h : Heap) (K : Out → Nat → List V → Heap → Prop) : (codeP Try.Y (Try.Y.loc 9) 100 (pre (flat (loopB (post (flat (bodyOf Try.f9)))))) ⟨mk 86 ([0, 2, 3, 4, 5].zip [.ts cs n none, .sl none 0 (some 0) 0, .b false, .sl a l c k, .i .i64 i]), [], h⟩ (VQ [0, 2, 3, 4, 5] K)) =
  (If (ltI i (↑n : Int))
  (K Out.normal 86 [V.ts cs n none, V.sl none 0 (some 0) 0, V.b false, V.sl a l c k, V.i IntKind.i64 i] h)
  (K (Out.exit 0) 86 [V.ts cs n none, V.sl none 0 (some 0) 0, V.b false, V.sl a l c k, V.i IntKind.i64 i] h)) := by kernel_rfl
theorem rup_2 (cs : List V) (n : Nat) (a : Option (Nat × Nat)) (l : Nat) (c : Option Nat) (k : Nat) (i : Int) (h : Heap) (K : Out → Nat → List V → Heap → Prop) : (codeP Try.Y (Try.Y.loc 9) 100 (pre (flat (blockB (post (flat (loopB (post (flat (bodyOf Try.f9))))))))) ⟨mk 86 ([0, 2, 3, 4, 5].zip [.ts cs n none, .sl none 0 (some 0) 0, .b false, .sl a l c k, .i .i64 i]), [], h⟩ (VQ [0, 2, 3, 4, 5, 6, 7] K)) =
  ((0 ≤ i ∧ i < (↑n : Int)) ∧
  ∃ (n_1 : Int),
    ∃ (n_2 : Int),
      ∃ (n_3 : Int),
        takeX 3 (List.drop (i.toNat * 3) cs) = some [V.i IntKind.i64 n_1, V.i IntKind.i64 n_2, V.i IntKind.i64 n_3] ∧
          If (n_1 == 8)
            (K Out.ret 86
              [V.ts cs n none, V.sl none 0 (some 0) 0, V.b false, V.sl a l c k, V.i IntKind.i64 i,
                V.lb [V.i IntKind.i64 n_1, V.i IntKind.i64 n_2, V.i IntKind.i64 n_3], V.undef]
              h)
            (If (n_1 == 5)
              (If (n_3 != 0)
                (K Out.ret 86
                  [V.ts cs n none, V.sl none 0 (some 0) 0, V.b false, V.sl a l c k, V.i IntKind.i64 i,
                    V.lb [V.i IntKind.i64 n_1, V.i IntKind.i64 n_2, V.i IntKind.i64 n_3], V.undef]
                  h)
                (If (n_1 != 7)
                  (∃ (a_1 : Option (Nat × Nat)),
                    ∃ (l_1 : Nat),
                      ∃ (c_1 : Option Nat),
                        ∃ (k_1 : Nat),
                          ∃ (h_1 : Heap),
                            appendH Try.Y h 22 22 (V.sl a l c k)
                                  (V.ts [V.i IntKind.i64 n_1, V.i IntKind.i64 n_2, V.i IntKind.i64 n_3] 1 (some 1)) =
                                some (V.sl a_1 l_1 c_1 k_1, h_1) ∧
                              K (Out.exit 1) 86
                                [V.ts cs n none, V.sl none 0 (some 0) 0, V.b false, V.sl a_1 l_1 c_1 k_1,
                                  V.i IntKind.i64 (IntKind.i64.wrap (i + 1)),
                                  V.lb [V.i IntKind.i64 n_1, V.i IntKind.i64 n_2, V.i IntKind.i64 n_3], V.undef]
                                h_1)
                  (K Out.normal 86
                    [V.ts cs n none, V.sl none 0 (some 0) 0, V.b false, V.sl a l c k, V.i IntKind.i64 i,
                      V.lb [V.i IntKind.i64 n_1, V.i IntKind.i64 n_2, V.i IntKind.i64 n_3], V.i IntKind.i64 i]
                    h)))
              (If (n_1 != 7)
                (∃ (a_1 : Option (Nat × Nat)),
                  ∃ (l_1 : Nat),
                    ∃ (c_1 : Option Nat),
                      ∃ (k_1 : Nat),
                        ∃ (h_1 : Heap),
                          appendH Try.Y h 22 22 (V.sl a l c k)
                                (V.ts [V.i IntKind.i64 n_1, V.i IntKind.i64 n_2, V.i IntKind.i64 n_3] 1 (some 1)) =
                              some (V.sl a_1 l_1 c_1 k_1, h_1) ∧
                            K (Out.exit 1) 86
                              [V.ts cs n none, V.sl none 0 (some 0) 0, V.b false, V.sl a_1 l_1 c_1 k_1,
                                V.i IntKind.i64 (IntKind.i64.wrap (i + 1)),
                                V.lb [V.i IntKind.i64 n_1, V.i IntKind.i64 n_2, V.i IntKind.i64 n_3], V.undef]
                              h_1)
                (K Out.normal 86
                  [V.ts cs n none, V.sl none 0 (some 0) 0, V.b false, V.sl a l c k, V.i IntKind.i64 i,
                    V.lb [V.i IntKind.i64 n_1, V.i IntKind.i64 n_2, V.i IntKind.i64 n_3], V.i IntKind.i64 i]
                  h)))) := by kernel_rfl
theorem rup_3 (cs : List V) (n : Nat) (a : Option (Nat × Nat)) (l : Nat) (c : Option Nat) (k : Nat) (i : Int) (x y z : Int) (j : Int) (h : Heap) (K : Out → Nat → List V → Heap → Prop) : (codeP Try.Y (Try.Y.loc 9) 100 (flat (loopB (post (flat (blockB (post (flat (loopB (post (flat (bodyOf Try.f9))))))))))) ⟨mk 86 ([0, 2, 3, 4, 5, 6, 7].zip [.ts cs n none, .sl none 0 (some 0) 0, .b false, .sl a l c k, .i .i64 i, .lb [.i .i64 x, .i .i64 y, .i .i64 z], .i .i64 j]), [], h⟩ (VQ [0, 2, 3, 4, 5, 6, 7] K)) =
  (If (ltI j (↑n : Int))
  ((0 ≤ j ∧ j < (↑n : Int)) ∧
    ∃ (n_1 : Int),
      ∃ (n_2 : Int),
        ∃ (n_3 : Int),
          takeX 3 (List.drop (j.toNat * 3) cs) = some [V.i IntKind.i64 n_1, V.i IntKind.i64 n_2, V.i IntKind.i64 n_3] ∧
            If (n_1 == x && (n_2 == y && (n_3 == z && true)))
              (K Out.normal 86
                [V.ts cs n none, V.sl none 0 (some 0) 0, V.b false, V.sl a l c k, V.i IntKind.i64 i,
                  V.lb [V.i IntKind.i64 x, V.i IntKind.i64 y, V.i IntKind.i64 z],
                  V.i IntKind.i64 (IntKind.i64.wrap (j + 1))]
                h)
              (K (Out.exit 2) 86
                [V.ts cs n none, V.sl none 0 (some 0) 0, V.b false, V.sl a l c k, V.i IntKind.i64 i,
                  V.lb [V.i IntKind.i64 x, V.i IntKind.i64 y, V.i IntKind.i64 z], V.i IntKind.i64 j]
                h))
  (K (Out.exit 2) 86
    [V.ts cs n none, V.sl none 0 (some 0) 0, V.b false, V.sl a l c k, V.i IntKind.i64 i,
      V.lb [V.i IntKind.i64 x, V.i IntKind.i64 y, V.i IntKind.i64 z], V.i IntKind.i64 j]
    h)) := by kernel_rfl
theorem rup_4 (cs : List V) (n : Nat) (a : Option (Nat × Nat)) (l : Nat) (c : Option Nat) (k : Nat) (i : Int) (x y z : Int) (j : Int) (h : Heap) (K : Out → Nat → List V → Heap → Prop) : (codeP Try.Y (Try.Y.loc 9) 100 ((post (flat (blockB (post (flat (loopB (post (flat (bodyOf Try.f9))))))))).drop 1) ⟨mk 86 ([0, 2, 3, 4, 5, 6, 7].zip [.ts cs n none, .sl none 0 (some 0) 0, .b false, .sl a l c k, .i .i64 i, .lb [.i .i64 x, .i .i64 y, .i .i64 z], .i .i64 j]), [], h⟩ (VQ [0, 2, 3, 4, 5] K)) =
  (If (z != 0) (K Out.ret 86 [V.ts cs n none, V.sl none 0 (some 0) 0, V.b false, V.sl a l c k, V.i IntKind.i64 i] h)
  (If (j == (↑n : Int))
    (K Out.ret 86 [V.ts cs n none, V.sl none 0 (some 0) 0, V.b false, V.sl a l c k, V.i IntKind.i64 i] h)
    ((0 ≤ j ∧ j < (↑n : Int)) ∧
      ∃ (n_1 : Int),
        ∃ (n_2 : Int),
          ∃ (n_3 : Int),
            takeX 3 (List.drop (j.toNat * 3) cs) =
                some [V.i IntKind.i64 n_1, V.i IntKind.i64 n_2, V.i IntKind.i64 n_3] ∧
              If (!(n_1 == 8 && (n_2 == y && (n_3 == 0 && true))))
                (K Out.ret 86 [V.ts cs n none, V.sl none 0 (some 0) 0, V.b false, V.sl a l c k, V.i IntKind.i64 i] h)
                (∃ (a_1 : Option (Nat × Nat)),
                  ∃ (l_1 : Nat),
                    ∃ (c_1 : Option Nat),
                      ∃ (k_1 : Nat),
                        ∃ (h_1 : Heap),
                          appendH Try.Y h 22 22 (V.sl a l c k)
                                (V.ts [V.i IntKind.i64 5, V.i IntKind.i64 y, V.i IntKind.i64 (IntKind.i64.wrap (j - i))]
                                  1 (some 1)) =
                              some (V.sl a_1 l_1 c_1 k_1, h_1) ∧
                            K Out.normal 86
                              [V.ts cs n none, V.sl none 0 (some 0) 0, V.b false, V.sl a_1 l_1 c_1 k_1,
                                V.i IntKind.i64 (IntKind.i64.wrap (j + 1))]
                              h_1)))) := by kernel_rfl
theorem rup_5 (cs : List V) (n : Nat) (a : Option (Nat × Nat)) (l : Nat) (c : Option Nat) (k : Nat) (i : Int) (h : Heap) (K : Out → Nat → List V → Heap → Prop) : (codeP Try.Y (Try.Y.loc 9) 100 ((post (flat (bodyOf Try.f9))).drop 1) ⟨mk 86 ([0, 2, 3, 4, 5].zip [.ts cs n none, .sl none 0 (some 0) 0, .b false, .sl a l c k, .i .i64 i]), [], h⟩ (VQ [2, 3] K)) =
  (K Out.ret 86 [V.sl a l c k, V.b true] h) := by kernel_rfl
end Go.Y
