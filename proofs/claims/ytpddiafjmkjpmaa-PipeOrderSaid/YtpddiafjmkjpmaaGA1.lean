/- What the pieces of functions come to: printed by program. -/
import Derived.Test.YtpddiafjmkjpmaaYTryP
import Derived.Test.YtpddiafjmkjpmaaYFun
namespace Go.Y
open Go.Proofs
set_option maxRecDepth 100000
set_option maxHeartbeats 0
theorem f90_0 (id : Nat) (h : Heap) (K : Out → Nat → List V → Heap → Prop) : (codeP Try.Y (Try.Y.loc 90) 100 ((flat (bodyOf Try.f90))) ⟨(V.p (some (id, 0)) :: List.replicate 32 .undef), [], h⟩ (VQ [2] K)) =
  (∃ (n : Int),
  hcells h id 1 1 = some [V.i IntKind.i64 n] ∧
    ∃ (s : List UInt8),
      hcells h id 0 1 = some [V.s s] ∧
        If (leI (↑s.length : Int) n)
          (∃ (h_1 : Heap), hstore h id 2 [V.b true] = some h_1 ∧ K Out.ret 33 [V.i IntKind.u8 0] h_1)
          (∃ (n : Int),
            hcells h id 1 1 = some [V.i IntKind.i64 n] ∧
              ∃ (h_1 : Heap),
                hstore h id 1 [V.i IntKind.i64 (IntKind.i64.wrap (n + 1))] = some h_1 ∧
                  ∃ (s : List UInt8),
                    hcells h_1 id 0 1 = some [V.s s] ∧
                      ∃ (n : Int),
                        hcells h_1 id 1 1 = some [V.i IntKind.i64 n] ∧
                          ∃ (c : UInt8),
                            (0 ≤ IntKind.i64.wrap (n - 1) ∧ s[(IntKind.i64.wrap (n - 1)).toNat]? = some c) ∧
                              K Out.ret 33 [V.i IntKind.u8 (↑c.toNat : Int)] h_1)) := by kernel_rfl
theorem f112_0 (id : Nat) (c : Int) (h : Heap) (K : Out → Nat → List V → Heap → Prop) : (codeP Try.Y (Try.Y.loc 112) 100 ((flat (bodyOf Try.f112))) ⟨(V.p (some (id, 0)) :: V.i .u8 c :: List.replicate 26 .undef), [], h⟩ (VQ [4] K)) =
  (∃ (n : Int),
  hcells h id 1 1 = some [V.i IntKind.i64 n] ∧
    ∃ (s : List UInt8),
      hcells h id 0 1 = some [V.s s] ∧
        If (ltI n (↑s.length : Int))
          (∃ (s : List UInt8),
            hcells h id 0 1 = some [V.s s] ∧
              ∃ (n : Int),
                hcells h id 1 1 = some [V.i IntKind.i64 n] ∧
                  ∃ (c_1 : UInt8), (0 ≤ n ∧ s[n.toNat]? = some c_1) ∧ K Out.ret 28 [V.b ((↑c_1.toNat : Int) == c)] h)
          (K Out.ret 28 [V.b false] h)) := by kernel_rfl
theorem f121_0 (id : Nat) (h : Heap) (K : Out → Nat → List V → Heap → Prop) : (codeP Try.Y (Try.Y.loc 121) 100 ((flat (bodyOf Try.f121))) ⟨(V.p (some (id, 0)) :: List.replicate 26 .undef), [], h⟩ (VQ [2] K)) =
  (∃ (b : Bool),
  (∃ (h1 : Heap),
      (Con Try.Y 112 [V.p (some (id, 0)), V.i IntKind.u8 93] h fun (v : V) (h' : Heap) => v = V.b b ∧ h' = h1) ∧
        (∀ (i : Nat), i < h.nx → h1.get i = h.get i) ∧ ∀ (p : Nat × TypeId), List.Mem p h.tg → List.Mem p h1.tg) ∧
    If b (∃ (h_1 : Heap), hstore h id 2 [V.b true] = some h_1 ∧ K Out.ret 27 [V.i IntKind.u8 0] h_1)
      (∃ (b : Bool),
        (∃ (h1 : Heap),
            (Con Try.Y 112 [V.p (some (id, 0)), V.i IntKind.u8 45] h fun (v : V) (h' : Heap) => v = V.b b ∧ h' = h1) ∧
              (∀ (i : Nat), i < h.nx → h1.get i = h.get i) ∧ ∀ (p : Nat × TypeId), List.Mem p h.tg → List.Mem p h1.tg) ∧
          If b (∃ (h_1 : Heap), hstore h id 2 [V.b true] = some h_1 ∧ K Out.ret 27 [V.i IntKind.u8 0] h_1)
            (Con Try.Y 90 [V.p (some (id, 0))] h fun (v : V) (h' : Heap) =>
              ∃ (n : Int),
                v = V.i IntKind.u8 n ∧
                  If (n == 92)
                    (∃ (b : Bool),
                      hcells h' id 2 1 = some [V.b b] ∧
                        If (!b)
                          (Con Try.Y 90 [V.p (some (id, 0))] h' fun (v : V) (h' : Heap) =>
                            ∃ (n : Int), v = V.i IntKind.u8 n ∧ K Out.ret 27 [V.i IntKind.u8 n] h')
                          (K Out.ret 27 [V.i IntKind.u8 n] h'))
                    (K Out.ret 27 [V.i IntKind.u8 n] h')))) := by kernel_rfl
theorem f113_0 (id : Nat) (h : Heap) (K : Out → Nat → List V → Heap → Prop) : (codeP Try.Y (Try.Y.loc 113) 100 ((flat (bodyOf Try.f113))) ⟨(V.p (some (id, 0)) :: List.replicate 52 .undef), [], h⟩ (VQ [2] K)) =
  (Con Try.Y 121 [V.p (some (id, 0))] h fun (v : V) (h' : Heap) =>
  ∃ (n : Int),
    v = V.i IntKind.u8 n ∧
      ∃ (b : Bool),
        hcells h' id 2 1 = some [V.b b] ∧
          If b (K Out.ret 53 [V.lb [V.i IntKind.u8 n, V.i IntKind.u8 n]] h')
            (∃ (b : Bool),
              (∃ (h1 : Heap),
                  (Con Try.Y 112 [V.p (some (id, 0)), V.i IntKind.u8 45] h' fun (v : V) (h' : Heap) =>
                      v = V.b b ∧ h' = h1) ∧
                    (∀ (i : Nat), i < h'.nx → h1.get i = h'.get i) ∧
                      ∀ (p : Nat × TypeId), List.Mem p h'.tg → List.Mem p h1.tg) ∧
                If (!b) (K Out.ret 53 [V.lb [V.i IntKind.u8 n, V.i IntKind.u8 n]] h')
                  (∃ (n_1 : Int),
                    hcells h' id 1 1 = some [V.i IntKind.i64 n_1] ∧
                      ∃ (h : Heap),
                        hstore h' id 1 [V.i IntKind.i64 (IntKind.i64.wrap (n_1 + 1))] = some h ∧
                          Con Try.Y 121 [V.p (some (id, 0))] h fun (v : V) (h' : Heap) =>
                            ∃ (n_2 : Int),
                              v = V.i IntKind.u8 n_2 ∧
                                ∃ (b : Bool),
                                  hcells h' id 2 1 = some [V.b b] ∧
                                    If (!b)
                                      (If (ltI n_2 n)
                                        (∃ (h : Heap),
                                          hstore h' id 2 [V.b true] = some h ∧
                                            ∃ (n_3 : Int),
                                              hcells h id 1 1 = some [V.i IntKind.i64 n_3] ∧
                                                ∃ (h_1 : Heap),
                                                  hstore h id 1 [V.i IntKind.i64 (IntKind.i64.wrap (n_3 - 1))] =
                                                      some h_1 ∧
                                                    K Out.ret 53 [V.lb [V.i IntKind.u8 n, V.i IntKind.u8 n_2]] h_1)
                                        (K Out.ret 53 [V.lb [V.i IntKind.u8 n, V.i IntKind.u8 n_2]] h'))
                                      (K Out.ret 53 [V.lb [V.i IntKind.u8 n, V.i IntKind.u8 n_2]] h')))) := by kernel_rfl
theorem f91_0 (id : Nat) (h : Heap) (K : Out → Nat → List V → Heap → Prop) : (codeP Try.Y (Try.Y.loc 91) 100 (pre (flat (bodyOf Try.f91))) ⟨(V.p (some (id, 0)) :: List.replicate 28 .undef), [], h⟩ (VQ [0, 3] K)) =
  (K Out.normal 29 [V.p (some (id, 0)), V.sl none 0 (some 0) 0] h) := by kernel_rfl
theorem f91_1 (id : Nat) (a3 : Option (Nat × Nat)) (l3 : Nat) (c3 : Option Nat) (k3 : Nat) (h : Heap) (K : Out → Nat → List V → Heap → Prop) : (codeP Try.Y (Try.Y.loc 91) 100 ((flat (loopB (post (flat (bodyOf Try.f91)))))) ⟨mk 29 (([0, 3] : List Nat).zip [V.p (some (id, 0)), V.sl a3 l3 c3 k3]), [], h⟩ (VQ [0, 2, 3] K)) =
  (If ((↑l3 : Int) == 0)
  (Con Try.Y 113 [V.p (some (id, 0))] h fun (v : V) (h' : Heap) =>
    ∃ (n : Int),
      ∃ (n_1 : Int),
        v = V.agg [V.i IntKind.u8 n, V.i IntKind.u8 n_1] ∧
          ∃ (a : Option (Nat × Nat)),
            ∃ (l : Nat),
              ∃ (c : Option Nat),
                ∃ (k : Nat),
                  ∃ (h : Heap),
                    appendH Try.Y h' 75 75 (V.sl a3 l3 c3 k3) (V.ts [V.i IntKind.u8 n, V.i IntKind.u8 n_1] 1 (some 1)) =
                        some (V.sl a l c k, h) ∧
                      ∃ (b : Bool),
                        hcells h id 2 1 = some [V.b b] ∧
                          If b (K Out.ret 29 [V.p (some (id, 0)), V.sl none 0 (some 0) 0, V.sl a l c k] h)
                            (K Out.normal 29 [V.p (some (id, 0)), V.undef, V.sl a l c k] h))
  (∃ (b : Bool),
    (∃ (h1 : Heap),
        (Con Try.Y 112 [V.p (some (id, 0)), V.i IntKind.u8 93] h fun (v : V) (h' : Heap) => v = V.b b ∧ h' = h1) ∧
          (∀ (i : Nat), i < h.nx → h1.get i = h.get i) ∧ ∀ (p : Nat × TypeId), List.Mem p h.tg → List.Mem p h1.tg) ∧
      If (!b)
        (Con Try.Y 113 [V.p (some (id, 0))] h fun (v : V) (h' : Heap) =>
          ∃ (n : Int),
            ∃ (n_1 : Int),
              v = V.agg [V.i IntKind.u8 n, V.i IntKind.u8 n_1] ∧
                ∃ (a : Option (Nat × Nat)),
                  ∃ (l : Nat),
                    ∃ (c : Option Nat),
                      ∃ (k : Nat),
                        ∃ (h : Heap),
                          appendH Try.Y h' 75 75 (V.sl a3 l3 c3 k3)
                                (V.ts [V.i IntKind.u8 n, V.i IntKind.u8 n_1] 1 (some 1)) =
                              some (V.sl a l c k, h) ∧
                            ∃ (b : Bool),
                              hcells h id 2 1 = some [V.b b] ∧
                                If b (K Out.ret 29 [V.p (some (id, 0)), V.sl none 0 (some 0) 0, V.sl a l c k] h)
                                  (K Out.normal 29 [V.p (some (id, 0)), V.undef, V.sl a l c k] h))
        (K (Out.exit 0) 29 [V.p (some (id, 0)), V.undef, V.sl a3 l3 c3 k3] h))) := by kernel_rfl
theorem f91_2 (id : Nat) (a3 : Option (Nat × Nat)) (l3 : Nat) (c3 : Option Nat) (k3 : Nat) (h : Heap) (K : Out → Nat → List V → Heap → Prop) : (codeP Try.Y (Try.Y.loc 91) 100 (((post (flat (bodyOf Try.f91))).drop 1)) ⟨mk 29 (([0, 3] : List Nat).zip [V.p (some (id, 0)), V.sl a3 l3 c3 k3]), [], h⟩ (VQ [2] K)) =
  (∃ (n : Int),
  hcells h id 1 1 = some [V.i IntKind.i64 n] ∧
    ∃ (h_1 : Heap),
      hstore h id 1 [V.i IntKind.i64 (IntKind.i64.wrap (n + 1))] = some h_1 ∧ K Out.ret 29 [V.sl a3 l3 c3 k3] h_1) := by kernel_rfl
theorem f48_0 (id : Nat) (h : Heap) (K : Out → Nat → List V → Heap → Prop) : (codeP Try.Y (Try.Y.loc 48) 100 ((flat (bodyOf Try.f48))) ⟨(V.p (some (id, 0)) :: List.replicate 24 .undef), [], h⟩ (VQ [2] K)) =
  (Con Try.Y 90 [V.p (some (id, 0))] h fun (v : V) (h' : Heap) =>
  ∃ (n : Int),
    v = V.i IntKind.u8 n ∧
      If (n == 42) (K Out.ret 25 [V.lb [V.i IntKind.i64 2, V.i IntKind.u8 0, V.sl none 0 (some 0) 0]] h')
        (If (n == 63) (K Out.ret 25 [V.lb [V.i IntKind.i64 1, V.i IntKind.u8 0, V.sl none 0 (some 0) 0]] h')
          (If (n == 91)
            (Con Try.Y 91 [V.p (some (id, 0))] h' fun (v : V) (h' : Heap) =>
              ∃ (cs : List V),
                ∃ (l : Nat),
                  ∃ (c : Option Nat),
                    v = V.ts cs l c ∧ K Out.ret 25 [V.lb [V.i IntKind.i64 3, V.i IntKind.u8 0, V.ts cs l c]] h')
            (If (n == 92)
              (Con Try.Y 90 [V.p (some (id, 0))] h' fun (v : V) (h' : Heap) =>
                ∃ (n : Int),
                  v = V.i IntKind.u8 n ∧
                    K Out.ret 25 [V.lb [V.i IntKind.i64 0, V.i IntKind.u8 n, V.sl none 0 (some 0) 0]] h')
              (K Out.ret 25 [V.lb [V.i IntKind.i64 0, V.i IntKind.u8 n, V.sl none 0 (some 0) 0]] h'))))) := by kernel_rfl
end Go.Y

/- What the pieces of functions come to: printed by program. -/
namespace Go.Y
open Go.Proofs
set_option maxRecDepth 100000
set_option maxHeartbeats 0
theorem f13_0 (s0 : List UInt8) (h : Heap) (K : Out → Nat → List V → Heap → Prop) : (codeP Try.Y (Try.Y.loc 13) 100 (pre (flat (bodyOf Try.f13))) ⟨(V.s s0 :: List.replicate 33 .undef), [], h⟩ (VQ [0, 2, 3, 4, 5, 6] K)) =
  (If (ltI 200 (↑s0.length : Int))
  (K Out.ret 34 [V.s s0, V.sl none 0 (some 0) 0, V.i IntKind.i64 200, V.i IntKind.i64 2, V.undef, V.undef] h)
  (K Out.normal 34
    [V.s s0, V.sl none 0 (some 0) 0, V.i IntKind.i64 0, V.i IntKind.i64 0, V.p (some (h.nx, 0)), V.sl none 0 (some 0) 0]
    (h.push (YObj.arr [V.s s0, V.i IntKind.i64 0, V.b false] true)))) := by kernel_rfl
theorem f13_1 (s0 : List UInt8) (id5 : Nat) (a6 : Option (Nat × Nat)) (l6 : Nat) (c6 : Option Nat) (k6 : Nat) (h : Heap) (K : Out → Nat → List V → Heap → Prop) : (codeP Try.Y (Try.Y.loc 13) 100 ((flat (loopB (post (flat (bodyOf Try.f13)))))) ⟨mk 34 (([0, 5, 6] : List Nat).zip [V.s s0, V.p (some (id5, 0)), V.sl a6 l6 c6 k6]), [], h⟩ (VQ [0, 2, 3, 4, 5, 6] K)) =
  (∃ (n : Int),
  hcells h id5 1 1 = some [V.i IntKind.i64 n] ∧
    If (ltI n (↑s0.length : Int))
      (Con Try.Y 48 [V.p (some (id5, 0))] h fun (v : V) (h' : Heap) =>
        ∃ (n : Int),
          ∃ (n_1 : Int),
            ∃ (cs : List V),
              ∃ (l : Nat),
                ∃ (c : Option Nat),
                  v = V.agg [V.i IntKind.i64 n, V.i IntKind.u8 n_1, V.ts cs l c] ∧
                    ∃ (a : Option (Nat × Nat)),
                      ∃ (l_1 : Nat),
                        ∃ (c_1 : Option Nat),
                          ∃ (k : Nat),
                            ∃ (h : Heap),
                              appendH Try.Y h' 23 23 (V.sl a6 l6 c6 k6)
                                    (V.ts [V.i IntKind.i64 n, V.i IntKind.u8 n_1, V.ts cs l c] 1 (some 1)) =
                                  some (V.sl a l_1 c_1 k, h) ∧
                                ∃ (b : Bool),
                                  hcells h id5 2 1 = some [V.b b] ∧
                                    If b
                                      (∃ (n : Int),
                                        hcells h id5 1 1 = some [V.i IntKind.i64 n] ∧
                                          K Out.ret 34
                                            [V.s s0, V.sl none 0 (some 0) 0, V.i IntKind.i64 n, V.i IntKind.i64 1,
                                              V.p (some (id5, 0)), V.sl a l_1 c_1 k]
                                            h)
                                      (K Out.normal 34
                                        [V.s s0, V.undef, V.undef, V.undef, V.p (some (id5, 0)), V.sl a l_1 c_1 k] h))
      (K (Out.exit 0) 34 [V.s s0, V.undef, V.undef, V.undef, V.p (some (id5, 0)), V.sl a6 l6 c6 k6] h)) := by kernel_rfl
theorem f13_2 (a6 : Option (Nat × Nat)) (l6 : Nat) (c6 : Option Nat) (k6 : Nat) (h : Heap) (K : Out → Nat → List V → Heap → Prop) : (codeP Try.Y (Try.Y.loc 13) 100 (((post (flat (bodyOf Try.f13))).drop 1)) ⟨mk 34 (([6] : List Nat).zip [V.sl a6 l6 c6 k6]), [], h⟩ (VQ [2, 3, 4] K)) =
  (K Out.ret 34 [V.sl a6 l6 c6 k6, V.i IntKind.i64 0, V.i IntKind.i64 0] h) := by kernel_rfl
theorem f14_0 (s0 : List UInt8) (h : Heap) (K : Out → Nat → List V → Heap → Prop) : (codeP Try.Y (Try.Y.loc 14) 100 (pre (flat (bodyOf Try.f14))) ⟨(V.s s0 :: List.replicate 70 .undef), [], h⟩ (VQ [0, 2, 3, 4, 5, 6] K)) =
  (If (ltI 200 (↑s0.length : Int))
  (K Out.ret 71 [V.s s0, V.sl none 0 (some 0) 0, V.i IntKind.i64 200, V.i IntKind.i64 2, V.undef, V.undef] h)
  (K Out.normal 71
    [V.s s0, V.sl none 0 (some 0) 0, V.i IntKind.i64 0, V.i IntKind.i64 0, V.sl none 0 (some 0) 0, V.i IntKind.i64 0] h)) := by kernel_rfl
theorem f14_1 (s0 : List UInt8) (a5z5 : Option (Nat × Nat)) (l5z5 : Nat) (c5z5 : Option Nat) (k5z5 : Nat) (x6z5 : Int) (h : Heap) (K : Out → Nat → List V → Heap → Prop) : (codeP Try.Y (Try.Y.loc 14) 100 ((flat (loopB (post (flat (bodyOf Try.f14)))))) ⟨mk 71 (([0, 5, 6] : List Nat).zip [V.s s0, V.sl a5z5 l5z5 c5z5 k5z5, V.i IntKind.i64 x6z5]), [], h⟩ (VQ [0, 2, 3, 4, 5, 6] K)) =
  (If (ltI x6z5 (↑s0.length : Int))
  (∃ (c : UInt8),
    (0 ≤ x6z5 ∧ s0[x6z5.toNat]? = some c) ∧
      If ((↑c.toNat : Int) == 42)
        (∃ (a : Option (Nat × Nat)),
          ∃ (l : Nat),
            ∃ (c : Option Nat),
              ∃ (k : Nat),
                ∃ (h_1 : Heap),
                  appendH Try.Y h 23 23 (V.sl a5z5 l5z5 c5z5 k5z5)
                        (V.ts [V.i IntKind.i64 2, V.i IntKind.u8 0, V.sl none 0 (some 0) 0] 1 (some 1)) =
                      some (V.sl a l c k, h_1) ∧
                    K Out.normal 71
                      [V.s s0, V.undef, V.undef, V.undef, V.sl a l c k, V.i IntKind.i64 (IntKind.i64.wrap (x6z5 + 1))]
                      h_1)
        (If ((↑c.toNat : Int) == 63)
          (∃ (a : Option (Nat × Nat)),
            ∃ (l : Nat),
              ∃ (c : Option Nat),
                ∃ (k : Nat),
                  ∃ (h_1 : Heap),
                    appendH Try.Y h 23 23 (V.sl a5z5 l5z5 c5z5 k5z5)
                          (V.ts [V.i IntKind.i64 1, V.i IntKind.u8 0, V.sl none 0 (some 0) 0] 1 (some 1)) =
                        some (V.sl a l c k, h_1) ∧
                      K Out.normal 71
                        [V.s s0, V.undef, V.undef, V.undef, V.sl a l c k, V.i IntKind.i64 (IntKind.i64.wrap (x6z5 + 1))]
                        h_1)
          (If ((↑c.toNat : Int) == 91)
            (∃ (cs : List V),
              ∃ (l : Nat),
                ∃ (c : Option Nat),
                  ∃ (n : Int),
                    ∃ (n_1 : Int),
                      (PCon Try.Y 49 [V.s s0, V.i IntKind.i64 (IntKind.i64.wrap (x6z5 + 1))] fun (v : V) =>
                          v = V.tup [V.ts cs l c, V.i IntKind.i64 n, V.i IntKind.i64 n_1]) ∧
                        If (ltI n 0)
                          (K Out.ret 71
                            [V.s s0, V.sl none 0 (some 0) 0, V.i IntKind.i64 n_1, V.i IntKind.i64 1,
                              V.sl a5z5 l5z5 c5z5 k5z5, V.i IntKind.i64 (IntKind.i64.wrap (x6z5 + 1))]
                            h)
                          (∃ (a : Option (Nat × Nat)),
                            ∃ (l_1 : Nat),
                              ∃ (c_1 : Option Nat),
                                ∃ (k : Nat),
                                  ∃ (h_1 : Heap),
                                    appendH Try.Y h 23 23 (V.sl a5z5 l5z5 c5z5 k5z5)
                                          (V.ts [V.i IntKind.i64 3, V.i IntKind.u8 0, V.ts cs l c] 1 (some 1)) =
                                        some (V.sl a l_1 c_1 k, h_1) ∧
                                      K Out.normal 71
                                        [V.s s0, V.undef, V.undef, V.undef, V.sl a l_1 c_1 k, V.i IntKind.i64 n] h_1))
            (If ((↑c.toNat : Int) == 92)
              (If (leI (↑s0.length : Int) (IntKind.i64.wrap (x6z5 + 1)))
                (K Out.ret 71
                  [V.s s0, V.sl none 0 (some 0) 0, V.i IntKind.i64 (IntKind.i64.wrap (x6z5 + 1)), V.i IntKind.i64 1,
                    V.sl a5z5 l5z5 c5z5 k5z5, V.i IntKind.i64 (IntKind.i64.wrap (x6z5 + 1))]
                  h)
                (∃ (c : UInt8),
                  (0 ≤ IntKind.i64.wrap (x6z5 + 1) ∧ s0[(IntKind.i64.wrap (x6z5 + 1)).toNat]? = some c) ∧
                    ∃ (a : Option (Nat × Nat)),
                      ∃ (l : Nat),
                        ∃ (c_1 : Option Nat),
                          ∃ (k : Nat),
                            ∃ (h_1 : Heap),
                              appendH Try.Y h 23 23 (V.sl a5z5 l5z5 c5z5 k5z5)
                                    (V.ts [V.i IntKind.i64 0, V.i IntKind.u8 (↑c.toNat : Int), V.sl none 0 (some 0) 0] 1
                                      (some 1)) =
                                  some (V.sl a l c_1 k, h_1) ∧
                                K Out.normal 71
                                  [V.s s0, V.undef, V.undef, V.undef, V.sl a l c_1 k,
                                    V.i IntKind.i64 (IntKind.i64.wrap (IntKind.i64.wrap (x6z5 + 1) + 1))]
                                  h_1))
              (∃ (a : Option (Nat × Nat)),
                ∃ (l : Nat),
                  ∃ (c_1 : Option Nat),
                    ∃ (k : Nat),
                      ∃ (h_1 : Heap),
                        appendH Try.Y h 23 23 (V.sl a5z5 l5z5 c5z5 k5z5)
                              (V.ts [V.i IntKind.i64 0, V.i IntKind.u8 (↑c.toNat : Int), V.sl none 0 (some 0) 0] 1
                                (some 1)) =
                            some (V.sl a l c_1 k, h_1) ∧
                          K Out.normal 71
                            [V.s s0, V.undef, V.undef, V.undef, V.sl a l c_1 k,
                              V.i IntKind.i64 (IntKind.i64.wrap (x6z5 + 1))]
                            h_1)))))
  (K (Out.exit 0) 71 [V.s s0, V.undef, V.undef, V.undef, V.sl a5z5 l5z5 c5z5 k5z5, V.i IntKind.i64 x6z5] h)) := by kernel_rfl
theorem f14_2 (a5z5 : Option (Nat × Nat)) (l5z5 : Nat) (c5z5 : Option Nat) (k5z5 : Nat) (h : Heap) (K : Out → Nat → List V → Heap → Prop) : (codeP Try.Y (Try.Y.loc 14) 100 (((post (flat (bodyOf Try.f14))).drop 1)) ⟨mk 71 (([5] : List Nat).zip [V.sl a5z5 l5z5 c5z5 k5z5]), [], h⟩ (VQ [2, 3, 4] K)) =
  (K Out.ret 71 [V.sl a5z5 l5z5 c5z5 k5z5, V.i IntKind.i64 0, V.i IntKind.i64 0] h) := by kernel_rfl
theorem f15_0 (cs0 : List V) (n0 : Nat) (cs1 : List V) (n1 : Nat) (h : Heap) (K : Out → Nat → List V → Heap → Prop) : (codeP Try.Y (Try.Y.loc 15) 100 (pre (flat (bodyOf Try.f15))) ⟨(V.ts cs0 n0 none :: V.ts cs1 n1 none :: List.replicate 82 .undef), [], h⟩ (VQ [0, 1, 4, 5, 11] K)) =
  (If ((↑n0 : Int) != (↑n1 : Int)) (K Out.ret 84 [V.ts cs0 n0 none, V.ts cs1 n1 none, V.b false, V.undef, V.b true] h)
  (K Out.normal 84 [V.ts cs0 n0 none, V.ts cs1 n1 none, V.b false, V.i IntKind.i64 0, V.b false] h)) := by kernel_rfl
theorem f15_1 (cs0 : List V) (n0 : Nat) (cs1 : List V) (n1 : Nat) (x5 : Int) (h : Heap) (K : Out → Nat → List V → Heap → Prop) : (codeP Try.Y (Try.Y.loc 15) 100 (pre (flat (loopB (post (flat (bodyOf Try.f15)))))) ⟨mk 84 (([0, 1, 5, 11] : List Nat).zip [V.ts cs0 n0 none, V.ts cs1 n1 none, V.i IntKind.i64 x5, V.b false]), [], h⟩ (VQ [0, 1, 5, 11] K)) =
  (If (ltI x5 (↑n0 : Int)) (K Out.normal 84 [V.ts cs0 n0 none, V.ts cs1 n1 none, V.i IntKind.i64 x5, V.b false] h)
  (K (Out.exit 0) 84 [V.ts cs0 n0 none, V.ts cs1 n1 none, V.i IntKind.i64 x5, V.b false] h)) := by kernel_rfl
theorem f15_2 (cs0 : List V) (n0 : Nat) (cs1 : List V) (n1 : Nat) (x5 : Int) (h : Heap) (K : Out → Nat → List V → Heap → Prop) : (codeP Try.Y (Try.Y.loc 15) 100 (pre (flat (blockB (post (flat (loopB (post (flat (bodyOf Try.f15))))))))) ⟨mk 84 (([0, 1, 5, 11] : List Nat).zip [V.ts cs0 n0 none, V.ts cs1 n1 none, V.i IntKind.i64 x5, V.b false]), [], h⟩ (VQ [0, 1, 4, 5, 6, 11] K)) =
  ((0 ≤ x5 ∧ x5 < (↑n0 : Int)) ∧
  ∃ (n : Int),
    takeX 1 (List.drop 0 (List.drop (x5.toNat * 3) cs0)) = some [V.i IntKind.i64 n] ∧
      (0 ≤ x5 ∧ x5 < (↑n1 : Int)) ∧
        ∃ (n_1 : Int),
          takeX 1 (List.drop 0 (List.drop (x5.toNat * 3) cs1)) = some [V.i IntKind.i64 n_1] ∧
            If (n != n_1)
              (K Out.ret 84 [V.ts cs0 n0 none, V.ts cs1 n1 none, V.b false, V.i IntKind.i64 x5, V.undef, V.b false] h)
              ((0 ≤ x5 ∧ x5 < (↑n0 : Int)) ∧
                ∃ (n : Int),
                  takeX 1 (List.drop 1 (List.drop (x5.toNat * 3) cs0)) = some [V.i IntKind.u8 n] ∧
                    (0 ≤ x5 ∧ x5 < (↑n1 : Int)) ∧
                      ∃ (n_2 : Int),
                        takeX 1 (List.drop 1 (List.drop (x5.toNat * 3) cs1)) = some [V.i IntKind.u8 n_2] ∧
                          If (n != n_2)
                            (K Out.ret 84
                              [V.ts cs0 n0 none, V.ts cs1 n1 none, V.b false, V.i IntKind.i64 x5, V.undef, V.b false] h)
                            ((0 ≤ x5 ∧ x5 < (↑n0 : Int)) ∧
                              ∃ (cs : List V),
                                ∃ (l : Nat),
                                  ∃ (c : Option Nat),
                                    takeX 1 (List.drop 2 (List.drop (x5.toNat * 3) cs0)) = some [V.ts cs l c] ∧
                                      (0 ≤ x5 ∧ x5 < (↑n1 : Int)) ∧
                                        ∃ (cs : List V),
                                          ∃ (l_1 : Nat),
                                            ∃ (c : Option Nat),
                                              takeX 1 (List.drop 2 (List.drop (x5.toNat * 3) cs1)) =
                                                  some [V.ts cs l_1 c] ∧
                                                If ((↑l : Int) != (↑l_1 : Int))
                                                  (K Out.ret 84
                                                    [V.ts cs0 n0 none, V.ts cs1 n1 none, V.b false, V.i IntKind.i64 x5,
                                                      V.undef, V.b false]
                                                    h)
                                                  (K Out.normal 84
                                                    [V.ts cs0 n0 none, V.ts cs1 n1 none, V.undef, V.i IntKind.i64 x5,
                                                      V.i IntKind.i64 0, V.b false]
                                                    h)))) := by kernel_rfl
theorem f15_3 (cs0 : List V) (n0 : Nat) (cs1 : List V) (n1 : Nat) (x5 : Int) (x6z2 : Int) (h : Heap) (K : Out → Nat → List V → Heap → Prop) : (codeP Try.Y (Try.Y.loc 15) 100 ((flat (loopB (post (flat (blockB (post (flat (loopB (post (flat (bodyOf Try.f15)))))))))))) ⟨mk 84 (([0, 1, 5, 6, 11] : List Nat).zip [V.ts cs0 n0 none, V.ts cs1 n1 none, V.i IntKind.i64 x5, V.i IntKind.i64 x6z2, V.b false]), [], h⟩ (VQ [0, 1, 4, 5, 6, 11] K)) =
  ((0 ≤ x5 ∧ x5 < (↑n0 : Int)) ∧
  ∃ (cs : List V),
    ∃ (l : Nat),
      ∃ (c : Option Nat),
        takeX 1 (List.drop 2 (List.drop (x5.toNat * 3) cs0)) = some [V.ts cs l c] ∧
          If (ltI x6z2 (↑l : Int))
            ((0 ≤ x5 ∧ x5 < (↑n0 : Int)) ∧
              ∃ (cs : List V),
                ∃ (l : Nat),
                  ∃ (c : Option Nat),
                    takeX 1 (List.drop 2 (List.drop (x5.toNat * 3) cs0)) = some [V.ts cs l c] ∧
                      (0 ≤ x6z2 ∧ x6z2 < (↑l : Int)) ∧
                        ∃ (n : Int),
                          ∃ (n_1 : Int),
                            takeX 2 (List.drop (x6z2.toNat * 2) cs) = some [V.i IntKind.u8 n, V.i IntKind.u8 n_1] ∧
                              (0 ≤ x5 ∧ x5 < (↑n1 : Int)) ∧
                                ∃ (cs : List V),
                                  ∃ (l : Nat),
                                    ∃ (c : Option Nat),
                                      takeX 1 (List.drop 2 (List.drop (x5.toNat * 3) cs1)) = some [V.ts cs l c] ∧
                                        (0 ≤ x6z2 ∧ x6z2 < (↑l : Int)) ∧
                                          ∃ (n_2 : Int),
                                            ∃ (n_3 : Int),
                                              takeX 2 (List.drop (x6z2.toNat * 2) cs) =
                                                  some [V.i IntKind.u8 n_2, V.i IntKind.u8 n_3] ∧
                                                If (!(n == n_2 && (n_1 == n_3 && true)))
                                                  (K Out.ret 84
                                                    [V.ts cs0 n0 none, V.ts cs1 n1 none, V.b false, V.i IntKind.i64 x5,
                                                      V.i IntKind.i64 x6z2, V.b false]
                                                    h)
                                                  (K Out.normal 84
                                                    [V.ts cs0 n0 none, V.ts cs1 n1 none, V.undef, V.i IntKind.i64 x5,
                                                      V.i IntKind.i64 (IntKind.i64.wrap (x6z2 + 1)), V.b false]
                                                    h))
            (K (Out.exit 2) 84
              [V.ts cs0 n0 none, V.ts cs1 n1 none, V.undef, V.i IntKind.i64 x5, V.i IntKind.i64 x6z2, V.b false] h)) := by kernel_rfl
theorem f15_4 (cs0 : List V) (n0 : Nat) (cs1 : List V) (n1 : Nat) (x5 : Int) (h : Heap) (K : Out → Nat → List V → Heap → Prop) : (codeP Try.Y (Try.Y.loc 15) 100 (((post (flat (loopB (post (flat (bodyOf Try.f15)))))).drop 1)) ⟨mk 84 (([0, 1, 5, 11] : List Nat).zip [V.ts cs0 n0 none, V.ts cs1 n1 none, V.i IntKind.i64 x5, V.b false]), [], h⟩ (VQ [0, 1, 5, 11] K)) =
  (K Out.normal 84 [V.ts cs0 n0 none, V.ts cs1 n1 none, V.i IntKind.i64 (IntKind.i64.wrap (x5 + 1)), V.b false] h) := by kernel_rfl
theorem f15_5  (h : Heap) (K : Out → Nat → List V → Heap → Prop) : (codeP Try.Y (Try.Y.loc 15) 100 (((post (flat (bodyOf Try.f15))).drop 1)) ⟨mk 84 (([] : List Nat).zip []), [], h⟩ (VQ [4] K)) =
  (K Out.ret 84 [V.b true] h) := by kernel_rfl
theorem f49_0 (s0 : List UInt8) (x1 : Int) (h : Heap) (K : Out → Nat → List V → Heap → Prop) : (codeP Try.Y (Try.Y.loc 49) 100 (pre (flat (bodyOf Try.f49))) ⟨(V.s s0 :: V.i IntKind.i64 x1 :: List.replicate 79 .undef), [], h⟩ (VQ [0, 1, 3, 4, 7, 9] K)) =
  (K Out.normal 81 [V.s s0, V.i IntKind.i64 x1, V.undef, V.sl none 0 (some 0) 0, V.sl none 0 (some 0) 0, V.undef] h) := by kernel_rfl
theorem f49_1 (s0 : List UInt8) (x1 : Int) (a7z3 : Option (Nat × Nat)) (l7z3 : Nat) (c7z3 : Option Nat) (k7z3 : Nat) (v9z3 : V) (h : Heap) (K : Out → Nat → List V → Heap → Prop) : (codeP Try.Y (Try.Y.loc 49) 100 ((flat (loopB (post (flat (bodyOf Try.f49)))))) ⟨mk 81 (([0, 1, 3, 4, 7, 9] : List Nat).zip [V.s s0, V.i IntKind.i64 x1, V.undef, V.sl none 0 (some 0) 0, V.sl a7z3 l7z3 c7z3 k7z3, v9z3]), [], h⟩ (VQ [0, 1, 3, 4, 5, 6, 7, 9] K)) =
  (If (ltI 0 (↑l7z3 : Int))
  (If (ltI x1 (↑s0.length : Int))
    (∃ (c : UInt8),
      (0 ≤ x1 ∧ s0[x1.toNat]? = some c) ∧
        If ((↑c.toNat : Int) == 93)
          (K Out.ret 81
            [V.s s0, V.i IntKind.i64 x1, V.undef, V.sl a7z3 l7z3 c7z3 k7z3, V.i IntKind.i64 (IntKind.i64.wrap (x1 + 1)),
              V.i IntKind.i64 0, V.sl a7z3 l7z3 c7z3 k7z3, v9z3]
            h)
          (∃ (n : Int),
            ∃ (n_1 : Int),
              ∃ (n_2 : Int),
                (PCon Try.Y 92 [V.s s0, V.i IntKind.i64 x1] fun (v : V) =>
                    v = V.tup [V.i IntKind.u8 n, V.i IntKind.i64 n_1, V.i IntKind.i64 n_2]) ∧
                  If (ltI n_1 0)
                    (K Out.ret 81
                      [V.s s0, V.i IntKind.i64 x1, V.undef, V.sl none 0 (some 0) 0, V.i IntKind.i64 (-1),
                        V.i IntKind.i64 n_2, V.sl a7z3 l7z3 c7z3 k7z3, V.i IntKind.i64 n_1]
                      h)
                    (If (ltI (IntKind.i64.wrap (x1 + n_1)) (↑s0.length : Int))
                      (∃ (c : UInt8),
                        (0 ≤ IntKind.i64.wrap (x1 + n_1) ∧ s0[(IntKind.i64.wrap (x1 + n_1)).toNat]? = some c) ∧
                          If ((↑c.toNat : Int) == 45)
                            (∃ (n_3 : Int),
                              ∃ (n_4 : Int),
                                ∃ (n_5 : Int),
                                  (PCon Try.Y 92
                                      [V.s s0, V.i IntKind.i64 (IntKind.i64.wrap (IntKind.i64.wrap (x1 + n_1) + 1))]
                                      fun (v : V) =>
                                      v = V.tup [V.i IntKind.u8 n_3, V.i IntKind.i64 n_4, V.i IntKind.i64 n_5]) ∧
                                    If (ltI n_4 0)
                                      (K Out.ret 81
                                        [V.s s0, V.i IntKind.i64 (IntKind.i64.wrap (x1 + n_1)), V.undef,
                                          V.sl none 0 (some 0) 0, V.i IntKind.i64 (-1), V.i IntKind.i64 n_5,
                                          V.sl a7z3 l7z3 c7z3 k7z3, V.i IntKind.i64 n_4]
                                        h)
                                      (If (ltI n_3 n)
                                        (K Out.ret 81
                                          [V.s s0, V.i IntKind.i64 (IntKind.i64.wrap (x1 + n_1)), V.undef,
                                            V.sl none 0 (some 0) 0, V.i IntKind.i64 (-1),
                                            V.i IntKind.i64 (IntKind.i64.wrap (IntKind.i64.wrap (x1 + n_1) + n_4)),
                                            V.sl a7z3 l7z3 c7z3 k7z3, V.i IntKind.i64 n_4]
                                          h)
                                        (∃ (a : Option (Nat × Nat)),
                                          ∃ (l : Nat),
                                            ∃ (c : Option Nat),
                                              ∃ (k : Nat),
                                                ∃ (h_1 : Heap),
                                                  appendH Try.Y h 75 75 (V.sl a7z3 l7z3 c7z3 k7z3)
                                                        (V.ts [V.i IntKind.u8 n, V.i IntKind.u8 n_3] 1 (some 1)) =
                                                      some (V.sl a l c k, h_1) ∧
                                                    K Out.normal 81
                                                      [V.s s0,
                                                        V.i IntKind.i64
                                                          (IntKind.i64.wrap
                                                            (IntKind.i64.wrap (IntKind.i64.wrap (x1 + n_1) + 1) + n_4)),
                                                        V.undef, V.sl none 0 (some 0) 0, V.undef, V.undef, V.sl a l c k,
                                                        V.i IntKind.i64 n_4]
                                                      h_1)))
                            (∃ (a : Option (Nat × Nat)),
                              ∃ (l : Nat),
                                ∃ (c : Option Nat),
                                  ∃ (k : Nat),
                                    ∃ (h_1 : Heap),
                                      appendH Try.Y h 75 75 (V.sl a7z3 l7z3 c7z3 k7z3)
                                            (V.ts [V.i IntKind.u8 n, V.i IntKind.u8 n] 1 (some 1)) =
                                          some (V.sl a l c k, h_1) ∧
                                        K Out.normal 81
                                          [V.s s0, V.i IntKind.i64 (IntKind.i64.wrap (x1 + n_1)), V.undef,
                                            V.sl none 0 (some 0) 0, V.undef, V.undef, V.sl a l c k, V.i IntKind.i64 n_1]
                                          h_1))
                      (∃ (a : Option (Nat × Nat)),
                        ∃ (l : Nat),
                          ∃ (c : Option Nat),
                            ∃ (k : Nat),
                              ∃ (h_1 : Heap),
                                appendH Try.Y h 75 75 (V.sl a7z3 l7z3 c7z3 k7z3)
                                      (V.ts [V.i IntKind.u8 n, V.i IntKind.u8 n] 1 (some 1)) =
                                    some (V.sl a l c k, h_1) ∧
                                  K Out.normal 81
                                    [V.s s0, V.i IntKind.i64 (IntKind.i64.wrap (x1 + n_1)), V.undef,
                                      V.sl none 0 (some 0) 0, V.undef, V.undef, V.sl a l c k, V.i IntKind.i64 n_1]
                                    h_1))))
    (∃ (n : Int),
      ∃ (n_1 : Int),
        ∃ (n_2 : Int),
          (PCon Try.Y 92 [V.s s0, V.i IntKind.i64 x1] fun (v : V) =>
              v = V.tup [V.i IntKind.u8 n, V.i IntKind.i64 n_1, V.i IntKind.i64 n_2]) ∧
            If (ltI n_1 0)
              (K Out.ret 81
                [V.s s0, V.i IntKind.i64 x1, V.undef, V.sl none 0 (some 0) 0, V.i IntKind.i64 (-1), V.i IntKind.i64 n_2,
                  V.sl a7z3 l7z3 c7z3 k7z3, V.i IntKind.i64 n_1]
                h)
              (If (ltI (IntKind.i64.wrap (x1 + n_1)) (↑s0.length : Int))
                (∃ (c : UInt8),
                  (0 ≤ IntKind.i64.wrap (x1 + n_1) ∧ s0[(IntKind.i64.wrap (x1 + n_1)).toNat]? = some c) ∧
                    If ((↑c.toNat : Int) == 45)
                      (∃ (n_3 : Int),
                        ∃ (n_4 : Int),
                          ∃ (n_5 : Int),
                            (PCon Try.Y 92
                                [V.s s0, V.i IntKind.i64 (IntKind.i64.wrap (IntKind.i64.wrap (x1 + n_1) + 1))]
                                fun (v : V) =>
                                v = V.tup [V.i IntKind.u8 n_3, V.i IntKind.i64 n_4, V.i IntKind.i64 n_5]) ∧
                              If (ltI n_4 0)
                                (K Out.ret 81
                                  [V.s s0, V.i IntKind.i64 (IntKind.i64.wrap (x1 + n_1)), V.undef,
                                    V.sl none 0 (some 0) 0, V.i IntKind.i64 (-1), V.i IntKind.i64 n_5,
                                    V.sl a7z3 l7z3 c7z3 k7z3, V.i IntKind.i64 n_4]
                                  h)
                                (If (ltI n_3 n)
                                  (K Out.ret 81
                                    [V.s s0, V.i IntKind.i64 (IntKind.i64.wrap (x1 + n_1)), V.undef,
                                      V.sl none 0 (some 0) 0, V.i IntKind.i64 (-1),
                                      V.i IntKind.i64 (IntKind.i64.wrap (IntKind.i64.wrap (x1 + n_1) + n_4)),
                                      V.sl a7z3 l7z3 c7z3 k7z3, V.i IntKind.i64 n_4]
                                    h)
                                  (∃ (a : Option (Nat × Nat)),
                                    ∃ (l : Nat),
                                      ∃ (c : Option Nat),
                                        ∃ (k : Nat),
                                          ∃ (h_1 : Heap),
                                            appendH Try.Y h 75 75 (V.sl a7z3 l7z3 c7z3 k7z3)
                                                  (V.ts [V.i IntKind.u8 n, V.i IntKind.u8 n_3] 1 (some 1)) =
                                                some (V.sl a l c k, h_1) ∧
                                              K Out.normal 81
                                                [V.s s0,
                                                  V.i IntKind.i64
                                                    (IntKind.i64.wrap
                                                      (IntKind.i64.wrap (IntKind.i64.wrap (x1 + n_1) + 1) + n_4)),
                                                  V.undef, V.sl none 0 (some 0) 0, V.undef, V.undef, V.sl a l c k,
                                                  V.i IntKind.i64 n_4]
                                                h_1)))
                      (∃ (a : Option (Nat × Nat)),
                        ∃ (l : Nat),
                          ∃ (c : Option Nat),
                            ∃ (k : Nat),
                              ∃ (h_1 : Heap),
                                appendH Try.Y h 75 75 (V.sl a7z3 l7z3 c7z3 k7z3)
                                      (V.ts [V.i IntKind.u8 n, V.i IntKind.u8 n] 1 (some 1)) =
                                    some (V.sl a l c k, h_1) ∧
                                  K Out.normal 81
                                    [V.s s0, V.i IntKind.i64 (IntKind.i64.wrap (x1 + n_1)), V.undef,
                                      V.sl none 0 (some 0) 0, V.undef, V.undef, V.sl a l c k, V.i IntKind.i64 n_1]
                                    h_1))
                (∃ (a : Option (Nat × Nat)),
                  ∃ (l : Nat),
                    ∃ (c : Option Nat),
                      ∃ (k : Nat),
                        ∃ (h_1 : Heap),
                          appendH Try.Y h 75 75 (V.sl a7z3 l7z3 c7z3 k7z3)
                                (V.ts [V.i IntKind.u8 n, V.i IntKind.u8 n] 1 (some 1)) =
                              some (V.sl a l c k, h_1) ∧
                            K Out.normal 81
                              [V.s s0, V.i IntKind.i64 (IntKind.i64.wrap (x1 + n_1)), V.undef, V.sl none 0 (some 0) 0,
                                V.undef, V.undef, V.sl a l c k, V.i IntKind.i64 n_1]
                              h_1))))
  (∃ (n : Int),
    ∃ (n_1 : Int),
      ∃ (n_2 : Int),
        (PCon Try.Y 92 [V.s s0, V.i IntKind.i64 x1] fun (v : V) =>
            v = V.tup [V.i IntKind.u8 n, V.i IntKind.i64 n_1, V.i IntKind.i64 n_2]) ∧
          If (ltI n_1 0)
            (K Out.ret 81
              [V.s s0, V.i IntKind.i64 x1, V.undef, V.sl none 0 (some 0) 0, V.i IntKind.i64 (-1), V.i IntKind.i64 n_2,
                V.sl a7z3 l7z3 c7z3 k7z3, V.i IntKind.i64 n_1]
              h)
            (If (ltI (IntKind.i64.wrap (x1 + n_1)) (↑s0.length : Int))
              (∃ (c : UInt8),
                (0 ≤ IntKind.i64.wrap (x1 + n_1) ∧ s0[(IntKind.i64.wrap (x1 + n_1)).toNat]? = some c) ∧
                  If ((↑c.toNat : Int) == 45)
                    (∃ (n_3 : Int),
                      ∃ (n_4 : Int),
                        ∃ (n_5 : Int),
                          (PCon Try.Y 92 [V.s s0, V.i IntKind.i64 (IntKind.i64.wrap (IntKind.i64.wrap (x1 + n_1) + 1))]
                              fun (v : V) => v = V.tup [V.i IntKind.u8 n_3, V.i IntKind.i64 n_4, V.i IntKind.i64 n_5]) ∧
                            If (ltI n_4 0)
                              (K Out.ret 81
                                [V.s s0, V.i IntKind.i64 (IntKind.i64.wrap (x1 + n_1)), V.undef, V.sl none 0 (some 0) 0,
                                  V.i IntKind.i64 (-1), V.i IntKind.i64 n_5, V.sl a7z3 l7z3 c7z3 k7z3,
                                  V.i IntKind.i64 n_4]
                                h)
                              (If (ltI n_3 n)
                                (K Out.ret 81
                                  [V.s s0, V.i IntKind.i64 (IntKind.i64.wrap (x1 + n_1)), V.undef,
                                    V.sl none 0 (some 0) 0, V.i IntKind.i64 (-1),
                                    V.i IntKind.i64 (IntKind.i64.wrap (IntKind.i64.wrap (x1 + n_1) + n_4)),
                                    V.sl a7z3 l7z3 c7z3 k7z3, V.i IntKind.i64 n_4]
                                  h)
                                (∃ (a : Option (Nat × Nat)),
                                  ∃ (l : Nat),
                                    ∃ (c : Option Nat),
                                      ∃ (k : Nat),
                                        ∃ (h_1 : Heap),
                                          appendH Try.Y h 75 75 (V.sl a7z3 l7z3 c7z3 k7z3)
                                                (V.ts [V.i IntKind.u8 n, V.i IntKind.u8 n_3] 1 (some 1)) =
                                              some (V.sl a l c k, h_1) ∧
                                            K Out.normal 81
                                              [V.s s0,
                                                V.i IntKind.i64
                                                  (IntKind.i64.wrap
                                                    (IntKind.i64.wrap (IntKind.i64.wrap (x1 + n_1) + 1) + n_4)),
                                                V.undef, V.sl none 0 (some 0) 0, V.undef, V.undef, V.sl a l c k,
                                                V.i IntKind.i64 n_4]
                                              h_1)))
                    (∃ (a : Option (Nat × Nat)),
                      ∃ (l : Nat),
                        ∃ (c : Option Nat),
                          ∃ (k : Nat),
                            ∃ (h_1 : Heap),
                              appendH Try.Y h 75 75 (V.sl a7z3 l7z3 c7z3 k7z3)
                                    (V.ts [V.i IntKind.u8 n, V.i IntKind.u8 n] 1 (some 1)) =
                                  some (V.sl a l c k, h_1) ∧
                                K Out.normal 81
                                  [V.s s0, V.i IntKind.i64 (IntKind.i64.wrap (x1 + n_1)), V.undef,
                                    V.sl none 0 (some 0) 0, V.undef, V.undef, V.sl a l c k, V.i IntKind.i64 n_1]
                                  h_1))
              (∃ (a : Option (Nat × Nat)),
                ∃ (l : Nat),
                  ∃ (c : Option Nat),
                    ∃ (k : Nat),
                      ∃ (h_1 : Heap),
                        appendH Try.Y h 75 75 (V.sl a7z3 l7z3 c7z3 k7z3)
                              (V.ts [V.i IntKind.u8 n, V.i IntKind.u8 n] 1 (some 1)) =
                            some (V.sl a l c k, h_1) ∧
                          K Out.normal 81
                            [V.s s0, V.i IntKind.i64 (IntKind.i64.wrap (x1 + n_1)), V.undef, V.sl none 0 (some 0) 0,
                              V.undef, V.undef, V.sl a l c k, V.i IntKind.i64 n_1]
                            h_1)))) := by kernel_rfl
theorem f92_0 (s0 : List UInt8) (x1 : Int) (h : Heap) (K : Out → Nat → List V → Heap → Prop) : (codeP Try.Y (Try.Y.loc 92) 100 ((flat (bodyOf Try.f92))) ⟨(V.s s0 :: V.i IntKind.i64 x1 :: List.replicate 40 .undef), [], h⟩ (VQ [4, 5, 6] K)) =
  (If (leI (↑s0.length : Int) x1) (K Out.ret 42 [V.i IntKind.u8 0, V.i IntKind.i64 (-1), V.i IntKind.i64 x1] h)
  (∃ (c : UInt8),
    (0 ≤ x1 ∧ s0[x1.toNat]? = some c) ∧
      If ((↑c.toNat : Int) == 93) (K Out.ret 42 [V.i IntKind.u8 0, V.i IntKind.i64 (-1), V.i IntKind.i64 x1] h)
        (∃ (c : UInt8),
          (0 ≤ x1 ∧ s0[x1.toNat]? = some c) ∧
            If ((↑c.toNat : Int) == 45) (K Out.ret 42 [V.i IntKind.u8 0, V.i IntKind.i64 (-1), V.i IntKind.i64 x1] h)
              (∃ (c : UInt8),
                (0 ≤ x1 ∧ s0[x1.toNat]? = some c) ∧
                  If ((↑c.toNat : Int) != 92)
                    (∃ (c : UInt8),
                      (0 ≤ x1 ∧ s0[x1.toNat]? = some c) ∧
                        K Out.ret 42 [V.i IntKind.u8 (↑c.toNat : Int), V.i IntKind.i64 1, V.i IntKind.i64 0] h)
                    (If (leI (↑s0.length : Int) (IntKind.i64.wrap (x1 + 1)))
                      (K Out.ret 42
                        [V.i IntKind.u8 0, V.i IntKind.i64 (-1), V.i IntKind.i64 (IntKind.i64.wrap (x1 + 1))] h)
                      (∃ (c : UInt8),
                        (0 ≤ IntKind.i64.wrap (x1 + 1) ∧ s0[(IntKind.i64.wrap (x1 + 1)).toNat]? = some c) ∧
                          K Out.ret 42 [V.i IntKind.u8 (↑c.toNat : Int), V.i IntKind.i64 2, V.i IntKind.i64 0] h)))))) := by kernel_rfl
theorem f16_0 (cs0 : List V) (n0 : Nat) (h : Heap) (K : Out → Nat → List V → Heap → Prop) : (codeP Try.Y (Try.Y.loc 16) 100 (pre (flat (bodyOf Try.f16))) ⟨(V.ts cs0 n0 none :: List.replicate 18 .undef), [], h⟩ (VQ [2, 8, 9, 10] K)) =
  (If (ltI 80 (↑n0 : Int)) (K Out.ret 19 [V.b false, V.undef, V.undef, V.undef] h)
  (K Out.normal 19 [V.b false, V.ts cs0 n0 none, V.i IntKind.i64 (↑n0 : Int), V.i IntKind.i64 0] h)) := by kernel_rfl
theorem f16_1 (cs0 : List V) (n0 : Nat) (x10 : Int) (h : Heap) (K : Out → Nat → List V → Heap → Prop) : (codeP Try.Y (Try.Y.loc 16) 100 ((flat (loopB (post (flat (bodyOf Try.f16)))))) ⟨mk 19 (([8, 9, 10] : List Nat).zip [V.ts cs0 n0 none, V.i IntKind.i64 (↑n0 : Int), V.i IntKind.i64 x10]), [], h⟩ (VQ [2, 8, 9, 10] K)) =
  (If (ltI x10 (↑n0 : Int))
  ((0 ≤ x10 ∧ x10 < (↑n0 : Int)) ∧
    ∃ (n : Int),
      ∃ (n_1 : Int),
        ∃ (cs : List V),
          ∃ (l : Nat),
            ∃ (c : Option Nat),
              takeX 3 (List.drop (x10.toNat * 3) cs0) = some [V.i IntKind.i64 n, V.i IntKind.u8 n_1, V.ts cs l c] ∧
                If (ltI 40 (↑l : Int))
                  (K Out.ret 19 [V.b false, V.ts cs0 n0 none, V.i IntKind.i64 (↑n0 : Int), V.i IntKind.i64 x10] h)
                  (K Out.normal 19
                    [V.undef, V.ts cs0 n0 none, V.i IntKind.i64 (↑n0 : Int),
                      V.i IntKind.i64 (IntKind.i64.wrap (x10 + 1))]
                    h))
  (K (Out.exit 0) 19 [V.undef, V.ts cs0 n0 none, V.i IntKind.i64 (↑n0 : Int), V.i IntKind.i64 x10] h)) := by kernel_rfl
theorem f16_2  (h : Heap) (K : Out → Nat → List V → Heap → Prop) : (codeP Try.Y (Try.Y.loc 16) 100 (((post (flat (bodyOf Try.f16))).drop 1)) ⟨mk 19 (([] : List Nat).zip []), [], h⟩ (VQ [2] K)) =
  (K Out.ret 19 [V.b true] h) := by kernel_rfl
theorem f17_0 (cs0 : List V) (n0 : Nat) (h : Heap) (K : Out → Nat → List V → Heap → Prop) : (codeP Try.Y (Try.Y.loc 17) 100 (pre (flat (bodyOf Try.f17))) ⟨(V.ts cs0 n0 none :: List.replicate 15 .undef), [], h⟩ (VQ [0, 3] K)) =
  (K Out.normal 16 [V.ts cs0 n0 none, V.i IntKind.i64 0] h) := by kernel_rfl
theorem f17_1 (cs0 : List V) (n0 : Nat) (x3 : Int) (h : Heap) (K : Out → Nat → List V → Heap → Prop) : (codeP Try.Y (Try.Y.loc 17) 100 ((flat (loopB (post (flat (bodyOf Try.f17)))))) ⟨mk 16 (([0, 3] : List Nat).zip [V.ts cs0 n0 none, V.i IntKind.i64 x3]), [], h⟩ (VQ [0, 2, 3] K)) =
  (If (ltI x3 (↑n0 : Int))
  ((0 ≤ x3 ∧ x3 < (↑n0 : Int)) ∧
    ∃ (n : Int),
      ∃ (n_1 : Int),
        ∃ (cs : List V),
          ∃ (l : Nat),
            ∃ (c : Option Nat),
              takeX 3 (List.drop (x3.toNat * 3) cs0) = some [V.i IntKind.i64 n, V.i IntKind.u8 n_1, V.ts cs l c] ∧
                ∃ (b : Bool),
                  (PCon Try.Y 50 [V.agg [V.i IntKind.i64 n, V.i IntKind.u8 n_1, V.ts cs l c]] fun (v : V) =>
                      v = V.b b) ∧
                    If (!b) (K Out.ret 16 [V.ts cs0 n0 none, V.b false, V.i IntKind.i64 x3] h)
                      (K Out.normal 16 [V.ts cs0 n0 none, V.undef, V.i IntKind.i64 (IntKind.i64.wrap (x3 + 1))] h))
  (K (Out.exit 0) 16 [V.ts cs0 n0 none, V.undef, V.i IntKind.i64 x3] h)) := by kernel_rfl
theorem f17_2  (h : Heap) (K : Out → Nat → List V → Heap → Prop) : (codeP Try.Y (Try.Y.loc 17) 100 (((post (flat (bodyOf Try.f17))).drop 1)) ⟨mk 16 (([] : List Nat).zip []), [], h⟩ (VQ [2] K)) =
  (K Out.ret 16 [V.b true] h) := by kernel_rfl
theorem f50_0 (x0Kind : Int) (x0Byte : Int) (cs0Spans : List V) (n0Spans : Nat) (h : Heap) (K : Out → Nat → List V → Heap → Prop) : (codeP Try.Y (Try.Y.loc 50) 100 (pre (flat (bodyOf Try.f50))) ⟨(V.agg [V.i IntKind.i64 x0Kind, V.i IntKind.u8 x0Byte, V.ts cs0Spans n0Spans none] :: List.replicate 53 .undef), [], h⟩ (VQ [1, 2, 3] K)) =
  (If (x0Kind == 0)
  (K Out.ret 54
    [V.lb [V.i IntKind.i64 x0Kind, V.i IntKind.u8 x0Byte, V.ts cs0Spans n0Spans none], V.b ((↑n0Spans : Int) == 0),
      V.undef]
    h)
  (If (x0Byte != 0)
    (K Out.ret 54 [V.lb [V.i IntKind.i64 x0Kind, V.i IntKind.u8 x0Byte, V.ts cs0Spans n0Spans none], V.b false, V.undef]
      h)
    (If (ltI x0Kind 1)
      (K Out.ret 54
        [V.lb [V.i IntKind.i64 x0Kind, V.i IntKind.u8 x0Byte, V.ts cs0Spans n0Spans none], V.b false, V.undef] h)
      (If (ltI 3 x0Kind)
        (K Out.ret 54
          [V.lb [V.i IntKind.i64 x0Kind, V.i IntKind.u8 x0Byte, V.ts cs0Spans n0Spans none], V.b false, V.undef] h)
        (If (!(x0Kind == 3) == ltI 0 (↑n0Spans : Int))
          (K Out.ret 54
            [V.lb [V.i IntKind.i64 x0Kind, V.i IntKind.u8 x0Byte, V.ts cs0Spans n0Spans none], V.b false, V.undef] h)
          (K Out.normal 54
            [V.lb [V.i IntKind.i64 x0Kind, V.i IntKind.u8 x0Byte, V.ts cs0Spans n0Spans none], V.b false,
              V.i IntKind.i64 0]
            h)))))) := by kernel_rfl
theorem f50_1 (x0Kind : Int) (x0Byte : Int) (cs0Spans : List V) (n0Spans : Nat) (x3 : Int) (h : Heap) (K : Out → Nat → List V → Heap → Prop) : (codeP Try.Y (Try.Y.loc 50) 100 ((flat (loopB (post (flat (bodyOf Try.f50)))))) ⟨mk 54 (([1, 3] : List Nat).zip [V.lb [V.i IntKind.i64 x0Kind, V.i IntKind.u8 x0Byte, V.ts cs0Spans n0Spans none], V.i IntKind.i64 x3]), [], h⟩ (VQ [1, 2, 3] K)) =
  (If (ltI x3 (↑n0Spans : Int))
  ((0 ≤ x3 ∧ x3 < (↑n0Spans : Int)) ∧
    ∃ (n : Int),
      takeX 1 (List.drop 0 (List.drop (x3.toNat * 2) cs0Spans)) = some [V.i IntKind.u8 n] ∧
        (0 ≤ x3 ∧ x3 < (↑n0Spans : Int)) ∧
          ∃ (n_1 : Int),
            takeX 1 (List.drop 1 (List.drop (x3.toNat * 2) cs0Spans)) = some [V.i IntKind.u8 n_1] ∧
              If (ltI n_1 n)
                (K Out.ret 54
                  [V.lb [V.i IntKind.i64 x0Kind, V.i IntKind.u8 x0Byte, V.ts cs0Spans n0Spans none], V.b false,
                    V.i IntKind.i64 x3]
                  h)
                (K Out.normal 54
                  [V.lb [V.i IntKind.i64 x0Kind, V.i IntKind.u8 x0Byte, V.ts cs0Spans n0Spans none], V.undef,
                    V.i IntKind.i64 (IntKind.i64.wrap (x3 + 1))]
                  h))
  (K (Out.exit 0) 54
    [V.lb [V.i IntKind.i64 x0Kind, V.i IntKind.u8 x0Byte, V.ts cs0Spans n0Spans none], V.undef, V.i IntKind.i64 x3] h)) := by kernel_rfl
theorem f50_2  (h : Heap) (K : Out → Nat → List V → Heap → Prop) : (codeP Try.Y (Try.Y.loc 50) 100 (((post (flat (bodyOf Try.f50))).drop 1)) ⟨mk 54 (([] : List Nat).zip []), [], h⟩ (VQ [2] K)) =
  (K Out.ret 54 [V.b true] h) := by kernel_rfl
end Go.Y

/- What the pieces of functions come to: printed by program. -/
namespace Go.Y
open Go.Proofs
set_option maxRecDepth 100000
set_option maxHeartbeats 0
theorem f18_0 (cs0 : List V) (n0 : Nat) (s1 : List UInt8) (h : Heap) (K : Out → Nat → List V → Heap → Prop) : (codeP Try.Y (Try.Y.loc 18) 100 (pre (flat (bodyOf Try.f18))) ⟨(V.ts cs0 n0 none :: V.s s1 :: List.replicate 76 .undef), [], h⟩ (VQ [0, 1, 4, 5, 6, 7, 8] K)) =
  (∃ (b : Bool),
  (PCon Try.Y (26 : Nat) [V.ts cs0 n0 none] fun (v : V) => v = V.b b) ∧
    If (!b) (K Out.ret 78 [V.ts cs0 n0 none, V.s s1, V.b false, V.undef, V.undef, V.undef, V.undef] h)
      (K Out.normal 78
        [V.ts cs0 n0 none, V.s s1, V.b false, V.i IntKind.i64 (0 : Int), V.i IntKind.i64 (0 : Int),
          V.i IntKind.i64 (-1 : Int), V.i IntKind.i64 (0 : Int)]
        h)) := by kernel_rfl
theorem f18_1 (cs0 : List V) (n0 : Nat) (s1 : List UInt8) (b4 : Bool) (x5z3 : Int) (x6z2 : Int) (x7z3 : Int) (x8z7 : Int) (h : Heap) (K : Out → Nat → List V → Heap → Prop) : (codeP Try.Y (Try.Y.loc 18) 100 ((flat (loopB (post (flat (bodyOf Try.f18)))))) ⟨mk 78 (([0, 1, 4, 5, 6, 7, 8] : List Nat).zip [V.ts cs0 n0 none, V.s s1, V.b b4, V.i IntKind.i64 x5z3, V.i IntKind.i64 x6z2, V.i IntKind.i64 x7z3, V.i IntKind.i64 x8z7]), [], h⟩ (VQ [0, 1, 4, 5, 6, 7, 8] K)) =
  (If (ltI x6z2 (↑s1.length : Int))
  (If (ltI x5z3 (↑n0 : Int))
    (((0 : Int) ≤ x5z3 ∧ x5z3 < (↑n0 : Int)) ∧
      ∃ (n : Int),
        takeX 1 (List.drop (0 : Nat) (List.drop (x5z3.toNat * (3 : Nat)) cs0)) = some [V.i IntKind.i64 n] ∧
          If (n == (2 : Int))
            (K Out.normal 78
              [V.ts cs0 n0 none, V.s s1, V.b b4, V.i IntKind.i64 (IntKind.i64.wrap (x5z3 + (1 : Int))),
                V.i IntKind.i64 x6z2, V.i IntKind.i64 x5z3, V.i IntKind.i64 x6z2]
              h)
            (If (ltI x5z3 (↑n0 : Int))
              (((0 : Int) ≤ x5z3 ∧ x5z3 < (↑n0 : Int)) ∧
                ∃ (n : Int),
                  ∃ (n_1 : Int),
                    ∃ (cs : List V),
                      ∃ (l : Nat),
                        ∃ (c : Option Nat),
                          takeX 3 (List.drop (x5z3.toNat * (3 : Nat)) cs0) =
                              some [V.i IntKind.i64 n, V.i IntKind.u8 n_1, V.ts cs l c] ∧
                            ∃ (c_1 : UInt8),
                              ((0 : Int) ≤ x6z2 ∧ s1[x6z2.toNat]? = some c_1) ∧
                                ∃ (b : Bool),
                                  (PCon Try.Y (51 : Nat)
                                      [V.agg [V.i IntKind.i64 n, V.i IntKind.u8 n_1, V.ts cs l c],
                                        V.i IntKind.u8 (↑c_1.toNat : Int)]
                                      fun (v : V) => v = V.b b) ∧
                                    If b
                                      (K Out.normal 78
                                        [V.ts cs0 n0 none, V.s s1, V.b b4,
                                          V.i IntKind.i64 (IntKind.i64.wrap (x5z3 + (1 : Int))),
                                          V.i IntKind.i64 (IntKind.i64.wrap (x6z2 + (1 : Int))), V.i IntKind.i64 x7z3,
                                          V.i IntKind.i64 x8z7]
                                        h)
                                      (If (leI (0 : Int) x7z3)
                                        (K Out.normal 78
                                          [V.ts cs0 n0 none, V.s s1, V.b b4,
                                            V.i IntKind.i64 (IntKind.i64.wrap (x7z3 + (1 : Int))),
                                            V.i IntKind.i64 (IntKind.i64.wrap (x8z7 + (1 : Int))), V.i IntKind.i64 x7z3,
                                            V.i IntKind.i64 (IntKind.i64.wrap (x8z7 + (1 : Int)))]
                                          h)
                                        (K Out.ret 78
                                          [V.ts cs0 n0 none, V.s s1, V.b false, V.i IntKind.i64 x5z3,
                                            V.i IntKind.i64 x6z2, V.i IntKind.i64 x7z3, V.i IntKind.i64 x8z7]
                                          h)))
              (If (leI (0 : Int) x7z3)
                (K Out.normal 78
                  [V.ts cs0 n0 none, V.s s1, V.b b4, V.i IntKind.i64 (IntKind.i64.wrap (x7z3 + (1 : Int))),
                    V.i IntKind.i64 (IntKind.i64.wrap (x8z7 + (1 : Int))), V.i IntKind.i64 x7z3,
                    V.i IntKind.i64 (IntKind.i64.wrap (x8z7 + (1 : Int)))]
                  h)
                (K Out.ret 78
                  [V.ts cs0 n0 none, V.s s1, V.b false, V.i IntKind.i64 x5z3, V.i IntKind.i64 x6z2,
                    V.i IntKind.i64 x7z3, V.i IntKind.i64 x8z7]
                  h))))
    (If (ltI x5z3 (↑n0 : Int))
      (((0 : Int) ≤ x5z3 ∧ x5z3 < (↑n0 : Int)) ∧
        ∃ (n : Int),
          ∃ (n_1 : Int),
            ∃ (cs : List V),
              ∃ (l : Nat),
                ∃ (c : Option Nat),
                  takeX 3 (List.drop (x5z3.toNat * (3 : Nat)) cs0) =
                      some [V.i IntKind.i64 n, V.i IntKind.u8 n_1, V.ts cs l c] ∧
                    ∃ (c_1 : UInt8),
                      ((0 : Int) ≤ x6z2 ∧ s1[x6z2.toNat]? = some c_1) ∧
                        ∃ (b : Bool),
                          (PCon Try.Y (51 : Nat)
                              [V.agg [V.i IntKind.i64 n, V.i IntKind.u8 n_1, V.ts cs l c],
                                V.i IntKind.u8 (↑c_1.toNat : Int)]
                              fun (v : V) => v = V.b b) ∧
                            If b
                              (K Out.normal 78
                                [V.ts cs0 n0 none, V.s s1, V.b b4,
                                  V.i IntKind.i64 (IntKind.i64.wrap (x5z3 + (1 : Int))),
                                  V.i IntKind.i64 (IntKind.i64.wrap (x6z2 + (1 : Int))), V.i IntKind.i64 x7z3,
                                  V.i IntKind.i64 x8z7]
                                h)
                              (If (leI (0 : Int) x7z3)
                                (K Out.normal 78
                                  [V.ts cs0 n0 none, V.s s1, V.b b4,
                                    V.i IntKind.i64 (IntKind.i64.wrap (x7z3 + (1 : Int))),
                                    V.i IntKind.i64 (IntKind.i64.wrap (x8z7 + (1 : Int))), V.i IntKind.i64 x7z3,
                                    V.i IntKind.i64 (IntKind.i64.wrap (x8z7 + (1 : Int)))]
                                  h)
                                (K Out.ret 78
                                  [V.ts cs0 n0 none, V.s s1, V.b false, V.i IntKind.i64 x5z3, V.i IntKind.i64 x6z2,
                                    V.i IntKind.i64 x7z3, V.i IntKind.i64 x8z7]
                                  h)))
      (If (leI (0 : Int) x7z3)
        (K Out.normal 78
          [V.ts cs0 n0 none, V.s s1, V.b b4, V.i IntKind.i64 (IntKind.i64.wrap (x7z3 + (1 : Int))),
            V.i IntKind.i64 (IntKind.i64.wrap (x8z7 + (1 : Int))), V.i IntKind.i64 x7z3,
            V.i IntKind.i64 (IntKind.i64.wrap (x8z7 + (1 : Int)))]
          h)
        (K Out.ret 78
          [V.ts cs0 n0 none, V.s s1, V.b false, V.i IntKind.i64 x5z3, V.i IntKind.i64 x6z2, V.i IntKind.i64 x7z3,
            V.i IntKind.i64 x8z7]
          h))))
  (K (Out.exit 0) 78
    [V.ts cs0 n0 none, V.s s1, V.b b4, V.i IntKind.i64 x5z3, V.i IntKind.i64 x6z2, V.i IntKind.i64 x7z3,
      V.i IntKind.i64 x8z7]
    h)) := by kernel_rfl
theorem f18_2 (cs0 : List V) (n0 : Nat) (x5z3 : Int) (b4z2 : Bool) (h : Heap) (K : Out → Nat → List V → Heap → Prop) : (codeP Try.Y (Try.Y.loc 18) 100 (pre ((post (flat (bodyOf Try.f18))).drop 1)) ⟨mk 78 (([0, 4, 5] : List Nat).zip [V.ts cs0 n0 none, V.b b4z2, V.i IntKind.i64 x5z3]), [], h⟩ (VQ [0, 4, 5] K)) =
  (K Out.normal 78 [V.ts cs0 n0 none, V.b b4z2, V.i IntKind.i64 x5z3] h) := by kernel_rfl
theorem f18_3 (cs0 : List V) (n0 : Nat) (x5z3 : Int) (b4z3 : Bool) (h : Heap) (K : Out → Nat → List V → Heap → Prop) : (codeP Try.Y (Try.Y.loc 18) 100 ((flat (loopB (post ((post (flat (bodyOf Try.f18))).drop 1))))) ⟨mk 78 (([0, 4, 5] : List Nat).zip [V.ts cs0 n0 none, V.b b4z3, V.i IntKind.i64 x5z3]), [], h⟩ (VQ [0, 4, 5] K)) =
  (If (ltI x5z3 (↑n0 : Int))
  (((0 : Int) ≤ x5z3 ∧ x5z3 < (↑n0 : Int)) ∧
    ∃ (n : Int),
      takeX 1 (List.drop (0 : Nat) (List.drop (x5z3.toNat * (3 : Nat)) cs0)) = some [V.i IntKind.i64 n] ∧
        If (n == (2 : Int))
          (K Out.normal 78 [V.ts cs0 n0 none, V.b b4z3, V.i IntKind.i64 (IntKind.i64.wrap (x5z3 + (1 : Int)))]
            h)
          (K (Out.exit 3) 78 [V.ts cs0 n0 none, V.b b4z3, V.i IntKind.i64 x5z3] h))
  (K (Out.exit 3) 78 [V.ts cs0 n0 none, V.b b4z3, V.i IntKind.i64 x5z3] h)) := by kernel_rfl
theorem f18_4 (cs0 : List V) (n0 : Nat) (x5z3 : Int) (h : Heap) (K : Out → Nat → List V → Heap → Prop) : (codeP Try.Y (Try.Y.loc 18) 100 (((post ((post (flat (bodyOf Try.f18))).drop 1)).drop 1)) ⟨mk 78 (([0, 5] : List Nat).zip [V.ts cs0 n0 none, V.i IntKind.i64 x5z3]), [], h⟩ (VQ [4] K)) =
  (K Out.ret 78 [V.b (x5z3 == (↑n0 : Int))] h) := by kernel_rfl
theorem f51_0 (x0Kind : Int) (x0Byte : Int) (cs0Spans : List V) (n0Spans : Nat) (x1 : Int) (h : Heap) (K : Out → Nat → List V → Heap → Prop) : (codeP Try.Y (Try.Y.loc 51) 100 ((flat (bodyOf Try.f51))) ⟨(V.agg [V.i IntKind.i64 x0Kind, V.i IntKind.u8 x0Byte, V.ts cs0Spans n0Spans none] :: V.i IntKind.u8 x1 :: List.replicate 17 .undef), [], h⟩ (VQ [4] K)) =
  (If (x0Kind == (0 : Int))
  (∃ (n : Int),
    hcells (h.push (YObj.arr [V.i IntKind.u8 x1] true)) h.nx 0 1 = some [V.i IntKind.u8 n] ∧
      K Out.ret 19 [V.b (x0Byte == n)] (h.push (YObj.arr [V.i IntKind.u8 x1] true)))
  (If (x0Kind == (1 : Int)) (K Out.ret 19 [V.b true] (h.push (YObj.arr [V.i IntKind.u8 x1] true)))
    (Con Try.Y (93 : Nat) [V.ts cs0Spans n0Spans none, V.fn (Fn.func (94 : Nat)) [] [V.p (some (h.nx, 0))]]
      (h.push (YObj.arr [V.i IntKind.u8 x1] true)) fun (v : V) (h' : Heap) =>
      ∃ (b : Bool), v = V.b b ∧ K Out.ret 19 [V.b b] h'))) := by kernel_rfl
theorem f26_0 (cs0 : List V) (n0 : Nat) (h : Heap) (K : Out → Nat → List V → Heap → Prop) : (codeP Try.Y (Try.Y.loc 26) 100 ((flat (bodyOf Try.f26))) ⟨(V.ts cs0 n0 none :: List.replicate 5 .undef), [], h⟩ (VQ [2] K)) =
  (Con Try.Y (69 : Nat) [V.ts cs0 n0 none, V.fn (Fn.func (70 : Nat)) [] []] h fun (v : V) (h' : Heap) =>
  ∃ (b : Bool), v = V.b b ∧ K Out.ret 6 [V.b !b] h') := by kernel_rfl
theorem f69_0 (cs0 : List V) (n0 : Nat) (h : Heap) (K : Out → Nat → List V → Heap → Prop) : (codeP Try.Y (Try.Y.loc 69) 100 ((flat (bodyOf Try.f69))) ⟨(V.ts cs0 n0 none :: V.fn (.func 70) [] [] :: List.replicate 7 .undef), [], h⟩ (VQ [4] K)) =
  (Con Try.Y (105 : Nat) [V.ts cs0 n0 none, V.fn (Fn.func 70) [] []] h fun (v : V) (h' : Heap) =>
  ∃ (n : Int), v = V.i IntKind.i64 n ∧ K Out.ret 9 [V.b (leI (0 : Int) n)] h') := by kernel_rfl
theorem f105_0 (cs0 : List V) (n0 : Nat) (h : Heap) (K : Out → Nat → List V → Heap → Prop) : (codeP Try.Y (Try.Y.loc 105) 100 (pre (flat (bodyOf Try.f105))) ⟨(V.ts cs0 n0 none :: V.fn (.func 70) [] [] :: List.replicate 17 .undef), [], h⟩ (VQ [0, 1, 7, 8] K)) =
  (K Out.normal 19
  [V.ts cs0 n0 none, V.fn (Fn.func 70) [] [], V.i IntKind.i64 (↑n0 : Int), V.i IntKind.i64 (0 : Int)] h) := by kernel_rfl
theorem f105_1 (cs0 : List V) (n0 : Nat) (x8 : Int) (h : Heap) (K : Out → Nat → List V → Heap → Prop) : (codeP Try.Y (Try.Y.loc 105) 100 ((flat (loopB (post (flat (bodyOf Try.f105)))))) ⟨mk 19 (([0, 1, 7, 8] : List Nat).zip [V.ts cs0 n0 none, V.fn (Fn.func 70) [] [], V.i IntKind.i64 (↑n0 : Int), V.i IntKind.i64 x8]), [], h⟩ (VQ [0, 1, 4, 7, 8] K)) =
  (If (ltI x8 (↑n0 : Int))
  (((0 : Int) ≤ x8 ∧ x8 < (↑n0 : Int)) ∧
    ∃ (n : Int),
      ∃ (n_1 : Int),
        ∃ (cs : List V),
          ∃ (l : Nat),
            ∃ (c : Option Nat),
              takeX 3 (List.drop (x8.toNat * (3 : Nat)) cs0) =
                  some [V.i IntKind.i64 n, V.i IntKind.u8 n_1, V.ts cs l c] ∧
                ∃ (b : Bool),
                  (PCon Try.Y 70 [V.agg [V.i IntKind.i64 n, V.i IntKind.u8 n_1, V.ts cs l c]] fun (v : V) =>
                      v = V.b b) ∧
                    If b
                      (K Out.ret 19
                        [V.ts cs0 n0 none, V.fn (Fn.func 70) [] [], V.i IntKind.i64 x8,
                          V.i IntKind.i64 (↑n0 : Int), V.i IntKind.i64 x8]
                        h)
                      (K Out.normal 19
                        [V.ts cs0 n0 none, V.fn (Fn.func 70) [] [], V.undef, V.i IntKind.i64 (↑n0 : Int),
                          V.i IntKind.i64 (IntKind.i64.wrap (x8 + (1 : Int)))]
                        h))
  (K (Out.exit 0) 19
    [V.ts cs0 n0 none, V.fn (Fn.func 70) [] [], V.undef, V.i IntKind.i64 (↑n0 : Int), V.i IntKind.i64 x8] h)) := by kernel_rfl
theorem f105_2  (h : Heap) (K : Out → Nat → List V → Heap → Prop) : (codeP Try.Y (Try.Y.loc 105) 100 (((post (flat (bodyOf Try.f105))).drop 1)) ⟨mk 19 (([] : List Nat).zip []), [], h⟩ (VQ [4] K)) =
  (K Out.ret 19 [V.i IntKind.i64 (-1 : Int)] h) := by kernel_rfl
theorem f70_0 (x0Kind : Int) (x0Byte : Int) (cs0Spans : List V) (n0Spans : Nat) (h : Heap) (K : Out → Nat → List V → Heap → Prop) : (codeP Try.Y (Try.Y.loc 70) 100 ((flat (bodyOf Try.f70))) ⟨(V.agg [V.i IntKind.i64 x0Kind, V.i IntKind.u8 x0Byte, V.ts cs0Spans n0Spans none] :: List.replicate 5 .undef), [], h⟩ (VQ [2] K)) =
  (∃ (b : Bool),
  (PCon Try.Y (71 : Nat) [V.agg [V.i IntKind.i64 x0Kind, V.i IntKind.u8 x0Byte, V.ts cs0Spans n0Spans none]]
      fun (v : V) => v = V.b b) ∧
    K Out.ret 6 [V.b !b] h) := by kernel_rfl
theorem f71_0 (x0Kind : Int) (x0Byte : Int) (cs0Spans : List V) (n0Spans : Nat) (h : Heap) (K : Out → Nat → List V → Heap → Prop) : (codeP Try.Y (Try.Y.loc 71) 100 ((flat (bodyOf Try.f71))) ⟨(V.agg [V.i IntKind.i64 x0Kind, V.i IntKind.u8 x0Byte, V.ts cs0Spans n0Spans none] :: List.replicate 39 .undef), [], h⟩ (VQ [2] K)) =
  (If (x0Kind == (0 : Int)) (K Out.ret 40 [V.b ((↑n0Spans : Int) == (0 : Int))] h)
  (If (x0Kind == (1 : Int))
    (If (x0Byte == (0 : Int)) (K Out.ret 40 [V.b ((↑n0Spans : Int) == (0 : Int))] h)
      (K Out.ret 40 [V.b false] h))
    (If (x0Kind == (2 : Int))
      (If (x0Byte == (0 : Int)) (K Out.ret 40 [V.b ((↑n0Spans : Int) == (0 : Int))] h)
        (K Out.ret 40 [V.b false] h))
      (If (x0Kind == (3 : Int))
        (If (x0Byte == (0 : Int))
          (If (ltI (0 : Int) (↑n0Spans : Int))
            (Con Try.Y (93 : Nat) [V.ts cs0Spans n0Spans none, V.fn (Fn.func (106 : Nat)) [] []] h
              fun (v : V) (h' : Heap) => ∃ (b : Bool), v = V.b b ∧ K Out.ret 40 [V.b !b] h')
            (K Out.ret 40 [V.b false] h))
          (K Out.ret 40 [V.b false] h))
        (K Out.ret 40 [V.b false] h))))) := by kernel_rfl
theorem f4_0 (cs0 : List V) (n0 : Nat) (s1 : List UInt8) (x2 : Int) (h : Heap) (K : Out → Nat → List V → Heap → Prop) : (codeP Try.Y (Try.Y.loc 4) 100 (pre (flat (bodyOf Try.f4))) ⟨(V.ts cs0 n0 none :: V.s s1 :: V.i IntKind.u8 x2 :: List.replicate 64 .undef), [], h⟩ (VQ [0, 1, 6, 7, 8, 38, 39] K)) =
  (∃ (b : Bool),
  (PCon Try.Y (12 : Nat) [] fun (v : V) => v = V.b b) ∧
    If (!b) (K Out.ret 67 [V.ts cs0 n0 none, V.s s1, V.b false, V.undef, V.undef, V.undef, V.undef] h)
      (∃ (b : Bool),
        (PCon Try.Y (16 : Nat) [V.ts cs0 n0 none] fun (v : V) => v = V.b b) ∧
          If (!b) (K Out.ret 67 [V.ts cs0 n0 none, V.s s1, V.b true, V.undef, V.undef, V.undef, V.undef] h)
            (If (ltI (40 : Int) (↑n0 : Int))
              (K Out.ret 67 [V.ts cs0 n0 none, V.s s1, V.b true, V.undef, V.undef, V.undef, V.undef] h)
              (If (ltI (30 : Int) (↑s1.length : Int))
                (K Out.ret 67 [V.ts cs0 n0 none, V.s s1, V.b true, V.undef, V.undef, V.undef, V.undef] h)
                (∃ (b : Bool),
                  (PCon Try.Y (17 : Nat) [V.ts cs0 n0 none] fun (v : V) => v = V.b b) ∧
                    If (!b)
                      (K Out.ret 67 [V.ts cs0 n0 none, V.s s1, V.b true, V.undef, V.undef, V.undef, V.undef]
                        h)
                      ((IntKind.i64.wrap ((↑n0 : Int) + (1 : Int)) = (0 : Int) → False) ∧
                        K Out.normal 67
                          [V.ts cs0 n0 none, V.s s1, V.b false,
                            V.i IntKind.i64 ((IntKind.i64.wrap x2).tmod (IntKind.i64.wrap ((↑n0 : Int) + (1 : Int)))),
                            V.b false, V.i IntKind.i64 (IntKind.i64.wrap ((↑s1.length : Int) + (1 : Int))),
                            V.i IntKind.i64 (0 : Int)]
                          h)))))) := by kernel_rfl
theorem f4_1 (cs0 : List V) (n0 : Nat) (s1 : List UInt8) (x2 : Int) (b8 : Bool) (x39z3 : Int) (h : Heap) (K : Out → Nat → List V → Heap → Prop) : (codeP Try.Y (Try.Y.loc 4) 100 ((flat (loopB (post (flat (bodyOf Try.f4)))))) ⟨mk 67 (([0, 1, 7, 8, 38, 39] : List Nat).zip [V.ts cs0 n0 none, V.s s1, V.i IntKind.i64 ((IntKind.i64.wrap x2).tmod (IntKind.i64.wrap ((↑n0 : Int) + 1))), V.b b8, V.i IntKind.i64 (IntKind.i64.wrap ((↑s1.length : Int) + 1)), V.i IntKind.i64 x39z3]), [], h⟩ (VQ [0, 1, 7, 8, 38, 39] K)) =
  (If (ltI x39z3 (IntKind.i64.wrap ((↑s1.length : Int) + (1 : Int))))
  (If b8
    (K Out.normal 67
      [V.ts cs0 n0 none, V.s s1,
        V.i IntKind.i64 ((IntKind.i64.wrap x2).tmod (IntKind.i64.wrap ((↑n0 : Int) + (1 : Int)))), V.b true,
        V.i IntKind.i64 (IntKind.i64.wrap ((↑s1.length : Int) + (1 : Int))),
        V.i IntKind.i64 (IntKind.i64.wrap (x39z3 + (1 : Int)))]
      h)
    (((0 : Int) ≤ (IntKind.i64.wrap x2).tmod (IntKind.i64.wrap ((↑n0 : Int) + (1 : Int))) ∧
        (IntKind.i64.wrap x2).tmod (IntKind.i64.wrap ((↑n0 : Int) + (1 : Int))) ≤ (↑n0 : Int)) ∧
      ((0 : Int) ≤ x39z3 ∧ x39z3 ≤ (↑s1.length : Int)) ∧
        ∃ (b : Bool),
          (PCon Try.Y (18 : Nat)
              [V.ts
                  (List.take
                    ((((IntKind.i64.wrap x2).tmod (IntKind.i64.wrap ((↑n0 : Int) + (1 : Int)))).toNat - (0 : Nat)) *
                      (3 : Nat))
                    (List.drop ((0 : Nat) * (3 : Nat)) cs0))
                  (((IntKind.i64.wrap x2).tmod (IntKind.i64.wrap ((↑n0 : Int) + (1 : Int)))).toNat - (0 : Nat)) none,
                V.s (List.take (x39z3.toNat - (0 : Nat)) (List.drop (0 : Nat) s1))]
              fun (v : V) => v = V.b b) ∧
            If b
              (((0 : Int) ≤ (IntKind.i64.wrap x2).tmod (IntKind.i64.wrap ((↑n0 : Int) + (1 : Int))) ∧
                  (IntKind.i64.wrap x2).tmod (IntKind.i64.wrap ((↑n0 : Int) + (1 : Int))) ≤ (↑n0 : Int)) ∧
                ((0 : Int) ≤ x39z3 ∧ x39z3 ≤ (↑s1.length : Int)) ∧
                  ∃ (b : Bool),
                    (PCon Try.Y (18 : Nat)
                        [V.ts
                            (List.take
                              ((n0 - ((IntKind.i64.wrap x2).tmod (IntKind.i64.wrap ((↑n0 : Int) + (1 : Int)))).toNat) *
                                (3 : Nat))
                              (List.drop
                                (((IntKind.i64.wrap x2).tmod (IntKind.i64.wrap ((↑n0 : Int) + (1 : Int)))).toNat *
                                  (3 : Nat))
                                cs0))
                            (n0 - ((IntKind.i64.wrap x2).tmod (IntKind.i64.wrap ((↑n0 : Int) + (1 : Int)))).toNat) none,
                          V.s (List.take (s1.length - x39z3.toNat) (List.drop x39z3.toNat s1))]
                        fun (v : V) => v = V.b b) ∧
                      K Out.normal 67
                        [V.ts cs0 n0 none, V.s s1,
                          V.i IntKind.i64 ((IntKind.i64.wrap x2).tmod (IntKind.i64.wrap ((↑n0 : Int) + (1 : Int)))),
                          V.b b, V.i IntKind.i64 (IntKind.i64.wrap ((↑s1.length : Int) + (1 : Int))),
                          V.i IntKind.i64 (IntKind.i64.wrap (x39z3 + (1 : Int)))]
                        h)
              (K Out.normal 67
                [V.ts cs0 n0 none, V.s s1,
                  V.i IntKind.i64 ((IntKind.i64.wrap x2).tmod (IntKind.i64.wrap ((↑n0 : Int) + (1 : Int)))), V.b false,
                  V.i IntKind.i64 (IntKind.i64.wrap ((↑s1.length : Int) + (1 : Int))),
                  V.i IntKind.i64 (IntKind.i64.wrap (x39z3 + (1 : Int)))]
                h)))
  (K (Out.exit 0) 67
    [V.ts cs0 n0 none, V.s s1,
      V.i IntKind.i64 ((IntKind.i64.wrap x2).tmod (IntKind.i64.wrap ((↑n0 : Int) + (1 : Int)))), V.b b8,
      V.i IntKind.i64 (IntKind.i64.wrap ((↑s1.length : Int) + (1 : Int))), V.i IntKind.i64 x39z3]
    h)) := by kernel_rfl
theorem f4_2 (cs0 : List V) (n0 : Nat) (s1 : List UInt8) (b8z2 : Bool) (h : Heap) (K : Out → Nat → List V → Heap → Prop) : (codeP Try.Y (Try.Y.loc 4) 100 (((post (flat (bodyOf Try.f4))).drop 1)) ⟨mk 67 (([0, 1, 8] : List Nat).zip [V.ts cs0 n0 none, V.s s1, V.b b8z2]), [], h⟩ (VQ [6] K)) =
  (∃ (b : Bool),
  (PCon Try.Y (18 : Nat) [V.ts cs0 n0 none, V.s s1] fun (v : V) => v = V.b b) ∧
    K Out.ret 67 [V.b (b8z2 == b)] h) := by kernel_rfl
theorem f106_0 (x0Lo : Int) (x0Hi : Int) (h : Heap) (K : Out → Nat → List V → Heap → Prop) : (codeP Try.Y (Try.Y.loc 106) 100 ((flat (bodyOf Try.f106))) ⟨(V.agg [V.i IntKind.u8 x0Lo, V.i IntKind.u8 x0Hi] :: List.replicate 7 .undef), [], h⟩ (VQ [2] K)) =
  (K Out.ret 8 [V.b (ltI x0Hi x0Lo)] h) := by kernel_rfl
theorem f76_0 (x0Kind : Int) (x0Byte : Int) (cs0Spans : List V) (n0Spans : Nat) (x1 : Int) (h : Heap) (K : Out → Nat → List V → Heap → Prop) : (codeP Try.Y (Try.Y.loc 76) 100 (pre (flat (bodyOf Try.f76))) ⟨(V.agg [V.i IntKind.i64 x0Kind, V.i IntKind.u8 x0Byte, V.ts cs0Spans n0Spans none] :: V.i IntKind.u8 x1 :: List.replicate 44 .undef), [], h⟩ (VQ [1, 2, 4, 5, 6, 10] K)) =
  (If (x0Kind == (0 : Int))
  (K Out.ret 46
    [V.i IntKind.u8 x1, V.lb [V.i IntKind.i64 x0Kind, V.i IntKind.u8 x0Byte, V.ts cs0Spans n0Spans none],
      V.b (x0Byte == x1), V.undef, V.undef, V.rf]
    h)
  (K Out.normal 46
    [V.i IntKind.u8 x1, V.lb [V.i IntKind.i64 x0Kind, V.i IntKind.u8 x0Byte, V.ts cs0Spans n0Spans none], V.b false,
      V.b (x0Kind == (1 : Int)), V.i IntKind.i64 (0 : Int), V.undef]
    h)) := by kernel_rfl
theorem f76_1 (x0Kind : Int) (x0Byte : Int) (cs0Spans : List V) (n0Spans : Nat) (x1 : Int) (b5z3 : Bool) (x6z3 : Int) (h : Heap) (K : Out → Nat → List V → Heap → Prop) : (codeP Try.Y (Try.Y.loc 76) 100 ((flat (loopB (post (flat (bodyOf Try.f76)))))) ⟨mk 46 (([1, 2, 5, 6, 10] : List Nat).zip [V.i IntKind.u8 x1, V.lb [V.i IntKind.i64 x0Kind, V.i IntKind.u8 x0Byte, V.ts cs0Spans n0Spans none], V.b b5z3, V.i IntKind.i64 x6z3, V.undef]), [], h⟩ (VQ [1, 2, 5, 6, 10] K)) =
  (If (ltI x6z3 (↑n0Spans : Int))
  (If b5z3
    (K Out.normal 46
      [V.i IntKind.u8 x1, V.lb [V.i IntKind.i64 x0Kind, V.i IntKind.u8 x0Byte, V.ts cs0Spans n0Spans none], V.b true,
        V.i IntKind.i64 (IntKind.i64.wrap (x6z3 + (1 : Int))), V.undef]
      h)
    (((0 : Int) ≤ x6z3 ∧ x6z3 < (↑n0Spans : Int)) ∧
      ∃ (n : Int),
        takeX 1 (List.drop (0 : Nat) (List.drop (x6z3.toNat * (2 : Nat)) cs0Spans)) =
            some [V.i IntKind.u8 n] ∧
          If (leI n x1)
            (((0 : Int) ≤ x6z3 ∧ x6z3 < (↑n0Spans : Int)) ∧
              ∃ (n : Int),
                takeX 1 (List.drop (1 : Nat) (List.drop (x6z3.toNat * (2 : Nat)) cs0Spans)) =
                    some [V.i IntKind.u8 n] ∧
                  K Out.normal 46
                    [V.i IntKind.u8 x1,
                      V.lb [V.i IntKind.i64 x0Kind, V.i IntKind.u8 x0Byte, V.ts cs0Spans n0Spans none], V.b (leI x1 n),
                      V.i IntKind.i64 (IntKind.i64.wrap (x6z3 + (1 : Int))), V.undef]
                    h)
            (K Out.normal 46
              [V.i IntKind.u8 x1, V.lb [V.i IntKind.i64 x0Kind, V.i IntKind.u8 x0Byte, V.ts cs0Spans n0Spans none],
                V.b false, V.i IntKind.i64 (IntKind.i64.wrap (x6z3 + (1 : Int))), V.undef]
              h)))
  (K (Out.exit 0) 46
    [V.i IntKind.u8 x1, V.lb [V.i IntKind.i64 x0Kind, V.i IntKind.u8 x0Byte, V.ts cs0Spans n0Spans none], V.b b5z3,
      V.i IntKind.i64 x6z3, V.undef]
    h)) := by kernel_rfl
theorem f76_2 (b5z3 : Bool) (h : Heap) (K : Out → Nat → List V → Heap → Prop) : (codeP Try.Y (Try.Y.loc 76) 100 (((post (flat (bodyOf Try.f76))).drop 1)) ⟨mk 46 (([5] : List Nat).zip [V.b b5z3]), [], h⟩ (VQ [4] K)) =
  (K Out.ret 46 [V.b b5z3] h) := by kernel_rfl
end Go.Y

/- What the pieces of functions come to: printed by program. -/
namespace Go.Y
open Go.Proofs
set_option maxRecDepth 100000
set_option maxHeartbeats 0
theorem f93a_0 (cs0 : List V) (n0 : Nat) (h : Heap) (K : Out → Nat → List V → Heap → Prop) : (codeP Try.Y (Try.Y.loc 93) 100 ((flat (bodyOf Try.f93))) ⟨(V.ts cs0 n0 none :: V.fn (.func 106) [] [] :: List.replicate 7 .undef), [], h⟩ (VQ [4] K)) =
  (Con Try.Y 114 [V.ts cs0 n0 none, V.fn (Fn.func 106) [] []] h fun (v : V) (h' : Heap) =>
  ∃ (n : Int), v = V.i IntKind.i64 n ∧ K Out.ret 9 [V.b (leI 0 n)] h') := by kernel_rfl
theorem f114a_0 (cs0 : List V) (n0 : Nat) (h : Heap) (K : Out → Nat → List V → Heap → Prop) : (codeP Try.Y (Try.Y.loc 114) 100 (pre (flat (bodyOf Try.f114))) ⟨(V.ts cs0 n0 none :: V.fn (.func 106) [] [] :: List.replicate 17 .undef), [], h⟩ (VQ [0, 1, 7, 8] K)) =
  (K Out.normal 19 [V.ts cs0 n0 none, V.fn (Fn.func 106) [] [], V.i IntKind.i64 (↑n0 : Int), V.i IntKind.i64 0] h) := by kernel_rfl
theorem f114a_1 (cs0 : List V) (n0 : Nat) (x8 : Int) (h : Heap) (K : Out → Nat → List V → Heap → Prop) : (codeP Try.Y (Try.Y.loc 114) 100 ((flat (loopB (post (flat (bodyOf Try.f114)))))) ⟨mk 19 (([0, 1, 7, 8] : List Nat).zip [V.ts cs0 n0 none, V.fn (Fn.func 106) [] [], V.i IntKind.i64 (↑n0 : Int), V.i IntKind.i64 x8]), [], h⟩ (VQ [0, 1, 4, 7, 8] K)) =
  (If (ltI x8 (↑n0 : Int))
  ((0 ≤ x8 ∧ x8 < (↑n0 : Int)) ∧
    ∃ (n : Int),
      ∃ (n_1 : Int),
        takeX 2 (List.drop (x8.toNat * 2) cs0) = some [V.i IntKind.u8 n, V.i IntKind.u8 n_1] ∧
          ∃ (b : Bool),
            (PCon Try.Y 106 [V.agg [V.i IntKind.u8 n, V.i IntKind.u8 n_1]] fun (v : V) => v = V.b b) ∧
              If b
                (K Out.ret 19
                  [V.ts cs0 n0 none, V.fn (Fn.func 106) [] [], V.i IntKind.i64 x8, V.i IntKind.i64 (↑n0 : Int),
                    V.i IntKind.i64 x8]
                  h)
                (K Out.normal 19
                  [V.ts cs0 n0 none, V.fn (Fn.func 106) [] [], V.undef, V.i IntKind.i64 (↑n0 : Int),
                    V.i IntKind.i64 (IntKind.i64.wrap (x8 + 1))]
                  h))
  (K (Out.exit 0) 19
    [V.ts cs0 n0 none, V.fn (Fn.func 106) [] [], V.undef, V.i IntKind.i64 (↑n0 : Int), V.i IntKind.i64 x8] h)) := by kernel_rfl
theorem f114a_2  (h : Heap) (K : Out → Nat → List V → Heap → Prop) : (codeP Try.Y (Try.Y.loc 114) 100 (((post (flat (bodyOf Try.f114))).drop 1)) ⟨mk 19 (([] : List Nat).zip []), [], h⟩ (VQ [4] K)) =
  (K Out.ret 19 [V.i IntKind.i64 (-1)] h) := by kernel_rfl
end Go.Y

/- What the pieces of functions come to: printed by program. -/
namespace Go.Y
open Go.Proofs
set_option maxRecDepth 100000
set_option maxHeartbeats 0
theorem f93b_0 (cs0 : List V) (n0 : Nat) (id : Nat) (h : Heap) (K : Out → Nat → List V → Heap → Prop) : (codeP Try.Y (Try.Y.loc 93) 100 ((flat (bodyOf Try.f93))) ⟨(V.ts cs0 n0 none :: V.fn (.func 94) [] [V.p (some (id, 0))] :: List.replicate 7 .undef), [], h⟩ (VQ [4] K)) =
  (Con Try.Y 114 [V.ts cs0 n0 none, V.fn (Fn.func 94) [] [V.p (some (id, 0))]] h fun (v : V) (h' : Heap) =>
  ∃ (n : Int), v = V.i IntKind.i64 n ∧ K Out.ret 9 [V.b (leI 0 n)] h') := by kernel_rfl
theorem f114b_0 (cs0 : List V) (n0 : Nat) (id : Nat) (h : Heap) (K : Out → Nat → List V → Heap → Prop) : (codeP Try.Y (Try.Y.loc 114) 100 (pre (flat (bodyOf Try.f114))) ⟨(V.ts cs0 n0 none :: V.fn (.func 94) [] [V.p (some (id, 0))] :: List.replicate 17 .undef), [], h⟩ (VQ [0, 1, 7, 8] K)) =
  (K Out.normal 19
  [V.ts cs0 n0 none, V.fn (Fn.func 94) [] [V.p (some (id, 0))], V.i IntKind.i64 (↑n0 : Int), V.i IntKind.i64 0] h) := by kernel_rfl
theorem f114b_1 (cs0 : List V) (n0 : Nat) (id : Nat) (x8 : Int) (h : Heap) (K : Out → Nat → List V → Heap → Prop) : (codeP Try.Y (Try.Y.loc 114) 100 ((flat (loopB (post (flat (bodyOf Try.f114)))))) ⟨mk 19 (([0, 1, 7, 8] : List Nat).zip [V.ts cs0 n0 none, V.fn (Fn.func 94) [] [V.p (some (id, 0))], V.i IntKind.i64 (↑n0 : Int), V.i IntKind.i64 x8]), [], h⟩ (VQ [0, 1, 4, 7, 8] K)) =
  (If (ltI x8 (↑n0 : Int))
  ((0 ≤ x8 ∧ x8 < (↑n0 : Int)) ∧
    ∃ (n : Int),
      ∃ (n_1 : Int),
        takeX 2 (List.drop (x8.toNat * 2) cs0) = some [V.i IntKind.u8 n, V.i IntKind.u8 n_1] ∧
          ∃ (b : Bool),
            RCon Try.Y 94 [V.agg [V.i IntKind.u8 n, V.i IntKind.u8 n_1], V.p (some (id, 0))] h (V.b b) ∧
              If b
                (K Out.ret 19
                  [V.ts cs0 n0 none, V.fn (Fn.func 94) [] [V.p (some (id, 0))], V.i IntKind.i64 x8,
                    V.i IntKind.i64 (↑n0 : Int), V.i IntKind.i64 x8]
                  h)
                (K Out.normal 19
                  [V.ts cs0 n0 none, V.fn (Fn.func 94) [] [V.p (some (id, 0))], V.undef, V.i IntKind.i64 (↑n0 : Int),
                    V.i IntKind.i64 (IntKind.i64.wrap (x8 + 1))]
                  h))
  (K (Out.exit 0) 19
    [V.ts cs0 n0 none, V.fn (Fn.func 94) [] [V.p (some (id, 0))], V.undef, V.i IntKind.i64 (↑n0 : Int),
      V.i IntKind.i64 x8]
    h)) := by kernel_rfl
theorem f114b_2  (h : Heap) (K : Out → Nat → List V → Heap → Prop) : (codeP Try.Y (Try.Y.loc 114) 100 (((post (flat (bodyOf Try.f114))).drop 1)) ⟨mk 19 (([] : List Nat).zip []), [], h⟩ (VQ [4] K)) =
  (K Out.ret 19 [V.i IntKind.i64 (-1)] h) := by kernel_rfl
theorem f94b_0 (x0 : Int) (x1 : Int) (id : Nat) (h : Heap) (K : Out → Nat → List V → Heap → Prop) : (codeP Try.Y (Try.Y.loc 94) 100 ((flat (bodyOf Try.f94))) ⟨(V.agg [V.i IntKind.u8 x0, V.i IntKind.u8 x1] :: V.p (some (id, 0)) :: List.replicate 12 .undef), [], h⟩ (VQ [3] K)) =
  (∃ (n : Int),
  hcells h id 0 1 = some [V.i IntKind.u8 n] ∧
    If (leI x0 n) (∃ (n : Int), hcells h id 0 1 = some [V.i IntKind.u8 n] ∧ K Out.ret 14 [V.b (leI n x1)] h)
      (K Out.ret 14 [V.b false] h)) := by kernel_rfl
end Go.Y

/- What the pieces of functions come to: printed by program. -/
namespace Go.Y
open Go.Proofs
set_option maxRecDepth 100000
set_option maxHeartbeats 0
theorem f29_0 (cs0 : List V) (n0 : Nat) (s1 : List UInt8) (h : Heap) (K : Out → Nat → List V → Heap → Prop) : (codeP Try.Y (Try.Y.loc 29) 100 (pre (flat (bodyOf Try.f29))) ⟨(V.ts cs0 n0 none :: V.s s1 :: List.replicate 83 .undef), [], h⟩ (VQ [0, 1, 4, 5, 6, 9] K)) =
  (∃ (b : Bool),
  (PCon Try.Y (17 : Nat) [V.ts cs0 n0 none] fun (v : V) => v = V.b b) ∧
    If (!b) (K Out.ret 85 [V.ts cs0 n0 none, V.s s1, V.b false, V.undef, V.undef, V.ts cs0 n0 none] h)
      (((0 : Int) ≤ IntKind.i64.wrap ((↑s1.length : Int) + (1 : Int)) ∧
          IntKind.i64.wrap ((↑s1.length : Int) + (1 : Int)) ≤ IntKind.i64.wrap ((↑s1.length : Int) + (1 : Int)) ∧
            IntKind.i64.wrap ((↑s1.length : Int) + (1 : Int)) ≤ (↑most : Int) ∧
              IntKind.i64.wrap ((↑s1.length : Int) + (1 : Int)) * (↑(1 : Nat) : Int) ≤ (↑most : Int)) ∧
        ((0 : Int) ≤ (0 : Int) ∧ (0 : Int) < (↑(IntKind.i64.wrap ((↑s1.length : Int) + (1 : Int))).toNat : Int)) ∧
          1 = 1 ∧
            ∃ (h_1 : Heap),
              hstore
                    (h.push
                      (YObj.arr
                        (List.replicate (IntKind.i64.wrap ((↑s1.length : Int) + (1 : Int))).toNat [V.b false]).flatten
                        true))
                    h.nx 0 [V.b true] =
                  some h_1 ∧
                K Out.normal 85
                  [V.ts cs0 n0 none, V.s s1, V.b false,
                    V.sl (some (h.nx, 0)) (IntKind.i64.wrap ((↑s1.length : Int) + (1 : Int))).toNat
                      (some (IntKind.i64.wrap ((↑s1.length : Int) + (1 : Int))).toNat) 1,
                    V.i IntKind.i64 (0 : Int), V.ts cs0 n0 none]
                  h_1)) := by kernel_rfl
theorem f29_1 (cs0 : List V) (n0 : Nat) (s1 : List UInt8) (id5 : Nat) (l5 : Nat) (c5 : Nat) (x6 : Int) (h : Heap) (K : Out → Nat → List V → Heap → Prop) : (codeP Try.Y (Try.Y.loc 29) 100 (pre (flat (loopB (post (flat (bodyOf Try.f29)))))) ⟨mk 85 (([0, 1, 5, 6, 9] : List Nat).zip [V.ts cs0 n0 none, V.s s1, V.sl (some (id5, 0)) l5 (some c5) 1, V.i IntKind.i64 x6, V.ts cs0 n0 none]), [], h⟩ (VQ [0, 1, 5, 6, 9] K)) =
  (If (ltI x6 (↑n0 : Int))
  (K Out.normal 85
    [V.ts cs0 n0 none, V.s s1, V.sl (some (id5, 0)) l5 (some c5) 1, V.i IntKind.i64 x6,
      V.ts cs0 n0 none]
    h)
  (K (Out.exit 0) 85
    [V.ts cs0 n0 none, V.s s1, V.sl (some (id5, 0)) l5 (some c5) 1, V.i IntKind.i64 x6,
      V.ts cs0 n0 none]
    h)) := by kernel_rfl
theorem f29_2 (cs0 : List V) (n0 : Nat) (s1 : List UInt8) (id5 : Nat) (l5 : Nat) (c5 : Nat) (x6 : Int) (h : Heap) (K : Out → Nat → List V → Heap → Prop) : (codeP Try.Y (Try.Y.loc 29) 100 (pre (flat (blockB (post (flat (loopB (post (flat (bodyOf Try.f29))))))))) ⟨mk 85 (([0, 1, 5, 6, 9] : List Nat).zip [V.ts cs0 n0 none, V.s s1, V.sl (some (id5, 0)) l5 (some c5) 1, V.i IntKind.i64 x6, V.ts cs0 n0 none]), [], h⟩ (VQ [0, 1, 5, 6, 7, 8, 9] K)) =
  (((0 : Int) ≤ IntKind.i64.wrap ((↑s1.length : Int) + (1 : Int)) ∧
    IntKind.i64.wrap ((↑s1.length : Int) + (1 : Int)) ≤ IntKind.i64.wrap ((↑s1.length : Int) + (1 : Int)) ∧
      IntKind.i64.wrap ((↑s1.length : Int) + (1 : Int)) ≤ (↑most : Int) ∧
        IntKind.i64.wrap ((↑s1.length : Int) + (1 : Int)) * (↑(1 : Nat) : Int) ≤ (↑most : Int)) ∧
  K Out.normal 85
    [V.ts cs0 n0 none, V.s s1, V.sl (some (id5, 0)) l5 (some c5) 1, V.i IntKind.i64 x6,
      V.sl (some (h.nx, 0)) (IntKind.i64.wrap ((↑s1.length : Int) + (1 : Int))).toNat
        (some (IntKind.i64.wrap ((↑s1.length : Int) + (1 : Int))).toNat) 1,
      V.i IntKind.i64 (0 : Int), V.ts cs0 n0 none]
    (h.push
      (YObj.arr (List.replicate (IntKind.i64.wrap ((↑s1.length : Int) + (1 : Int))).toNat [V.b false]).flatten true))) := by kernel_rfl
theorem f29_3 (cs0 : List V) (n0 : Nat) (s1 : List UInt8) (id5 : Nat) (l5 : Nat) (c5 : Nat) (x6 : Int) (id7z2 : Nat) (l7z2 : Nat) (c7z2 : Nat) (x8z6 : Int) (h : Heap) (K : Out → Nat → List V → Heap → Prop) : (codeP Try.Y (Try.Y.loc 29) 100 ((flat (loopB (post (flat (blockB (post (flat (loopB (post (flat (bodyOf Try.f29)))))))))))) ⟨mk 85 (([0, 1, 5, 6, 7, 8, 9] : List Nat).zip [V.ts cs0 n0 none, V.s s1, V.sl (some (id5, 0)) l5 (some c5) 1, V.i IntKind.i64 x6, V.sl (some (id7z2, 0)) l7z2 (some c7z2) 1, V.i IntKind.i64 x8z6, V.ts cs0 n0 none]), [], h⟩ (VQ [0, 1, 5, 6, 7, 8, 9] K)) =
  (If (leI x8z6 (↑s1.length : Int))
  (((0 : Int) ≤ x6 ∧ x6 < (↑n0 : Int)) ∧
    ∃ (n : Int),
      takeX 1 (List.drop (0 : Nat) (List.drop (x6.toNat * (3 : Nat)) cs0)) = some [V.i IntKind.i64 n] ∧
        If (n == (2 : Int))
          (((0 : Int) ≤ x8z6 ∧ x8z6 < (↑l5 : Int)) ∧
            1 = 1 ∧
              ∃ (b : Bool),
                hcells h id5 ((0 : Nat) + x8z6.toNat * (1 : Nat)) 1 = some [V.b b] ∧
                  If b
                    (((0 : Int) ≤ x8z6 ∧ x8z6 < (↑l7z2 : Int)) ∧
                      1 = 1 ∧
                        ∃ (h_1 : Heap),
                          hstore h id7z2 ((0 : Nat) + x8z6.toNat * (1 : Nat)) [V.b true] = some h_1 ∧
                            K Out.normal 85
                              [V.ts cs0 n0 none, V.s s1, V.sl (some (id5, 0)) l5 (some c5) 1,
                                V.i IntKind.i64 x6, V.sl (some (id7z2, 0)) l7z2 (some c7z2) 1,
                                V.i IntKind.i64 (IntKind.i64.wrap (x8z6 + (1 : Int))), V.ts cs0 n0 none]
                              h_1)
                    (If (ltI (0 : Int) x8z6)
                      (((0 : Int) ≤ IntKind.i64.wrap (x8z6 - (1 : Int)) ∧
                          IntKind.i64.wrap (x8z6 - (1 : Int)) < (↑l7z2 : Int)) ∧
                        1 = 1 ∧
                          ∃ (b : Bool),
                            hcells h id7z2 ((0 : Nat) + (IntKind.i64.wrap (x8z6 - (1 : Int))).toNat * (1 : Nat))
                                  1 =
                                some [V.b b] ∧
                              ((0 : Int) ≤ x8z6 ∧ x8z6 < (↑l7z2 : Int)) ∧
                                1 = 1 ∧
                                  ∃ (h_1 : Heap),
                                    hstore h id7z2 ((0 : Nat) + x8z6.toNat * (1 : Nat)) [V.b b] = some h_1 ∧
                                      K Out.normal 85
                                        [V.ts cs0 n0 none, V.s s1,
                                          V.sl (some (id5, 0)) l5 (some c5) 1, V.i IntKind.i64 x6,
                                          V.sl (some (id7z2, 0)) l7z2 (some c7z2) 1,
                                          V.i IntKind.i64 (IntKind.i64.wrap (x8z6 + (1 : Int))), V.ts cs0 n0 none]
                                        h_1)
                      (((0 : Int) ≤ x8z6 ∧ x8z6 < (↑l7z2 : Int)) ∧
                        1 = 1 ∧
                          ∃ (h_1 : Heap),
                            hstore h id7z2 ((0 : Nat) + x8z6.toNat * (1 : Nat)) [V.b false] = some h_1 ∧
                              K Out.normal 85
                                [V.ts cs0 n0 none, V.s s1, V.sl (some (id5, 0)) l5 (some c5) 1,
                                  V.i IntKind.i64 x6, V.sl (some (id7z2, 0)) l7z2 (some c7z2) 1,
                                  V.i IntKind.i64 (IntKind.i64.wrap (x8z6 + (1 : Int))), V.ts cs0 n0 none]
                                h_1)))
          (If (ltI (0 : Int) x8z6)
            (((0 : Int) ≤ IntKind.i64.wrap (x8z6 - (1 : Int)) ∧ IntKind.i64.wrap (x8z6 - (1 : Int)) < (↑l5 : Int)) ∧
              1 = 1 ∧
                ∃ (b : Bool),
                  hcells h id5 ((0 : Nat) + (IntKind.i64.wrap (x8z6 - (1 : Int))).toNat * (1 : Nat)) 1 =
                      some [V.b b] ∧
                    If b
                      (((0 : Int) ≤ x6 ∧ x6 < (↑n0 : Int)) ∧
                        ∃ (n : Int),
                          ∃ (n_1 : Int),
                            ∃ (cs : List V),
                              ∃ (l : Nat),
                                ∃ (c : Option Nat),
                                  takeX 3 (List.drop (x6.toNat * (3 : Nat)) cs0) =
                                      some [V.i IntKind.i64 n, V.i IntKind.u8 n_1, V.ts cs l c] ∧
                                    ∃ (c_1 : UInt8),
                                      ((0 : Int) ≤ IntKind.i64.wrap (x8z6 - (1 : Int)) ∧
                                          s1[(IntKind.i64.wrap (x8z6 - (1 : Int))).toNat]? = some c_1) ∧
                                        ∃ (b : Bool),
                                          (PCon Try.Y (76 : Nat)
                                              [V.agg [V.i IntKind.i64 n, V.i IntKind.u8 n_1, V.ts cs l c],
                                                V.i IntKind.u8 (↑c_1.toNat : Int)]
                                              fun (v : V) => v = V.b b) ∧
                                            ((0 : Int) ≤ x8z6 ∧ x8z6 < (↑l7z2 : Int)) ∧
                                              1 = 1 ∧
                                                ∃ (h_1 : Heap),
                                                  hstore h id7z2 ((0 : Nat) + x8z6.toNat * (1 : Nat)) [V.b b] =
                                                      some h_1 ∧
                                                    K Out.normal 85
                                                      [V.ts cs0 n0 none, V.s s1,
                                                        V.sl (some (id5, 0)) l5 (some c5) 1,
                                                        V.i IntKind.i64 x6,
                                                        V.sl (some (id7z2, 0)) l7z2 (some c7z2) 1,
                                                        V.i IntKind.i64 (IntKind.i64.wrap (x8z6 + (1 : Int))),
                                                        V.ts cs0 n0 none]
                                                      h_1)
                      (((0 : Int) ≤ x8z6 ∧ x8z6 < (↑l7z2 : Int)) ∧
                        1 = 1 ∧
                          ∃ (h_1 : Heap),
                            hstore h id7z2 ((0 : Nat) + x8z6.toNat * (1 : Nat)) [V.b false] = some h_1 ∧
                              K Out.normal 85
                                [V.ts cs0 n0 none, V.s s1, V.sl (some (id5, 0)) l5 (some c5) 1,
                                  V.i IntKind.i64 x6, V.sl (some (id7z2, 0)) l7z2 (some c7z2) 1,
                                  V.i IntKind.i64 (IntKind.i64.wrap (x8z6 + (1 : Int))), V.ts cs0 n0 none]
                                h_1))
            (K Out.normal 85
              [V.ts cs0 n0 none, V.s s1, V.sl (some (id5, 0)) l5 (some c5) 1, V.i IntKind.i64 x6,
                V.sl (some (id7z2, 0)) l7z2 (some c7z2) 1,
                V.i IntKind.i64 (IntKind.i64.wrap (x8z6 + (1 : Int))), V.ts cs0 n0 none]
              h)))
  (K (Out.exit 2) 85
    [V.ts cs0 n0 none, V.s s1, V.sl (some (id5, 0)) l5 (some c5) 1, V.i IntKind.i64 x6,
      V.sl (some (id7z2, 0)) l7z2 (some c7z2) 1, V.i IntKind.i64 x8z6, V.ts cs0 n0 none]
    h)) := by kernel_rfl
theorem f29_4 (cs0 : List V) (n0 : Nat) (s1 : List UInt8) (x6 : Int) (id7z2 : Nat) (l7z2 : Nat) (c7z2 : Nat) (h : Heap) (K : Out → Nat → List V → Heap → Prop) : (codeP Try.Y (Try.Y.loc 29) 100 (((post (flat (blockB (post (flat (loopB (post (flat (bodyOf Try.f29))))))))).drop 1)) ⟨mk 85 (([0, 1, 6, 7, 9] : List Nat).zip [V.ts cs0 n0 none, V.s s1, V.i IntKind.i64 x6, V.sl (some (id7z2, 0)) l7z2 (some c7z2) 1, V.ts cs0 n0 none]), [], h⟩ (VQ [0, 1, 5, 6, 9] K)) =
  (K Out.normal 85
  [V.ts cs0 n0 none, V.s s1, V.sl (some (id7z2, 0)) l7z2 (some c7z2) 1, V.i IntKind.i64 x6,
    V.ts cs0 n0 none]
  h) := by kernel_rfl
theorem f29_5 (cs0 : List V) (n0 : Nat) (s1 : List UInt8) (x6 : Int) (id7z2 : Nat) (l7z2 : Nat) (c7z2 : Nat) (h : Heap) (K : Out → Nat → List V → Heap → Prop) : (codeP Try.Y (Try.Y.loc 29) 100 (((post (flat (loopB (post (flat (bodyOf Try.f29)))))).drop 1)) ⟨mk 85 (([0, 1, 5, 6, 9] : List Nat).zip [V.ts cs0 n0 none, V.s s1, V.sl (some (id7z2, 0)) l7z2 (some c7z2) 1, V.i IntKind.i64 x6, V.ts cs0 n0 none]), [], h⟩ (VQ [0, 1, 5, 6, 9] K)) =
  (K Out.normal 85
  [V.ts cs0 n0 none, V.s s1, V.sl (some (id7z2, 0)) l7z2 (some c7z2) 1,
    V.i IntKind.i64 (IntKind.i64.wrap (x6 + (1 : Int))), V.ts cs0 n0 none]
  h) := by kernel_rfl
theorem f29_6 (s1 : List UInt8) (id5 : Nat) (l5 : Nat) (c5 : Nat) (h : Heap) (K : Out → Nat → List V → Heap → Prop) : (codeP Try.Y (Try.Y.loc 29) 100 (((post (flat (bodyOf Try.f29))).drop 1)) ⟨mk 85 (([1, 5] : List Nat).zip [V.s s1, V.sl (some (id5, 0)) l5 (some c5) 1]), [], h⟩ (VQ [4] K)) =
  (((0 : Int) ≤ (↑s1.length : Int) ∧ (↑s1.length : Int) < (↑l5 : Int)) ∧
  1 = 1 ∧
    ∃ (b : Bool),
      hcells h id5 ((0 : Nat) + (↑s1.length : Int).toNat * (1 : Nat)) 1 = some [V.b b] ∧
        K Out.ret 85 [V.b b] h) := by kernel_rfl
end Go.Y

/- What the pieces of functions come to: printed by program. -/
namespace Go.Y
open Go.Proofs
set_option maxRecDepth 100000
set_option maxHeartbeats 0
theorem f28_0 (cs0 : List V) (n0 : Nat) (cs1 : List V) (n1 : Nat) (h : Heap) (K : Out → Nat → List V → Heap → Prop) : (codeP Try.Y (Try.Y.loc 28) 100 ((flat (bodyOf Try.f28))) ⟨(V.ts cs0 n0 none :: V.ts cs1 n1 none :: List.replicate 6 .undef), [], h⟩ (VQ [4] K)) =
  (Con Try.Y (73 : Nat) [V.ts cs0 n0 none, V.ts cs1 n1 none, V.fn (Fn.func (74 : Nat)) [] []] h fun (v : V) (h' : Heap) =>
  ∃ (b : Bool), v = V.b b ∧ K Out.ret 8 [V.b b] h') := by kernel_rfl
theorem f73_0 (cs0 : List V) (n0 : Nat) (cs1 : List V) (n1 : Nat) (h : Heap) (K : Out → Nat → List V → Heap → Prop) : (codeP Try.Y (Try.Y.loc 73) 100 (pre (flat (bodyOf Try.f73))) ⟨(V.ts cs0 n0 none :: V.ts cs1 n1 none :: V.fn (.func 74) [] [] :: List.replicate 29 .undef), [], h⟩ (VQ [1, 2, 6, 15, 16, 17] K)) =
  (If ((↑n0 : Int) != (↑n1 : Int))
  (K Out.ret 32 [V.ts cs1 n1 none, V.fn (Fn.func 74) [] [], V.b false, V.undef, V.undef, V.undef]
    h)
  (K Out.normal 32
    [V.ts cs1 n1 none, V.fn (Fn.func 74) [] [], V.b false, V.ts cs0 n0 none, V.i IntKind.i64 (↑n0 : Int),
      V.i IntKind.i64 (0 : Int)]
    h)) := by kernel_rfl
theorem f73_1 (cs0 : List V) (n0 : Nat) (cs1 : List V) (n1 : Nat) (x17 : Int) (h : Heap) (K : Out → Nat → List V → Heap → Prop) : (codeP Try.Y (Try.Y.loc 73) 100 ((flat (loopB (post (flat (bodyOf Try.f73)))))) ⟨mk 32 (([1, 2, 15, 16, 17] : List Nat).zip [V.ts cs1 n1 none, V.fn (Fn.func 74) [] [], V.ts cs0 n0 none, V.i IntKind.i64 (↑n0 : Int), V.i IntKind.i64 x17]), [], h⟩ (VQ [1, 2, 6, 15, 16, 17] K)) =
  (If (ltI x17 (↑n0 : Int))
  (((0 : Int) ≤ x17 ∧ x17 < (↑n0 : Int)) ∧
    ∃ (n : Int),
      ∃ (n_1 : Int),
        ∃ (cs : List V),
          ∃ (l : Nat),
            ∃ (c : Option Nat),
              takeX 3 (List.drop (x17.toNat * (3 : Nat)) cs0) =
                  some [V.i IntKind.i64 n, V.i IntKind.u8 n_1, V.ts cs l c] ∧
                ((0 : Int) ≤ x17 ∧ x17 < (↑n1 : Int)) ∧
                  ∃ (n_2 : Int),
                    ∃ (n_3 : Int),
                      ∃ (cs_1 : List V),
                        ∃ (l_1 : Nat),
                          ∃ (c_1 : Option Nat),
                            takeX 3 (List.drop (x17.toNat * (3 : Nat)) cs1) =
                                some [V.i IntKind.i64 n_2, V.i IntKind.u8 n_3, V.ts cs_1 l_1 c_1] ∧
                              ∃ (b : Bool),
                                (PCon Try.Y 74
                                    [V.agg [V.i IntKind.i64 n, V.i IntKind.u8 n_1, V.ts cs l c],
                                      V.agg [V.i IntKind.i64 n_2, V.i IntKind.u8 n_3, V.ts cs_1 l_1 c_1]]
                                    fun (v : V) => v = V.b b) ∧
                                  If (!b)
                                    (K Out.ret 32
                                      [V.ts cs1 n1 none, V.fn (Fn.func 74) [] [], V.b false,
                                        V.ts cs0 n0 none, V.i IntKind.i64 (↑n0 : Int), V.i IntKind.i64 x17]
                                      h)
                                    (K Out.normal 32
                                      [V.ts cs1 n1 none, V.fn (Fn.func 74) [] [], V.undef, V.ts cs0 n0 none,
                                        V.i IntKind.i64 (↑n0 : Int),
                                        V.i IntKind.i64 (IntKind.i64.wrap (x17 + (1 : Int)))]
                                      h))
  (K (Out.exit 0) 32
    [V.ts cs1 n1 none, V.fn (Fn.func 74) [] [], V.undef, V.ts cs0 n0 none, V.i IntKind.i64 (↑n0 : Int),
      V.i IntKind.i64 x17]
    h)) := by kernel_rfl
theorem f73_2  (h : Heap) (K : Out → Nat → List V → Heap → Prop) : (codeP Try.Y (Try.Y.loc 73) 100 (((post (flat (bodyOf Try.f73))).drop 1)) ⟨mk 32 (([] : List Nat).zip []), [], h⟩ (VQ [6] K)) =
  (K Out.ret 32 [V.b true] h) := by kernel_rfl
theorem f74_0 (x0Kind : Int) (x0Byte : Int) (cs0Spans : List V) (n0Spans : Nat) (x1Kind : Int) (x1Byte : Int) (cs1Spans : List V) (n1Spans : Nat) (h : Heap) (K : Out → Nat → List V → Heap → Prop) : (codeP Try.Y (Try.Y.loc 74) 100 ((flat (bodyOf Try.f74))) ⟨(V.agg [V.i IntKind.i64 x0Kind, V.i IntKind.u8 x0Byte, V.ts cs0Spans n0Spans none] :: V.agg [V.i IntKind.i64 x1Kind, V.i IntKind.u8 x1Byte, V.ts cs1Spans n1Spans none] :: List.replicate 22 .undef), [], h⟩ (VQ [4] K)) =
  (If (x0Kind == x1Kind)
  (If (x0Byte == x1Byte)
    (∃ (b : Bool),
      (PCon Try.Y (75 : Nat) [V.ts cs0Spans n0Spans none, V.ts cs1Spans n1Spans none] fun (v : V) => v = V.b b) ∧
        K Out.ret 24 [V.b b] h)
    (K Out.ret 24 [V.b false] h))
  (K Out.ret 24 [V.b false] h)) := by kernel_rfl
theorem f75_0 (cs0 : List V) (n0 : Nat) (cs1 : List V) (n1 : Nat) (h : Heap) (K : Out → Nat → List V → Heap → Prop) : (codeP Try.Y (Try.Y.loc 75) 100 (pre (flat (bodyOf Try.f75))) ⟨(V.ts cs0 n0 none :: V.ts cs1 n1 none :: List.replicate 24 .undef), [], h⟩ (VQ [0, 1, 4, 12, 13] K)) =
  (If ((↑n0 : Int) != (↑n1 : Int))
  (K Out.ret 26 [V.ts cs0 n0 none, V.ts cs1 n1 none, V.b false, V.undef, V.undef] h)
  (K Out.normal 26
    [V.ts cs0 n0 none, V.ts cs1 n1 none, V.b false, V.i IntKind.i64 (↑n0 : Int), V.i IntKind.i64 (0 : Int)] h)) := by kernel_rfl
theorem f75_1 (cs0 : List V) (n0 : Nat) (cs1 : List V) (n1 : Nat) (x13 : Int) (h : Heap) (K : Out → Nat → List V → Heap → Prop) : (codeP Try.Y (Try.Y.loc 75) 100 ((flat (loopB (post (flat (bodyOf Try.f75)))))) ⟨mk 26 (([0, 1, 12, 13] : List Nat).zip [V.ts cs0 n0 none, V.ts cs1 n1 none, V.i IntKind.i64 (↑n0 : Int), V.i IntKind.i64 x13]), [], h⟩ (VQ [0, 1, 4, 12, 13] K)) =
  (If (ltI x13 (↑n0 : Int))
  (((0 : Int) ≤ x13 ∧ x13 < (↑n0 : Int)) ∧
    ∃ (n : Int),
      ∃ (n_1 : Int),
        takeX 2 (List.drop (x13.toNat * (2 : Nat)) cs0) = some [V.i IntKind.u8 n, V.i IntKind.u8 n_1] ∧
          ((0 : Int) ≤ x13 ∧ x13 < (↑n1 : Int)) ∧
            ∃ (n_2 : Int),
              ∃ (n_3 : Int),
                takeX 2 (List.drop (x13.toNat * (2 : Nat)) cs1) =
                    some [V.i IntKind.u8 n_2, V.i IntKind.u8 n_3] ∧
                  If (!(n == n_2 && (n_1 == n_3 && true)))
                    (K Out.ret 26
                      [V.ts cs0 n0 none, V.ts cs1 n1 none, V.b false, V.i IntKind.i64 (↑n0 : Int), V.i IntKind.i64 x13]
                      h)
                    (K Out.normal 26
                      [V.ts cs0 n0 none, V.ts cs1 n1 none, V.undef, V.i IntKind.i64 (↑n0 : Int),
                        V.i IntKind.i64 (IntKind.i64.wrap (x13 + (1 : Int)))]
                      h))
  (K (Out.exit 0) 26
    [V.ts cs0 n0 none, V.ts cs1 n1 none, V.undef, V.i IntKind.i64 (↑n0 : Int), V.i IntKind.i64 x13] h)) := by kernel_rfl
theorem f75_2  (h : Heap) (K : Out → Nat → List V → Heap → Prop) : (codeP Try.Y (Try.Y.loc 75) 100 (((post (flat (bodyOf Try.f75))).drop 1)) ⟨mk 26 (([] : List Nat).zip []), [], h⟩ (VQ [4] K)) =
  (K Out.ret 26 [V.b true] h) := by kernel_rfl
theorem f7_0 (cs0 : List V) (n0 : Nat) (cs1 : List V) (n1 : Nat) (s2 : List UInt8) (h : Heap) (K : Out → Nat → List V → Heap → Prop) : (codeP Try.Y (Try.Y.loc 7) 100 ((flat (bodyOf Try.f7))) ⟨(V.ts cs0 n0 none :: V.ts cs1 n1 none :: V.s s2 :: List.replicate 44 .undef), [], h⟩ (VQ [6] K)) =
  (∃ (b : Bool),
  (PCon Try.Y (12 : Nat) [] fun (v : V) => v = V.b b) ∧
    If (!b) (K Out.ret 47 [V.b false] h)
      (∃ (b : Bool),
        (PCon Try.Y (16 : Nat) [V.ts cs0 n0 none] fun (v : V) => v = V.b b) ∧
          If (!b) (K Out.ret 47 [V.b true] h)
            (∃ (b : Bool),
              (PCon Try.Y (16 : Nat) [V.ts cs1 n1 none] fun (v : V) => v = V.b b) ∧
                If (!b) (K Out.ret 47 [V.b true] h)
                  (If (ltI (60 : Int) (↑s2.length : Int)) (K Out.ret 47 [V.b true] h)
                    (∃ (b : Bool),
                      (PCon Try.Y (18 : Nat) [V.ts cs0 n0 none, V.s s2] fun (v : V) => v = V.b b) ∧
                        ∃ (b_1 : Bool),
                          (PCon Try.Y (29 : Nat) [V.ts cs0 n0 none, V.s s2] fun (v : V) => v = V.b b_1) ∧
                            If (b == b_1)
                              (∃ (b : Bool),
                                (PCon Try.Y (18 : Nat) [V.ts cs1 n1 none, V.s s2] fun (v : V) => v = V.b b) ∧
                                  ∃ (b_2 : Bool),
                                    (PCon Try.Y (29 : Nat) [V.ts cs1 n1 none, V.s s2] fun (v : V) => v = V.b b_2) ∧
                                      If (b == b_2)
                                        (∃ (b : Bool),
                                          (PCon Try.Y (28 : Nat) [V.ts cs0 n0 none, V.ts cs1 n1 none] fun (v : V) =>
                                              v = V.b b) ∧
                                            ∃ (b_3 : Bool),
                                              (PCon Try.Y (15 : Nat) [V.ts cs0 n0 none, V.ts cs1 n1 none] fun (v : V) =>
                                                  v = V.b b_3) ∧
                                                K Out.ret 47 [V.b (b == b_3)] h)
                                        (K Out.ret 47 [V.b false] h))
                              (K Out.ret 47 [V.b false] h)))))) := by kernel_rfl
end Go.Y

/- What the pieces of functions come to: printed by program. -/
namespace Go.Y
open Go.Proofs
set_option maxRecDepth 100000
set_option maxHeartbeats 0
theorem f63_0 (id : Nat) (c : Int) (h : Heap) (K : Out → Nat → List V → Heap → Prop) : (codeP Try.Y (Try.Y.loc 63) 100 ((flat (bodyOf Try.f63))) ⟨(V.p (some (id, 0)) :: V.i IntKind.u8 c :: List.replicate 15 .undef), [], h⟩ (VQ [4] K)) =
  (Con Try.Y (104 : Nat) [V.p (some (id, 0))] h fun (v : V) (h' : Heap) =>
  v = V.tup [] ∧
    ∃ (a : Option (Nat × Nat)),
      ∃ (l : Nat),
        ∃ (c_1 : Option Nat),
          ∃ (k : Nat),
            hcells h' id 1 1 = some [V.sl a l c_1 k] ∧
              ∃ (a_1 : Option (Nat × Nat)),
                ∃ (l_1 : Nat),
                  ∃ (c_2 : Option Nat),
                    ∃ (k_1 : Nat),
                      ∃ (h : Heap),
                        appendH Try.Y h' 90 90 (V.sl a l c_1 k)
                              (V.ts [V.i IntKind.u8 c] 1 (some 1)) =
                            some (V.sl a_1 l_1 c_2 k_1, h) ∧
                          ∃ (h_1 : Heap),
                            hstore h id 1 [V.sl a_1 l_1 c_2 k_1] = some h_1 ∧
                              K Out.ret 17 [V.nilifc] h_1) := by kernel_rfl
theorem f64_0 (id : Nat) (s : List UInt8) (h : Heap) (K : Out → Nat → List V → Heap → Prop) : (codeP Try.Y (Try.Y.loc 64) 100 ((flat (bodyOf Try.f64))) ⟨(V.p (some (id, 0)) :: V.s s :: List.replicate 17 .undef), [], h⟩ (VQ [4, 5] K)) =
  (Con Try.Y (104 : Nat) [V.p (some (id, 0))] h fun (v : V) (h' : Heap) =>
  v = V.tup [] ∧
    ∃ (a : Option (Nat × Nat)),
      ∃ (l : Nat),
        ∃ (c : Option Nat),
          ∃ (k : Nat),
            hcells h' id 1 1 = some [V.sl a l c k] ∧
              ∃ (a_1 : Option (Nat × Nat)),
                ∃ (l_1 : Nat),
                  ∃ (c_1 : Option Nat),
                    ∃ (k_1 : Nat),
                      ∃ (h : Heap),
                        appendH Try.Y h' 90 9 (V.sl a l c k) (V.s s) =
                            some (V.sl a_1 l_1 c_1 k_1, h) ∧
                          ∃ (h_1 : Heap),
                            hstore h id 1 [V.sl a_1 l_1 c_1 k_1] = some h_1 ∧
                              K Out.ret 19 [V.i IntKind.i64 (↑s.length : Int), V.nilifc] h_1) := by kernel_rfl
theorem f67_0 (id : Nat) (h : Heap) (K : Out → Nat → List V → Heap → Prop) : (codeP Try.Y (Try.Y.loc 67) 100 ((flat (bodyOf Try.f67))) ⟨(V.p (some (id, 0)) :: List.replicate 7 .undef), [], h⟩ (VQ [2] K)) =
  (∃ (a : Option (Nat × Nat)),
  ∃ (l : Nat),
    ∃ (c : Option Nat),
      ∃ (k : Nat),
        hcells h id 1 1 = some [V.sl a l c k] ∧ K Out.ret 8 [V.i IntKind.i64 (↑l : Int)] h) := by kernel_rfl
theorem f68_0 (id : Nat) (h : Heap) (K : Out → Nat → List V → Heap → Prop) : (codeP Try.Y (Try.Y.loc 68) 100 ((flat (bodyOf Try.f68))) ⟨(V.p (some (id, 0)) :: List.replicate 13 .undef), [], h⟩ (VQ [2] K)) =
  (∃ (a : Option (Nat × Nat)),
  ∃ (l : Nat),
    ∃ (c : Option Nat),
      ∃ (k : Nat),
        hcells h id 1 1 = some [V.sl a l c k] ∧
          (l = 0 → a = none) ∧
            ∃ (a_1 : Option (Nat × Nat)),
              ∃ (l : Nat),
                ∃ (c : Option Nat),
                  ∃ (k : Nat),
                    hcells h id 1 1 = some [V.sl a_1 l c k] ∧
                      ∃ (s : List UInt8),
                        ∃ (h_1 : Heap),
                          strH Try.Y h 133 a (↑l : Int) = some (h_1, s) ∧ K Out.ret 14 [V.s s] h_1) := by kernel_rfl
theorem f104_0 (id : Nat) (h : Heap) (K : Out → Nat → List V → Heap → Prop) : (codeP Try.Y (Try.Y.loc 104) 100 ((flat (bodyOf Try.f104))) ⟨(V.p (some (id, 0)) :: List.replicate 19 .undef), [], h⟩ (VQ [] K)) =
  (∃ (a : Option (Nat × Nat)),
  hcells h id 0 1 = some [V.p a] ∧
    (Try.Y.ty 92).isSome = true ∧
      If a.isNone
        ((∃ (id_1 : Nat),
            ∃ (cs : List V),
              ∃ (wr : Bool),
                ∃ (ti : TI),
                  some (id, 0) = some (id_1, 0) ∧
                    h.get id_1 = some (YObj.arr cs wr) ∧
                      h.tagOf id_1 = some 92 ∧
                        some
                              { size := (2 : Nat), bytes := (32 : Nat),
                                kd := Kd.struct [((0 : Nat), 89), ((1 : Nat), 90)],
                                zero := [V.p none, V.sl none (0 : Nat) (some (0 : Nat)) (0 : Nat)] } =
                            some ti ∧
                          (ti.size = 0 → False) ∧ ti.size ≤ cs.length) ∧
          (∃ (id_1 : Nat),
              ∃ (cs : List V),
                ∃ (wr : Bool),
                  ∃ (ti : TI),
                    some (id, 0) = some (id_1, 0) ∧
                      h.get id_1 = some (YObj.arr cs wr) ∧
                        h.tagOf id_1 = some 92 ∧
                          some
                                { size := (2 : Nat), bytes := (32 : Nat),
                                  kd := Kd.struct [((0 : Nat), 89), ((1 : Nat), 90)],
                                  zero := [V.p none, V.sl none (0 : Nat) (some (0 : Nat)) (0 : Nat)] } =
                              some ti ∧
                            (ti.size = 0 → False) ∧ ti.size ≤ cs.length) ∧
            ∃ (h_1 : Heap),
              hstore h id 0 [V.p (some (id, 0))] = some h_1 ∧ K Out.normal 20 [] h_1)
        (∃ (a : Option (Nat × Nat)),
          hcells h id 0 1 = some [V.p a] ∧
            (Try.Y.ty 92).isSome = true ∧
              (∃ (p : Nat × Nat), a = some p ∧ some (id, 0) = some p ∧ (h.get p.fst).isSome = true) ∧
                K Out.normal 20 [] h)) := by kernel_rfl
theorem f66_0 (x0 : Int) (s1 : List UInt8) (h : Heap) (K : Out → Nat → List V → Heap → Prop) : (codeP Try.Y (Try.Y.loc 66) 100 ((flat (bodyOf Try.f66))) ⟨(V.i IntKind.u8 x0 :: V.s s1 :: List.replicate 13 .undef), [], h⟩ (VQ [4] K)) =
  (∃ (n : Int),
  (PCon Try.Y (100 : Nat) [V.s s1, V.i IntKind.u8 x0] fun (v : V) => v = V.i IntKind.i64 n) ∧
    If (leI (0 : Int) n)
      (∃ (l : List UInt8),
        some
              (Q.val
                (V.s
                  ((fun (x : List UInt8) => UInt8.ofNat (Int.toNat (92 : Int)) :: x)
                    ((fun (x : List UInt8) => UInt8.ofNat x0.toNat :: x) [])))) =
            some (Q.val (V.s l)) ∧
          K Out.ret 15 [V.s l] h)
      (∃ (l : List UInt8),
        some (Q.val (V.s ((fun (x : List UInt8) => UInt8.ofNat x0.toNat :: x) []))) = some (Q.val (V.s l)) ∧
          K Out.ret 15 [V.s l] h)) := by kernel_rfl
theorem f100_0 (s0 : List UInt8) (x1 : Int) (h : Heap) (K : Out → Nat → List V → Heap → Prop) : (codeP Try.Y (Try.Y.loc 100) 100 ((flat (bodyOf Try.f100))) ⟨(V.s s0 :: V.i IntKind.u8 x1 :: List.replicate 6 .undef), [], h⟩ (VQ [4] K)) =
  (∃ (n : Int),
  (PCon Try.Y (119 : Nat) [V.s s0, V.i IntKind.u8 x1] fun (v : V) => v = V.i IntKind.i64 n) ∧
    K Out.ret 8 [V.i IntKind.i64 n] h) := by kernel_rfl
theorem f119_0 (s0 : List UInt8) (x1 : Int) (h : Heap) (K : Out → Nat → List V → Heap → Prop) : (codeP Try.Y (Try.Y.loc 119) 100 ((flat (bodyOf Try.f119))) ⟨(V.s s0 :: V.i IntKind.u8 x1 :: List.replicate 6 .undef), [], h⟩ (VQ [4] K)) =
  (K Out.ret 8 [V.i IntKind.i64 (idxFrom s0 x1.toNat.toUInt8 (0 : Nat))] h) := by kernel_rfl
end Go.Y

/- What the pieces of functions come to: printed by program. -/
namespace Go.Y
open Go.Proofs
set_option maxRecDepth 100000
set_option maxHeartbeats 0
theorem f25_0 (cs0 : List V) (n0 : Nat) (h : Heap) (K : Out → Nat → List V → Heap → Prop) : (codeP Try.Y (Try.Y.loc 25) 100 (pre (flat (bodyOf Try.f25))) ⟨(V.ts cs0 n0 none :: List.replicate 39 .undef), [], h⟩ (VQ [2, 3, 4, 10, 11, 12] K)) =
  (∃ (b : Bool),
  (PCon Try.Y (26 : Nat) [V.ts cs0 n0 none] fun (v : V) => v = V.b b) ∧
    If (!b) (K Out.ret 40 [V.s #[].toList, V.i IntKind.i64 (5 : Int), V.undef, V.undef, V.undef, V.undef] h)
      (K Out.normal 40
        [V.s #[].toList, V.i IntKind.i64 (0 : Int), V.p (some (h.nx, 0)), V.ts cs0 n0 none,
          V.i IntKind.i64 (↑n0 : Int), V.i IntKind.i64 (0 : Int)]
        (h.pushT (Try.Y.tag (92 : Nat)) (YObj.arr [V.p none, V.sl none (0 : Nat) (some (0 : Nat)) (0 : Nat)] true)))) := by kernel_rfl
theorem f25_1 (cs0 : List V) (n0 : Nat) (id4 : Nat) (x12z8 : Int) (h : Heap) (K : Out → Nat → List V → Heap → Prop) : (codeP Try.Y (Try.Y.loc 25) 100 ((flat (loopB (post (flat (bodyOf Try.f25)))))) ⟨mk 40 (([4, 10, 11, 12] : List Nat).zip [V.p (some (id4, 0)), V.ts cs0 n0 none, V.i IntKind.i64 (↑n0 : Int), V.i IntKind.i64 x12z8]), [], h⟩ (VQ [2, 3, 4, 10, 11, 12] K)) =
  (If (ltI x12z8 (↑n0 : Int))
  (((0 : Int) ≤ x12z8 ∧ x12z8 < (↑n0 : Int)) ∧
    ∃ (n : Int),
      ∃ (n_1 : Int),
        ∃ (cs : List V),
          ∃ (l : Nat),
            ∃ (c : Option Nat),
              takeX 3 (List.drop (x12z8.toNat * (3 : Nat)) cs0) =
                  some [V.i IntKind.i64 n, V.i IntKind.u8 n_1, V.ts cs l c] ∧
                If (n == (1 : Int))
                  (Con Try.Y (63 : Nat) [V.p (some (id4, 0)), V.i IntKind.u8 (63 : Int)] h
                    fun (v : V) (h' : Heap) =>
                    (v = V.nilifc ∧
                        ∃ (n : Int),
                          RCon Try.Y (67 : Nat) [V.p (some (id4, 0))] h' (V.i IntKind.i64 n) ∧
                            If (ltI (200 : Int) n)
                              (K Out.ret 40
                                [V.s #[].toList, V.i IntKind.i64 (2 : Int), V.p (some (id4, 0)),
                                  V.ts cs0 n0 none, V.i IntKind.i64 (↑n0 : Int), V.i IntKind.i64 x12z8]
                                h')
                              (K Out.normal 40
                                [V.undef, V.undef, V.p (some (id4, 0)), V.ts cs0 n0 none,
                                  V.i IntKind.i64 (↑n0 : Int), V.i IntKind.i64 (IntKind.i64.wrap (x12z8 + (1 : Int)))]
                                h')) ∨
                      ∃ (t : TypeId),
                        ∃ (v_1 : V),
                          v = V.ifc t v_1 ∧
                            ∃ (n : Int),
                              RCon Try.Y (67 : Nat) [V.p (some (id4, 0))] h' (V.i IntKind.i64 n) ∧
                                If (ltI (200 : Int) n)
                                  (K Out.ret 40
                                    [V.s #[].toList, V.i IntKind.i64 (2 : Int), V.p (some (id4, 0)),
                                      V.ts cs0 n0 none, V.i IntKind.i64 (↑n0 : Int), V.i IntKind.i64 x12z8]
                                    h')
                                  (K Out.normal 40
                                    [V.undef, V.undef, V.p (some (id4, 0)), V.ts cs0 n0 none,
                                      V.i IntKind.i64 (↑n0 : Int),
                                      V.i IntKind.i64 (IntKind.i64.wrap (x12z8 + (1 : Int)))]
                                    h'))
                  (If (n == (2 : Int))
                    (Con Try.Y (63 : Nat) [V.p (some (id4, 0)), V.i IntKind.u8 (42 : Int)] h
                      fun (v : V) (h' : Heap) =>
                      (v = V.nilifc ∧
                          ∃ (n : Int),
                            RCon Try.Y (67 : Nat) [V.p (some (id4, 0))] h' (V.i IntKind.i64 n) ∧
                              If (ltI (200 : Int) n)
                                (K Out.ret 40
                                  [V.s #[].toList, V.i IntKind.i64 (2 : Int), V.p (some (id4, 0)),
                                    V.ts cs0 n0 none, V.i IntKind.i64 (↑n0 : Int), V.i IntKind.i64 x12z8]
                                  h')
                                (K Out.normal 40
                                  [V.undef, V.undef, V.p (some (id4, 0)), V.ts cs0 n0 none,
                                    V.i IntKind.i64 (↑n0 : Int), V.i IntKind.i64 (IntKind.i64.wrap (x12z8 + (1 : Int)))]
                                  h')) ∨
                        ∃ (t : TypeId),
                          ∃ (v_1 : V),
                            v = V.ifc t v_1 ∧
                              ∃ (n : Int),
                                RCon Try.Y (67 : Nat) [V.p (some (id4, 0))] h' (V.i IntKind.i64 n) ∧
                                  If (ltI (200 : Int) n)
                                    (K Out.ret 40
                                      [V.s #[].toList, V.i IntKind.i64 (2 : Int), V.p (some (id4, 0)),
                                        V.ts cs0 n0 none, V.i IntKind.i64 (↑n0 : Int), V.i IntKind.i64 x12z8]
                                      h')
                                    (K Out.normal 40
                                      [V.undef, V.undef, V.p (some (id4, 0)), V.ts cs0 n0 none,
                                        V.i IntKind.i64 (↑n0 : Int),
                                        V.i IntKind.i64 (IntKind.i64.wrap (x12z8 + (1 : Int)))]
                                      h'))
                    (If (n == (3 : Int))
                      (∃ (s : List UInt8),
                        (PCon Try.Y (65 : Nat) [V.ts cs l c] fun (v : V) => v = V.s s) ∧
                          #[(91 : UInt8)].toList.length + s.length ≤ 1152921504606846976 ∧
                            (#[(91 : UInt8)].toList ++ s).length + #[(93 : UInt8)].toList.length ≤
                                1152921504606846976 ∧
                              Con Try.Y (64 : Nat)
                                [V.p (some (id4, 0)),
                                  V.s (#[(91 : UInt8)].toList ++ s ++ #[(93 : UInt8)].toList)]
                                h fun (v : V) (h' : Heap) =>
                                ∃ (n : Int),
                                  (v = V.tup [V.i IntKind.i64 n, V.nilifc] ∧
                                      ∃ (n : Int),
                                        RCon Try.Y (67 : Nat) [V.p (some (id4, 0))] h' (V.i IntKind.i64 n) ∧
                                          If (ltI (200 : Int) n)
                                            (K Out.ret 40
                                              [V.s #[].toList, V.i IntKind.i64 (2 : Int), V.p (some (id4, 0)),
                                                V.ts cs0 n0 none, V.i IntKind.i64 (↑n0 : Int), V.i IntKind.i64 x12z8]
                                              h')
                                            (K Out.normal 40
                                              [V.undef, V.undef, V.p (some (id4, 0)), V.ts cs0 n0 none,
                                                V.i IntKind.i64 (↑n0 : Int),
                                                V.i IntKind.i64 (IntKind.i64.wrap (x12z8 + (1 : Int)))]
                                              h')) ∨
                                    ∃ (t : TypeId),
                                      ∃ (v_1 : V),
                                        v = V.tup [V.i IntKind.i64 n, V.ifc t v_1] ∧
                                          ∃ (n : Int),
                                            RCon Try.Y (67 : Nat) [V.p (some (id4, 0))] h' (V.i IntKind.i64 n) ∧
                                              If (ltI (200 : Int) n)
                                                (K Out.ret 40
                                                  [V.s #[].toList, V.i IntKind.i64 (2 : Int),
                                                    V.p (some (id4, 0)), V.ts cs0 n0 none,
                                                    V.i IntKind.i64 (↑n0 : Int), V.i IntKind.i64 x12z8]
                                                  h')
                                                (K Out.normal 40
                                                  [V.undef, V.undef, V.p (some (id4, 0)), V.ts cs0 n0 none,
                                                    V.i IntKind.i64 (↑n0 : Int),
                                                    V.i IntKind.i64 (IntKind.i64.wrap (x12z8 + (1 : Int)))]
                                                  h'))
                      (∃ (s : List UInt8),
                        (PCon Try.Y (66 : Nat)
                            [V.i IntKind.u8 n_1, V.s #[(42 : UInt8), (63 : UInt8), (91 : UInt8), (92 : UInt8)].toList]
                            fun (v : V) => v = V.s s) ∧
                          Con Try.Y (64 : Nat) [V.p (some (id4, 0)), V.s s] h fun (v : V) (h' : Heap) =>
                            ∃ (n : Int),
                              (v = V.tup [V.i IntKind.i64 n, V.nilifc] ∧
                                  ∃ (n : Int),
                                    RCon Try.Y (67 : Nat) [V.p (some (id4, 0))] h' (V.i IntKind.i64 n) ∧
                                      If (ltI (200 : Int) n)
                                        (K Out.ret 40
                                          [V.s #[].toList, V.i IntKind.i64 (2 : Int), V.p (some (id4, 0)),
                                            V.ts cs0 n0 none, V.i IntKind.i64 (↑n0 : Int), V.i IntKind.i64 x12z8]
                                          h')
                                        (K Out.normal 40
                                          [V.undef, V.undef, V.p (some (id4, 0)), V.ts cs0 n0 none,
                                            V.i IntKind.i64 (↑n0 : Int),
                                            V.i IntKind.i64 (IntKind.i64.wrap (x12z8 + (1 : Int)))]
                                          h')) ∨
                                ∃ (t : TypeId),
                                  ∃ (v_1 : V),
                                    v = V.tup [V.i IntKind.i64 n, V.ifc t v_1] ∧
                                      ∃ (n : Int),
                                        RCon Try.Y (67 : Nat) [V.p (some (id4, 0))] h' (V.i IntKind.i64 n) ∧
                                          If (ltI (200 : Int) n)
                                            (K Out.ret 40
                                              [V.s #[].toList, V.i IntKind.i64 (2 : Int), V.p (some (id4, 0)),
                                                V.ts cs0 n0 none, V.i IntKind.i64 (↑n0 : Int), V.i IntKind.i64 x12z8]
                                              h')
                                            (K Out.normal 40
                                              [V.undef, V.undef, V.p (some (id4, 0)), V.ts cs0 n0 none,
                                                V.i IntKind.i64 (↑n0 : Int),
                                                V.i IntKind.i64 (IntKind.i64.wrap (x12z8 + (1 : Int)))]
                                              h')))))
  (K (Out.exit 0) 40
    [V.undef, V.undef, V.p (some (id4, 0)), V.ts cs0 n0 none, V.i IntKind.i64 (↑n0 : Int),
      V.i IntKind.i64 x12z8]
    h)) := by kernel_rfl
theorem f25_2 (id4 : Nat) (h : Heap) (K : Out → Nat → List V → Heap → Prop) : (codeP Try.Y (Try.Y.loc 25) 100 (((post (flat (bodyOf Try.f25))).drop 1)) ⟨mk 40 (([4] : List Nat).zip [V.p (some (id4, 0))]), [], h⟩ (VQ [2, 3] K)) =
  (Con Try.Y (68 : Nat) [V.p (some (id4, 0))] h fun (v : V) (h' : Heap) =>
  ∃ (s : List UInt8), v = V.s s ∧ K Out.ret 40 [V.s s, V.i IntKind.i64 (0 : Int)] h') := by kernel_rfl
theorem f65_0 (cs0 : List V) (n0 : Nat) (h : Heap) (K : Out → Nat → List V → Heap → Prop) : (codeP Try.Y (Try.Y.loc 65) 100 (pre (flat (bodyOf Try.f65))) ⟨(V.ts cs0 n0 none :: List.replicate 27 .undef), [], h⟩ (VQ [3, 6, 7, 8] K)) =
  (K Out.normal 28
  [V.p (some (h.nx, 0)), V.ts cs0 n0 none, V.i IntKind.i64 (↑n0 : Int), V.i IntKind.i64 (0 : Int)]
  (h.pushT (Try.Y.tag (92 : Nat)) (YObj.arr [V.p none, V.sl none (0 : Nat) (some (0 : Nat)) (0 : Nat)] true))) := by kernel_rfl
theorem f65_1 (cs0 : List V) (n0 : Nat) (id3 : Nat) (x8z6 : Int) (h : Heap) (K : Out → Nat → List V → Heap → Prop) : (codeP Try.Y (Try.Y.loc 65) 100 ((flat (loopB (post (flat (bodyOf Try.f65)))))) ⟨mk 28 (([3, 6, 7, 8] : List Nat).zip [V.p (some (id3, 0)), V.ts cs0 n0 none, V.i IntKind.i64 (↑n0 : Int), V.i IntKind.i64 x8z6]), [], h⟩ (VQ [3, 6, 7, 8] K)) =
  (If (ltI x8z6 (↑n0 : Int))
  (((0 : Int) ≤ x8z6 ∧ x8z6 < (↑n0 : Int)) ∧
    ∃ (n : Int),
      ∃ (n_1 : Int),
        takeX 2 (List.drop (x8z6.toNat * (2 : Nat)) cs0) = some [V.i IntKind.u8 n, V.i IntKind.u8 n_1] ∧
          ∃ (s : List UInt8),
            (PCon Try.Y (66 : Nat) [V.i IntKind.u8 n, V.s #[(93 : UInt8), (45 : UInt8), (92 : UInt8)].toList]
                fun (v : V) => v = V.s s) ∧
              Con Try.Y (64 : Nat) [V.p (some (id3, 0)), V.s s] h fun (v : V) (h' : Heap) =>
                ∃ (n_2 : Int),
                  v = V.tup [V.i IntKind.i64 n_2, V.nilifc] ∧
                      If (n_1 != n)
                        (∃ (s : List UInt8),
                          (PCon Try.Y (66 : Nat)
                              [V.i IntKind.u8 n_1, V.s #[(93 : UInt8), (45 : UInt8), (92 : UInt8)].toList]
                              fun (v : V) => v = V.s s) ∧
                            #[(45 : UInt8)].toList.length + s.length ≤ 1152921504606846976 ∧
                              Con Try.Y (64 : Nat) [V.p (some (id3, 0)), V.s (#[(45 : UInt8)].toList ++ s)] h'
                                fun (v : V) (h' : Heap) =>
                                ∃ (n : Int),
                                  v = V.tup [V.i IntKind.i64 n, V.nilifc] ∧
                                      K Out.normal 28
                                        [V.p (some (id3, 0)), V.ts cs0 n0 none, V.i IntKind.i64 (↑n0 : Int),
                                          V.i IntKind.i64 (IntKind.i64.wrap (x8z6 + (1 : Int)))]
                                        h' ∨
                                    ∃ (t : TypeId),
                                      ∃ (v_1 : V),
                                        v = V.tup [V.i IntKind.i64 n, V.ifc t v_1] ∧
                                          K Out.normal 28
                                            [V.p (some (id3, 0)), V.ts cs0 n0 none, V.i IntKind.i64 (↑n0 : Int),
                                              V.i IntKind.i64 (IntKind.i64.wrap (x8z6 + (1 : Int)))]
                                            h')
                        (K Out.normal 28
                          [V.p (some (id3, 0)), V.ts cs0 n0 none, V.i IntKind.i64 (↑n0 : Int),
                            V.i IntKind.i64 (IntKind.i64.wrap (x8z6 + (1 : Int)))]
                          h') ∨
                    ∃ (t : TypeId),
                      ∃ (v_1 : V),
                        v = V.tup [V.i IntKind.i64 n_2, V.ifc t v_1] ∧
                          If (n_1 != n)
                            (∃ (s : List UInt8),
                              (PCon Try.Y (66 : Nat)
                                  [V.i IntKind.u8 n_1, V.s #[(93 : UInt8), (45 : UInt8), (92 : UInt8)].toList]
                                  fun (v : V) => v = V.s s) ∧
                                #[(45 : UInt8)].toList.length + s.length ≤ 1152921504606846976 ∧
                                  Con Try.Y (64 : Nat) [V.p (some (id3, 0)), V.s (#[(45 : UInt8)].toList ++ s)]
                                    h' fun (v : V) (h' : Heap) =>
                                    ∃ (n : Int),
                                      v = V.tup [V.i IntKind.i64 n, V.nilifc] ∧
                                          K Out.normal 28
                                            [V.p (some (id3, 0)), V.ts cs0 n0 none, V.i IntKind.i64 (↑n0 : Int),
                                              V.i IntKind.i64 (IntKind.i64.wrap (x8z6 + (1 : Int)))]
                                            h' ∨
                                        ∃ (t : TypeId),
                                          ∃ (v_2 : V),
                                            v = V.tup [V.i IntKind.i64 n, V.ifc t v_2] ∧
                                              K Out.normal 28
                                                [V.p (some (id3, 0)), V.ts cs0 n0 none,
                                                  V.i IntKind.i64 (↑n0 : Int),
                                                  V.i IntKind.i64 (IntKind.i64.wrap (x8z6 + (1 : Int)))]
                                                h')
                            (K Out.normal 28
                              [V.p (some (id3, 0)), V.ts cs0 n0 none, V.i IntKind.i64 (↑n0 : Int),
                                V.i IntKind.i64 (IntKind.i64.wrap (x8z6 + (1 : Int)))]
                              h'))
  (K (Out.exit 0) 28
    [V.p (some (id3, 0)), V.ts cs0 n0 none, V.i IntKind.i64 (↑n0 : Int), V.i IntKind.i64 x8z6] h)) := by kernel_rfl
theorem f65_2 (id3 : Nat) (h : Heap) (K : Out → Nat → List V → Heap → Prop) : (codeP Try.Y (Try.Y.loc 65) 100 (((post (flat (bodyOf Try.f65))).drop 1)) ⟨mk 28 (([3] : List Nat).zip [V.p (some (id3, 0))]), [], h⟩ (VQ [2] K)) =
  (Con Try.Y (68 : Nat) [V.p (some (id3, 0))] h fun (v : V) (h' : Heap) =>
  ∃ (s : List UInt8), v = V.s s ∧ K Out.ret 28 [V.s s] h') := by kernel_rfl
theorem f72_0 (cs0 : List V) (n0 : Nat) (h : Heap) (K : Out → Nat → List V → Heap → Prop) : (codeP Try.Y (Try.Y.loc 72) 100 (pre (flat (bodyOf Try.f72))) ⟨(V.ts cs0 n0 none :: List.replicate 39 .undef), [], h⟩ (VQ [0, 3, 4] K)) =
  (K Out.normal 40 [V.ts cs0 n0 none, V.s #[].toList, V.i IntKind.i64 (0 : Int)] h) := by kernel_rfl
theorem f72_1 (cs0 : List V) (n0 : Nat) (s3z2 : List UInt8) (x4z2 : Int) (h : Heap) (K : Out → Nat → List V → Heap → Prop) : (codeP Try.Y (Try.Y.loc 72) 100 ((flat (loopB (post (flat (bodyOf Try.f72)))))) ⟨mk 40 (([0, 3, 4] : List Nat).zip [V.ts cs0 n0 none, V.s s3z2, V.i IntKind.i64 x4z2]), [], h⟩ (VQ [0, 3, 4] K)) =
  (If (ltI x4z2 (↑n0 : Int))
  (((0 : Int) ≤ x4z2 ∧ x4z2 < (↑n0 : Int)) ∧
    ∃ (n : Int),
      takeX 1 (List.drop (0 : Nat) (List.drop (x4z2.toNat * (2 : Nat)) cs0)) = some [V.i IntKind.u8 n] ∧
        ∃ (s : List UInt8),
          (PCon Try.Y (107 : Nat) [V.i IntKind.u8 n] fun (v : V) => v = V.s s) ∧
            s3z2.length + s.length ≤ 1152921504606846976 ∧
              ((0 : Int) ≤ x4z2 ∧ x4z2 < (↑n0 : Int)) ∧
                ∃ (n : Int),
                  takeX 1 (List.drop (1 : Nat) (List.drop (x4z2.toNat * (2 : Nat)) cs0)) =
                      some [V.i IntKind.u8 n] ∧
                    ((0 : Int) ≤ x4z2 ∧ x4z2 < (↑n0 : Int)) ∧
                      ∃ (n_1 : Int),
                        takeX 1 (List.drop (0 : Nat) (List.drop (x4z2.toNat * (2 : Nat)) cs0)) =
                            some [V.i IntKind.u8 n_1] ∧
                          If (n != n_1)
                            ((s3z2 ++ s).length + #[(45 : UInt8)].toList.length ≤ 1152921504606846976 ∧
                              ((0 : Int) ≤ x4z2 ∧ x4z2 < (↑n0 : Int)) ∧
                                ∃ (n : Int),
                                  takeX 1 (List.drop (1 : Nat) (List.drop (x4z2.toNat * (2 : Nat)) cs0)) =
                                      some [V.i IntKind.u8 n] ∧
                                    ∃ (s_1 : List UInt8),
                                      (PCon Try.Y (107 : Nat) [V.i IntKind.u8 n] fun (v : V) => v = V.s s_1) ∧
                                        (s3z2 ++ s ++ #[(45 : UInt8)].toList).length + s_1.length ≤
                                            1152921504606846976 ∧
                                          K Out.normal 40
                                            [V.ts cs0 n0 none, V.s (s3z2 ++ s ++ #[(45 : UInt8)].toList ++ s_1),
                                              V.i IntKind.i64 (IntKind.i64.wrap (x4z2 + (1 : Int)))]
                                            h)
                            (K Out.normal 40
                              [V.ts cs0 n0 none, V.s (s3z2 ++ s), V.i IntKind.i64 (IntKind.i64.wrap (x4z2 + (1 : Int)))]
                              h))
  (K (Out.exit 0) 40 [V.ts cs0 n0 none, V.s s3z2, V.i IntKind.i64 x4z2] h)) := by kernel_rfl
theorem f72_2 (s3z3 : List UInt8) (h : Heap) (K : Out → Nat → List V → Heap → Prop) : (codeP Try.Y (Try.Y.loc 72) 100 (((post (flat (bodyOf Try.f72))).drop 1)) ⟨mk 40 (([3] : List Nat).zip [V.s s3z3]), [], h⟩ (VQ [2] K)) =
  (K Out.ret 40 [V.s s3z3] h) := by kernel_rfl
theorem f107_0 (x0 : Int) (h : Heap) (K : Out → Nat → List V → Heap → Prop) : (codeP Try.Y (Try.Y.loc 107) 100 ((flat (bodyOf Try.f107))) ⟨(V.i IntKind.u8 x0 :: List.replicate 19 .undef), [], h⟩ (VQ [2] K)) =
  (If (x0 == (93 : Int))
  (∃ (l : List UInt8),
    some (Q.val (V.s ((fun (x : List UInt8) => UInt8.ofNat x0.toNat :: x) []))) = some (Q.val (V.s l)) ∧
      #[(92 : UInt8)].toList.length + l.length ≤ 1152921504606846976 ∧
        K Out.ret 20 [V.s (#[(92 : UInt8)].toList ++ l)] h)
  (If (x0 == (45 : Int))
    (∃ (l : List UInt8),
      some (Q.val (V.s ((fun (x : List UInt8) => UInt8.ofNat x0.toNat :: x) []))) = some (Q.val (V.s l)) ∧
        #[(92 : UInt8)].toList.length + l.length ≤ 1152921504606846976 ∧
          K Out.ret 20 [V.s (#[(92 : UInt8)].toList ++ l)] h)
    (If (x0 == (92 : Int))
      (∃ (l : List UInt8),
        some (Q.val (V.s ((fun (x : List UInt8) => UInt8.ofNat x0.toNat :: x) []))) = some (Q.val (V.s l)) ∧
          #[(92 : UInt8)].toList.length + l.length ≤ 1152921504606846976 ∧
            K Out.ret 20 [V.s (#[(92 : UInt8)].toList ++ l)] h)
      (∃ (l : List UInt8),
        some (Q.val (V.s ((fun (x : List UInt8) => UInt8.ofNat x0.toNat :: x) []))) = some (Q.val (V.s l)) ∧
          K Out.ret 20 [V.s l] h)))) := by kernel_rfl
theorem f6_0 (cs0 : List V) (n0 : Nat) (h : Heap) (K : Out → Nat → List V → Heap → Prop) : (codeP Try.Y (Try.Y.loc 6) 100 ((flat (bodyOf Try.f6))) ⟨(V.ts cs0 n0 none :: List.replicate 82 .undef), [], h⟩ (VQ [2] K)) =
  (∃ (b : Bool),
  (PCon Try.Y (12 : Nat) [] fun (v : V) => v = V.b b) ∧
    If (!b) (K Out.ret 83 [V.b false] h)
      (∃ (b : Bool),
        (PCon Try.Y (16 : Nat) [V.ts cs0 n0 none] fun (v : V) => v = V.b b) ∧
          If (!b) (K Out.ret 83 [V.b true] h)
            (∃ (s : List UInt8),
              ∃ (n : Int),
                (PCon Try.Y (25 : Nat) [V.ts cs0 n0 none] fun (v : V) => v = V.tup [V.s s, V.i IntKind.i64 n]) ∧
                  ∃ (b : Bool),
                    (PCon Try.Y (17 : Nat) [V.ts cs0 n0 none] fun (v : V) => v = V.b b) ∧
                      If (!b)
                        (If (s == #[].toList)
                          (If (n == (5 : Int))
                            (∃ (b : Bool),
                              (PCon Try.Y (26 : Nat) [V.ts cs0 n0 none] fun (v : V) => v = V.b b) ∧
                                K Out.ret 83 [V.b !b] h)
                            (K Out.ret 83 [V.b false] h))
                          (K Out.ret 83 [V.b false] h))
                        (∃ (s_1 : List UInt8),
                          (PCon Try.Y (27 : Nat) [V.ts cs0 n0 none] fun (v : V) => v = V.s s_1) ∧
                            If (ltI (200 : Int) (↑s_1.length : Int))
                              (If (s == #[].toList)
                                (If (n == (2 : Int))
                                  (∃ (b : Bool),
                                    (PCon Try.Y (26 : Nat) [V.ts cs0 n0 none] fun (v : V) => v = V.b b) ∧
                                      K Out.ret 83 [V.b b] h)
                                  (K Out.ret 83 [V.b false] h))
                                (K Out.ret 83 [V.b false] h))
                              (∃ (cs : List V),
                                ∃ (l : Nat),
                                  ∃ (c : Option Nat),
                                    ∃ (n_1 : Int),
                                      ∃ (n_2 : Int),
                                        (PCon Try.Y (13 : Nat) [V.s s] fun (v : V) =>
                                            v = V.tup [V.ts cs l c, V.i IntKind.i64 n_1, V.i IntKind.i64 n_2]) ∧
                                          If (s == s_1)
                                            (If (n == (0 : Int))
                                              (∃ (b : Bool),
                                                (PCon Try.Y (26 : Nat) [V.ts cs0 n0 none] fun (v : V) => v = V.b b) ∧
                                                  If b
                                                    (If (n_2 == (0 : Int))
                                                      (If (n_1 == (0 : Int))
                                                        (∃ (b : Bool),
                                                          (PCon Try.Y (15 : Nat) [V.ts cs l c, V.ts cs0 n0 none]
                                                              fun (v : V) => v = V.b b) ∧
                                                            If b
                                                              (∃ (b : Bool),
                                                                (PCon Try.Y (28 : Nat) [V.ts cs l c, V.ts cs0 n0 none]
                                                                    fun (v : V) => v = V.b b) ∧
                                                                  K Out.ret 83 [V.b b] h)
                                                              (K Out.ret 83 [V.b false] h))
                                                        (K Out.ret 83 [V.b false] h))
                                                      (K Out.ret 83 [V.b false] h))
                                                    (K Out.ret 83 [V.b false] h))
                                              (K Out.ret 83 [V.b false] h))
                                            (K Out.ret 83 [V.b false] h)))))) := by kernel_rfl
end Go.Y

/- What the pieces of functions come to: printed by program. -/
namespace Go.Y
open Go.Proofs
set_option maxRecDepth 100000
set_option maxHeartbeats 0
theorem f20_0 (b0On : Bool) (b0Shut : Bool) (b0Eof : Bool) (x0Place : Int) (x0Clock : Int) (s0Typed : List UInt8) (cs0Lines : List V) (n0Lines : Nat) (s0Fly : List UInt8) (cs0Ages : List V) (n0Ages : Nat) (s0Ready : List UInt8) (s0Buffer : List UInt8) (h : Heap) (K : Out → Nat → List V → Heap → Prop) : (codeP Try.Y (Try.Y.loc 20) 100 (pre (flat (bodyOf Try.f20))) ⟨(V.agg [V.b b0On, V.b b0Shut, V.b b0Eof, V.i IntKind.i64 x0Place, V.i IntKind.i64 x0Clock, V.s s0Typed, V.ts cs0Lines n0Lines none, V.s s0Fly, V.ts cs0Ages n0Ages none, V.s s0Ready, V.s s0Buffer] :: List.replicate 33 .undef), [], h⟩ (VQ [1, 2, 10, 11] K)) =
  ((Con Try.Y (54 : Nat) [V.ts cs0Ages n0Ages none] h fun (v : V) (h' : Heap) =>
    ∃ (a : Option (Nat × Nat)),
      ∃ (l : Nat),
        ∃ (c : Option Nat),
          ∃ (k : Nat),
            v = V.sl a l c k ∧
              K Out.normal 34
                [V.lb
                    [V.b b0On, V.b b0Shut, V.b b0Eof, V.i IntKind.i64 x0Place, V.i IntKind.i64 x0Clock, V.s s0Typed,
                      V.ts cs0Lines n0Lines none, V.s s0Fly, V.sl a l c k, V.s s0Ready, V.s s0Buffer],
                  V.lb
                    [V.b false, V.b false, V.b false, V.i IntKind.i64 (0 : Int), V.i IntKind.i64 (0 : Int), V.s [],
                      V.sl none 0 (some 0) 0, V.s [],
                      V.sl none 0 (some 0) 0, V.s [], V.s []],
                  V.i IntKind.i64 (↑l : Int), V.i IntKind.i64 (0 : Int)]
                h') ∨
  ∃ (cs : List V),
    ∃ (l : Nat),
      ∃ (c : Option Nat),
        (PCon Try.Y (54 : Nat) [V.ts cs0Ages n0Ages none] fun (v : V) => v = V.ts cs l c) ∧
          K Out.normal 34
            [V.lb
                [V.b b0On, V.b b0Shut, V.b b0Eof, V.i IntKind.i64 x0Place, V.i IntKind.i64 x0Clock, V.s s0Typed,
                  V.ts cs0Lines n0Lines none, V.s s0Fly, V.ts cs l c, V.s s0Ready, V.s s0Buffer],
              V.lb
                [V.b false, V.b false, V.b false, V.i IntKind.i64 (0 : Int), V.i IntKind.i64 (0 : Int), V.s [],
                  V.sl none 0 (some 0) 0, V.s [],
                  V.sl none 0 (some 0) 0, V.s [], V.s []],
              V.i IntKind.i64 (↑l : Int), V.i IntKind.i64 (0 : Int)]
            h) := by kernel_rfl
theorem f20_1 (b0On : Bool) (b0Shut : Bool) (b0Eof : Bool) (x0Place : Int) (x0Clock : Int) (s0Typed : List UInt8) (cs0Lines : List V) (n0Lines : Nat) (s0Fly : List UInt8) (s0Ready : List UInt8) (s0Buffer : List UInt8) (x10 : Int) (id1 : Nat) (l1 : Nat) (x11 : Int) (h : Heap) (K : Out → Nat → List V → Heap → Prop) : (codeP Try.Y (Try.Y.loc 20) 100 ((flat (loopB (post (flat (bodyOf Try.f20)))))) ⟨mk 34 (([1, 2, 10, 11] : List Nat).zip [V.lb [V.b b0On, V.b b0Shut, V.b b0Eof, V.i IntKind.i64 x0Place, V.i IntKind.i64 x0Clock, V.s s0Typed, V.ts cs0Lines n0Lines none, V.s s0Fly, V.sl (some (id1, 0)) l1 none 1, V.s s0Ready, V.s s0Buffer], V.lb [V.b false, V.b false, V.b false, V.i IntKind.i64 0, V.i IntKind.i64 0, V.s [], V.sl none 0 (some 0) 0, V.s [], V.sl none 0 (some 0) 0, V.s [], V.s []], V.i IntKind.i64 x10, V.i IntKind.i64 x11]), [], h⟩ (VQ [1, 2, 10, 11] K)) =
  (If (ltI x11 x10)
  (((0 : Int) ≤ x11 ∧ x11 < (↑l1 : Int)) ∧
    1 = 1 ∧
      ∃ (n : Int),
        hcells h id1 ((0 : Nat) + x11.toNat * (1 : Nat)) 1 = some [V.i IntKind.i64 n] ∧
          ((0 : Int) ≤ x11 ∧ x11 < (↑l1 : Int)) ∧
            1 = 1 ∧
              ∃ (h_1 : Heap),
                hstore h id1 ((0 : Nat) + x11.toNat * (1 : Nat)) [V.i IntKind.i64 (IntKind.i64.wrap (n + (1 : Int)))] =
                    some h_1 ∧
                  K Out.normal 34
                    [V.lb
                        [V.b b0On, V.b b0Shut, V.b b0Eof, V.i IntKind.i64 x0Place, V.i IntKind.i64 x0Clock, V.s s0Typed,
                          V.ts cs0Lines n0Lines none, V.s s0Fly, V.sl (some (id1, 0)) l1 none 1,
                          V.s s0Ready, V.s s0Buffer],
                      V.lb
                        [V.b false, V.b false, V.b false, V.i IntKind.i64 (0 : Int), V.i IntKind.i64 (0 : Int), V.s [],
                          V.sl none 0 (some 0) 0, V.s [],
                          V.sl none 0 (some 0) 0, V.s [], V.s []],
                      V.i IntKind.i64 x10, V.i IntKind.i64 (IntKind.i64.wrap (x11 + (1 : Int)))]
                    h_1)
  (K (Out.exit 0) 34
    [V.lb
        [V.b b0On, V.b b0Shut, V.b b0Eof, V.i IntKind.i64 x0Place, V.i IntKind.i64 x0Clock, V.s s0Typed,
          V.ts cs0Lines n0Lines none, V.s s0Fly, V.sl (some (id1, 0)) l1 none 1, V.s s0Ready,
          V.s s0Buffer],
      V.lb
        [V.b false, V.b false, V.b false, V.i IntKind.i64 (0 : Int), V.i IntKind.i64 (0 : Int), V.s [],
          V.sl none 0 (some 0) 0, V.s [],
          V.sl none 0 (some 0) 0, V.s [], V.s []],
      V.i IntKind.i64 x10, V.i IntKind.i64 x11]
    h)) := by kernel_rfl
theorem f20_2 (b0On : Bool) (b0Shut : Bool) (b0Eof : Bool) (x0Place : Int) (x0Clock : Int) (s0Typed : List UInt8) (cs0Lines : List V) (n0Lines : Nat) (s0Fly : List UInt8) (s0Ready : List UInt8) (s0Buffer : List UInt8) (id1 : Nat) (l1 : Nat) (h : Heap) (K : Out → Nat → List V → Heap → Prop) : (codeP Try.Y (Try.Y.loc 20) 100 (((post (flat (bodyOf Try.f20))).drop 1)) ⟨mk 34 (([1, 2] : List Nat).zip [V.lb [V.b b0On, V.b b0Shut, V.b b0Eof, V.i IntKind.i64 x0Place, V.i IntKind.i64 x0Clock, V.s s0Typed, V.ts cs0Lines n0Lines none, V.s s0Fly, V.sl (some (id1, 0)) l1 none 1, V.s s0Ready, V.s s0Buffer], V.lb [V.b false, V.b false, V.b false, V.i IntKind.i64 0, V.i IntKind.i64 0, V.s [], V.sl none 0 (some 0) 0, V.s [], V.sl none 0 (some 0) 0, V.s [], V.s []]]), [], h⟩ (VQ [2] K)) =
  (If b0On
  (If (!b0Shut)
    (K Out.ret 34
      [V.lb
          [V.b b0On, V.b b0Shut, V.b b0Eof, V.i IntKind.i64 x0Place,
            V.i IntKind.i64 (IntKind.i64.wrap (x0Clock + (1 : Int))), V.s s0Typed, V.ts cs0Lines n0Lines none,
            V.s s0Fly, V.sl (some (id1, 0)) l1 none 1, V.s s0Ready, V.s s0Buffer]]
      h)
    (K Out.ret 34
      [V.lb
          [V.b b0On, V.b b0Shut, V.b b0Eof, V.i IntKind.i64 x0Place, V.i IntKind.i64 x0Clock, V.s s0Typed,
            V.ts cs0Lines n0Lines none, V.s s0Fly, V.sl (some (id1, 0)) l1 none 1, V.s s0Ready,
            V.s s0Buffer]]
      h))
  (K Out.ret 34
    [V.lb
        [V.b b0On, V.b b0Shut, V.b b0Eof, V.i IntKind.i64 x0Place, V.i IntKind.i64 x0Clock, V.s s0Typed,
          V.ts cs0Lines n0Lines none, V.s s0Fly, V.sl (some (id1, 0)) l1 none 1, V.s s0Ready,
          V.s s0Buffer]]
    h)) := by kernel_rfl
theorem f20e_1 (b0On : Bool) (b0Shut : Bool) (b0Eof : Bool) (x0Place : Int) (x0Clock : Int) (s0Typed : List UInt8) (cs0Lines : List V) (n0Lines : Nat) (s0Fly : List UInt8) (s0Ready : List UInt8) (s0Buffer : List UInt8) (h : Heap) (K : Out → Nat → List V → Heap → Prop) : (codeP Try.Y (Try.Y.loc 20) 100 ((flat (loopB (post (flat (bodyOf Try.f20)))))) ⟨mk 34 (([1, 2, 10, 11] : List Nat).zip [V.lb [V.b b0On, V.b b0Shut, V.b b0Eof, V.i IntKind.i64 x0Place, V.i IntKind.i64 x0Clock, V.s s0Typed, V.ts cs0Lines n0Lines none, V.s s0Fly, V.ts [] 0 (some 0), V.s s0Ready, V.s s0Buffer], V.lb [V.b false, V.b false, V.b false, V.i IntKind.i64 0, V.i IntKind.i64 0, V.s [], V.sl none 0 (some 0) 0, V.s [], V.sl none 0 (some 0) 0, V.s [], V.s []], V.i IntKind.i64 0, V.i IntKind.i64 0]), [], h⟩ (VQ [1, 2, 10, 11] K)) =
  (K (Out.exit 0) 34
  [V.lb
      [V.b b0On, V.b b0Shut, V.b b0Eof, V.i IntKind.i64 x0Place, V.i IntKind.i64 x0Clock, V.s s0Typed,
        V.ts cs0Lines n0Lines none, V.s s0Fly, V.ts [] 0 (some 0), V.s s0Ready, V.s s0Buffer],
    V.lb
      [V.b false, V.b false, V.b false, V.i IntKind.i64 (0 : Int), V.i IntKind.i64 (0 : Int), V.s [],
        V.sl none 0 (some 0) 0, V.s [],
        V.sl none 0 (some 0) 0, V.s [], V.s []],
    V.i IntKind.i64 (0 : Int), V.i IntKind.i64 (0 : Int)]
  h) := by kernel_rfl
theorem f20e_2 (b0On : Bool) (b0Shut : Bool) (b0Eof : Bool) (x0Place : Int) (x0Clock : Int) (s0Typed : List UInt8) (cs0Lines : List V) (n0Lines : Nat) (s0Fly : List UInt8) (s0Ready : List UInt8) (s0Buffer : List UInt8) (h : Heap) (K : Out → Nat → List V → Heap → Prop) : (codeP Try.Y (Try.Y.loc 20) 100 (((post (flat (bodyOf Try.f20))).drop 1)) ⟨mk 34 (([1, 2] : List Nat).zip [V.lb [V.b b0On, V.b b0Shut, V.b b0Eof, V.i IntKind.i64 x0Place, V.i IntKind.i64 x0Clock, V.s s0Typed, V.ts cs0Lines n0Lines none, V.s s0Fly, V.ts [] 0 (some 0), V.s s0Ready, V.s s0Buffer], V.lb [V.b false, V.b false, V.b false, V.i IntKind.i64 0, V.i IntKind.i64 0, V.s [], V.sl none 0 (some 0) 0, V.s [], V.sl none 0 (some 0) 0, V.s [], V.s []]]), [], h⟩ (VQ [2] K)) =
  (If b0On
  (If (!b0Shut)
    (K Out.ret 34
      [V.lb
          [V.b b0On, V.b b0Shut, V.b b0Eof, V.i IntKind.i64 x0Place,
            V.i IntKind.i64 (IntKind.i64.wrap (x0Clock + (1 : Int))), V.s s0Typed, V.ts cs0Lines n0Lines none,
            V.s s0Fly, V.ts [] 0 (some 0), V.s s0Ready, V.s s0Buffer]]
      h)
    (K Out.ret 34
      [V.lb
          [V.b b0On, V.b b0Shut, V.b b0Eof, V.i IntKind.i64 x0Place, V.i IntKind.i64 x0Clock, V.s s0Typed,
            V.ts cs0Lines n0Lines none, V.s s0Fly, V.ts [] 0 (some 0), V.s s0Ready, V.s s0Buffer]]
      h))
  (K Out.ret 34
    [V.lb
        [V.b b0On, V.b b0Shut, V.b b0Eof, V.i IntKind.i64 x0Place, V.i IntKind.i64 x0Clock, V.s s0Typed,
          V.ts cs0Lines n0Lines none, V.s s0Fly, V.ts [] 0 (some 0), V.s s0Ready, V.s s0Buffer]]
    h)) := by kernel_rfl
theorem f21_0 (b0On : Bool) (b0Shut : Bool) (b0Eof : Bool) (x0Place : Int) (x0Clock : Int) (s0Typed : List UInt8) (cs0Lines : List V) (n0Lines : Nat) (s0Fly : List UInt8) (cs0Ages : List V) (n0Ages : Nat) (s0Ready : List UInt8) (s0Buffer : List UInt8) (h : Heap) (K : Out → Nat → List V → Heap → Prop) : (codeP Try.Y (Try.Y.loc 21) 100 ((flat (bodyOf Try.f21))) ⟨(V.agg [V.b b0On, V.b b0Shut, V.b b0Eof, V.i IntKind.i64 x0Place, V.i IntKind.i64 x0Clock, V.s s0Typed, V.ts cs0Lines n0Lines none, V.s s0Fly, V.ts cs0Ages n0Ages none, V.s s0Ready, V.s s0Buffer] :: List.replicate 30 .undef), [], h⟩ (VQ [2, 3] K)) =
  (If (s0Fly == #[].toList)
  (K Out.ret 31
    [V.lb
        [V.b false, V.b false, V.b false, V.i IntKind.i64 (0 : Int), V.i IntKind.i64 (0 : Int), V.s [],
          V.sl none 0 (some 0) 0, V.s [],
          V.sl none 0 (some 0) 0, V.s [], V.s []],
      V.i IntKind.i64 (10 : Int)]
    h)
  (If ((↑n0Ages : Int) == (0 : Int))
    (K Out.ret 31
      [V.lb
          [V.b false, V.b false, V.b false, V.i IntKind.i64 (0 : Int), V.i IntKind.i64 (0 : Int), V.s [],
            V.sl none 0 (some 0) 0, V.s [],
            V.sl none 0 (some 0) 0, V.s [], V.s []],
        V.i IntKind.i64 (10 : Int)]
      h)
    (((0 : Int) ≤ (1 : Int) ∧ (1 : Int) ≤ (↑s0Fly.length : Int)) ∧
      s0Ready.length + (List.take (Int.toNat (1 : Int) - (0 : Nat)) (List.drop (0 : Nat) s0Fly)).length ≤
          1152921504606846976 ∧
        ((0 : Int) ≤ (1 : Int) ∧ (1 : Int) ≤ (↑s0Fly.length : Int)) ∧
          ((0 : Int) ≤ (1 : Int) ∧ (1 : Int) ≤ (↑n0Ages : Int)) ∧
            ((Con Try.Y (54 : Nat)
                [V.ts
                    (List.take ((n0Ages - Int.toNat (1 : Int)) * (1 : Nat))
                      (List.drop (Int.toNat (1 : Int) * (1 : Nat)) cs0Ages))
                    (n0Ages - Int.toNat (1 : Int)) none]
                h fun (v : V) (h' : Heap) =>
                ∃ (a : Option (Nat × Nat)),
                  ∃ (l : Nat),
                    ∃ (c : Option Nat),
                      ∃ (k : Nat),
                        v = V.sl a l c k ∧
                          K Out.ret 31
                            [V.lb
                                [V.b b0On, V.b b0Shut, V.b b0Eof, V.i IntKind.i64 x0Place, V.i IntKind.i64 x0Clock,
                                  V.s s0Typed, V.ts cs0Lines n0Lines none,
                                  V.s
                                    (List.take (s0Fly.length - Int.toNat (1 : Int))
                                      (List.drop (Int.toNat (1 : Int)) s0Fly)),
                                  V.sl a l c k,
                                  V.s
                                    (s0Ready ++
                                      List.take (Int.toNat (1 : Int) - (0 : Nat)) (List.drop (0 : Nat) s0Fly)),
                                  V.s s0Buffer],
                              V.i IntKind.i64 (0 : Int)]
                            h') ∨
              ∃ (cs : List V),
                ∃ (l : Nat),
                  ∃ (c : Option Nat),
                    (PCon Try.Y (54 : Nat)
                        [V.ts
                            (List.take ((n0Ages - Int.toNat (1 : Int)) * (1 : Nat))
                              (List.drop (Int.toNat (1 : Int) * (1 : Nat)) cs0Ages))
                            (n0Ages - Int.toNat (1 : Int)) none]
                        fun (v : V) => v = V.ts cs l c) ∧
                      K Out.ret 31
                        [V.lb
                            [V.b b0On, V.b b0Shut, V.b b0Eof, V.i IntKind.i64 x0Place, V.i IntKind.i64 x0Clock,
                              V.s s0Typed, V.ts cs0Lines n0Lines none,
                              V.s
                                (List.take (s0Fly.length - Int.toNat (1 : Int))
                                  (List.drop (Int.toNat (1 : Int)) s0Fly)),
                              V.ts cs l c,
                              V.s (s0Ready ++ List.take (Int.toNat (1 : Int) - (0 : Nat)) (List.drop (0 : Nat) s0Fly)),
                              V.s s0Buffer],
                          V.i IntKind.i64 (0 : Int)]
                        h)))) := by kernel_rfl
theorem f22_0 (b0On : Bool) (b0Shut : Bool) (b0Eof : Bool) (x0Place : Int) (x0Clock : Int) (s0Typed : List UInt8) (cs0Lines : List V) (n0Lines : Nat) (s0Fly : List UInt8) (cs0Ages : List V) (n0Ages : Nat) (s0Ready : List UInt8) (s0Buffer : List UInt8) (x1Cap : Int) (cs1Places : List V) (n1Places : Nat) (s2 : List UInt8) (h : Heap) (K : Out → Nat → List V → Heap → Prop) : (codeP Try.Y (Try.Y.loc 22) 100 ((flat (bodyOf Try.f22))) ⟨(V.agg [V.b b0On, V.b b0Shut, V.b b0Eof, V.i IntKind.i64 x0Place, V.i IntKind.i64 x0Clock, V.s s0Typed, V.ts cs0Lines n0Lines none, V.s s0Fly, V.ts cs0Ages n0Ages none, V.s s0Ready, V.s s0Buffer] :: V.agg [V.i IntKind.i64 x1Cap, V.ts cs1Places n1Places none] :: V.s s2 :: List.replicate 25 .undef), [], h⟩ (VQ [6, 7] K)) =
  (∃ (n : Int),
  (PCon Try.Y (52 : Nat)
      [V.agg
          [V.b b0On, V.b b0Shut, V.b b0Eof, V.i IntKind.i64 x0Place, V.i IntKind.i64 x0Clock, V.s s0Typed,
            V.ts cs0Lines n0Lines none, V.s s0Fly, V.ts cs0Ages n0Ages none, V.s s0Ready, V.s s0Buffer],
        V.agg [V.i IntKind.i64 x1Cap, V.ts cs1Places n1Places none]]
      fun (v : V) => v = V.i IntKind.i64 n) ∧
    If (ltI n (↑s2.length : Int))
      (K Out.ret 28
        [V.lb
            [V.b b0On, V.b b0Shut, V.b b0Eof, V.i IntKind.i64 x0Place, V.i IntKind.i64 x0Clock, V.s s0Typed,
              V.ts cs0Lines n0Lines none, V.s s0Fly, V.ts cs0Ages n0Ages none, V.s s0Ready, V.s s0Buffer],
          V.b false]
        h)
      (s0Fly.length + s2.length ≤ 1152921504606846976 ∧
        ((Con Try.Y (54 : Nat) [V.ts cs0Ages n0Ages none] h fun (v : V) (h' : Heap) =>
            ∃ (a : Option (Nat × Nat)),
              ∃ (l : Nat),
                ∃ (c : Option Nat),
                  ∃ (k : Nat),
                    v = V.sl a l c k ∧
                      ∃ (a_1 : Option (Nat × Nat)),
                        ∃ (l_1 : Nat),
                          ∃ (c_1 : Option Nat),
                            ∃ (k_1 : Nat),
                              ∃ (h : Heap),
                                appendH Try.Y h' 41 3 (V.sl a l c k)
                                      (V.i IntKind.i64 (↑s2.length : Int)) =
                                    some (V.sl a_1 l_1 c_1 k_1, h) ∧
                                  K Out.ret 28
                                    [V.lb
                                        [V.b b0On, V.b b0Shut, V.b b0Eof, V.i IntKind.i64 x0Place,
                                          V.i IntKind.i64 x0Clock, V.s s0Typed, V.ts cs0Lines n0Lines none,
                                          V.s (s0Fly ++ s2), V.sl a_1 l_1 c_1 k_1, V.s s0Ready, V.s s0Buffer],
                                      V.b true]
                                    h) ∨
          ∃ (cs : List V),
            ∃ (l : Nat),
              ∃ (c : Option Nat),
                (PCon Try.Y (54 : Nat) [V.ts cs0Ages n0Ages none] fun (v : V) => v = V.ts cs l c) ∧
                  ((∃ (a : Option (Nat × Nat)),
                      ∃ (l_1 : Nat),
                        ∃ (c_1 : Option Nat),
                          ∃ (k : Nat),
                            ∃ (h_1 : Heap),
                              appendH Try.Y h 41 3 (V.ts cs l c)
                                    (V.i IntKind.i64 (↑s2.length : Int)) =
                                  some (V.sl a l_1 c_1 k, h_1) ∧
                                K Out.ret 28
                                  [V.lb
                                      [V.b b0On, V.b b0Shut, V.b b0Eof, V.i IntKind.i64 x0Place,
                                        V.i IntKind.i64 x0Clock, V.s s0Typed, V.ts cs0Lines n0Lines none,
                                        V.s (s0Fly ++ s2), V.sl a l_1 c_1 k, V.s s0Ready, V.s s0Buffer],
                                    V.b true]
                                  h_1) ∨
                    appendH Try.Y h 41 3 (V.ts cs l c) (V.i IntKind.i64 (↑s2.length : Int)) =
                        some (V.ts cs l c, h) ∧
                      K Out.ret 28
                        [V.lb
                            [V.b b0On, V.b b0Shut, V.b b0Eof, V.i IntKind.i64 x0Place, V.i IntKind.i64 x0Clock,
                              V.s s0Typed, V.ts cs0Lines n0Lines none, V.s (s0Fly ++ s2), V.ts cs l c, V.s s0Ready,
                              V.s s0Buffer],
                          V.b true]
                        h)))) := by kernel_rfl
end Go.Y

/- What the pieces of functions come to: printed by program. -/
namespace Go.Y
open Go.Proofs
set_option maxRecDepth 100000
set_option maxHeartbeats 0
theorem f23_0 (b0On : Bool) (b0Shut : Bool) (b0Eof : Bool) (x0Place : Int) (x0Clock : Int) (s0Typed : List UInt8) (cs0Lines : List V) (n0Lines : Nat) (s0Fly : List UInt8) (cs0Ages : List V) (n0Ages : Nat) (s0Ready : List UInt8) (s0Buffer : List UInt8) (x1Cap : Int) (cs1Places : List V) (n1Places : Nat) (h : Heap) (K : Out → Nat → List V → Heap → Prop) : (codeP Try.Y (Try.Y.loc 23) 100 ((flat (bodyOf Try.f23))) ⟨(V.agg [V.b b0On, V.b b0Shut, V.b b0Eof, V.i IntKind.i64 x0Place, V.i IntKind.i64 x0Clock, V.s s0Typed, V.ts cs0Lines n0Lines none, V.s s0Fly, V.ts cs0Ages n0Ages none, V.s s0Ready, V.s s0Buffer] :: V.agg [V.i IntKind.i64 x1Cap, V.ts cs1Places n1Places none] :: List.replicate 105 .undef), [], h⟩ (VQ [4] K)) =
  (∃ (b : Bool),
  (PCon Try.Y (55 : Nat) [V.agg [V.i IntKind.i64 x1Cap, V.ts cs1Places n1Places none]] fun (v : V) => v = V.b b) ∧
    If (!b) (K Out.ret 107 [V.b false] h)
      (If (ltI x0Place (0 : Int)) (K Out.ret 107 [V.b false] h)
        (If (leI (↑n1Places : Int) x0Place) (K Out.ret 107 [V.b false] h)
          (If (ltI x0Clock (0 : Int)) (K Out.ret 107 [V.b false] h)
            (∃ (b : Bool),
              (PCon Try.Y (56 : Nat) [V.s s0Typed] fun (v : V) => v = V.b b) ∧
                If (!b) (K Out.ret 107 [V.b false] h)
                  (If (ltI (2 : Int) (↑n0Lines : Int)) (K Out.ret 107 [V.b false] h)
                    (Con Try.Y (57 : Nat) [V.ts cs0Lines n0Lines none, V.fn (Fn.func (58 : Nat)) [] []] h
                      fun (v : V) (h' : Heap) =>
                      ∃ (b : Bool),
                        v = V.b b ∧
                          If b (K Out.ret 107 [V.b false] h')
                            (∃ (b : Bool),
                              (PCon Try.Y (59 : Nat)
                                  [V.agg
                                      [V.b b0On, V.b b0Shut, V.b b0Eof, V.i IntKind.i64 x0Place,
                                        V.i IntKind.i64 x0Clock, V.s s0Typed, V.ts cs0Lines n0Lines none, V.s s0Fly,
                                        V.ts cs0Ages n0Ages none, V.s s0Ready, V.s s0Buffer]]
                                  fun (v : V) => v = V.b b) ∧
                                If (!b) (K Out.ret 107 [V.b false] h')
                                  (∃ (n : Int),
                                    (PCon Try.Y (52 : Nat)
                                        [V.agg
                                            [V.b b0On, V.b b0Shut, V.b b0Eof, V.i IntKind.i64 x0Place,
                                              V.i IntKind.i64 x0Clock, V.s s0Typed, V.ts cs0Lines n0Lines none,
                                              V.s s0Fly, V.ts cs0Ages n0Ages none, V.s s0Ready, V.s s0Buffer],
                                          V.agg [V.i IntKind.i64 x1Cap, V.ts cs1Places n1Places none]]
                                        fun (v : V) => v = V.i IntKind.i64 n) ∧
                                      If (ltI n (0 : Int)) (K Out.ret 107 [V.b false] h')
                                        (If (ltI (64 : Int) (↑s0Buffer.length : Int))
                                          (K Out.ret 107 [V.b false] h')
                                          (If (!b0On)
                                            (∃ (b : Bool),
                                              (PCon Try.Y (60 : Nat)
                                                  [V.agg
                                                      [V.b b0On, V.b b0Shut, V.b b0Eof, V.i IntKind.i64 x0Place,
                                                        V.i IntKind.i64 x0Clock, V.s s0Typed,
                                                        V.ts cs0Lines n0Lines none, V.s s0Fly, V.ts cs0Ages n0Ages none,
                                                        V.s s0Ready, V.s s0Buffer],
                                                    V.agg
                                                      [V.b false, V.b false, V.b false, V.i IntKind.i64 (0 : Int),
                                                        V.i IntKind.i64 (0 : Int), V.s [],
                                                        V.sl none 0 (some 0) 0, V.s [],
                                                        V.sl none 0 (some 0) 0, V.s [],
                                                        V.s []]]
                                                  fun (v : V) => v = V.b b) ∧
                                                K Out.ret 107 [V.b b] h')
                                            (If b0Shut
                                              (If (x0Place != (0 : Int)) (K Out.ret 107 [V.b false] h')
                                                (If (x0Clock != (0 : Int)) (K Out.ret 107 [V.b false] h')
                                                  (If (!s0Typed == #[].toList) (K Out.ret 107 [V.b false] h')
                                                    (If (ltI (0 : Int) (↑n0Lines : Int))
                                                      (K Out.ret 107 [V.b false] h')
                                                      (If (!b0Eof) (K Out.ret 107 [V.b true] h')
                                                        (If b0Shut
                                                          (If (s0Fly == #[].toList)
                                                            (K Out.ret 107 [V.b (s0Ready == #[].toList)] h')
                                                            (K Out.ret 107 [V.b false] h'))
                                                          (K Out.ret 107 [V.b false] h')))))))
                                              (If (!b0Eof) (K Out.ret 107 [V.b true] h')
                                                (If b0Shut
                                                  (If (s0Fly == #[].toList)
                                                    (K Out.ret 107 [V.b (s0Ready == #[].toList)] h')
                                                    (K Out.ret 107 [V.b false] h'))
                                                  (K Out.ret 107 [V.b false] h'))))))))))))))) := by kernel_rfl
theorem f24_0 (b0On : Bool) (b0Shut : Bool) (b0Eof : Bool) (x0Place : Int) (x0Clock : Int) (s0Typed : List UInt8) (cs0Lines : List V) (n0Lines : Nat) (s0Fly : List UInt8) (cs0Ages : List V) (n0Ages : Nat) (s0Ready : List UInt8) (s0Buffer : List UInt8) (x1Cap : Int) (cs1Places : List V) (n1Places : Nat) (h : Heap) (K : Out → Nat → List V → Heap → Prop) : (codeP Try.Y (Try.Y.loc 24) 100 (pre (flat (bodyOf Try.f24))) ⟨(V.agg [V.b b0On, V.b b0Shut, V.b b0Eof, V.i IntKind.i64 x0Place, V.i IntKind.i64 x0Clock, V.s s0Typed, V.ts cs0Lines n0Lines none, V.s s0Fly, V.ts cs0Ages n0Ages none, V.s s0Ready, V.s s0Buffer] :: V.agg [V.i IntKind.i64 x1Cap, V.ts cs1Places n1Places none] :: List.replicate 151 .undef), [], h⟩ (VQ [2, 3, 4, 5, 7, 9, 11, 13, 16] K)) =
  (∃ (b : Bool),
  (PCon Try.Y (47 : Nat) [V.agg [V.i IntKind.i64 x1Cap, V.ts cs1Places n1Places none]] fun (v : V) => v = V.b b) ∧
    If (!b)
      (K Out.ret 153
        [V.lb
            [V.b b0On, V.b b0Shut, V.b b0Eof, V.i IntKind.i64 x0Place, V.i IntKind.i64 x0Clock, V.s s0Typed,
              V.ts cs0Lines n0Lines none, V.s s0Fly, V.ts cs0Ages n0Ages none, V.s s0Ready, V.s s0Buffer],
          V.lb [V.i IntKind.i64 x1Cap, V.ts cs1Places n1Places none], V.b false, V.undef,
          V.agg [V.i IntKind.i64 x1Cap, V.ts cs1Places n1Places none], V.b !b, V.tup [], V.tup [], V.tup []]
        h)
      (If (ltI x0Place (0 : Int))
        (K Out.ret 153
          [V.lb
              [V.b b0On, V.b b0Shut, V.b b0Eof, V.i IntKind.i64 x0Place, V.i IntKind.i64 x0Clock, V.s s0Typed,
                V.ts cs0Lines n0Lines none, V.s s0Fly, V.ts cs0Ages n0Ages none, V.s s0Ready, V.s s0Buffer],
            V.lb [V.i IntKind.i64 x1Cap, V.ts cs1Places n1Places none], V.b false, V.undef,
            V.agg [V.i IntKind.i64 x1Cap, V.ts cs1Places n1Places none], V.b !b, V.rf, V.b (ltI x0Place (0 : Int)),
            V.tup []]
          h)
        (If (leI (↑n1Places : Int) x0Place)
          (K Out.ret 153
            [V.lb
                [V.b b0On, V.b b0Shut, V.b b0Eof, V.i IntKind.i64 x0Place, V.i IntKind.i64 x0Clock, V.s s0Typed,
                  V.ts cs0Lines n0Lines none, V.s s0Fly, V.ts cs0Ages n0Ages none, V.s s0Ready, V.s s0Buffer],
              V.lb [V.i IntKind.i64 x1Cap, V.ts cs1Places n1Places none], V.b false, V.undef,
              V.agg [V.i IntKind.i64 x1Cap, V.ts cs1Places n1Places none], V.b !b, V.rf, V.b (ltI x0Place (0 : Int)),
              V.rf]
            h)
          (If (ltI x0Clock (0 : Int))
            (K Out.ret 153
              [V.lb
                  [V.b b0On, V.b b0Shut, V.b b0Eof, V.i IntKind.i64 x0Place, V.i IntKind.i64 x0Clock, V.s s0Typed,
                    V.ts cs0Lines n0Lines none, V.s s0Fly, V.ts cs0Ages n0Ages none, V.s s0Ready, V.s s0Buffer],
                V.lb [V.i IntKind.i64 x1Cap, V.ts cs1Places n1Places none], V.b false, V.undef,
                V.agg [V.i IntKind.i64 x1Cap, V.ts cs1Places n1Places none], V.b !b, V.rf, V.b (ltI x0Place (0 : Int)),
                V.rf]
              h)
            (∃ (b_1 : Bool),
              (PCon Try.Y (61 : Nat) [V.s s0Typed] fun (v : V) => v = V.b b_1) ∧
                If (!b_1)
                  (K Out.ret 153
                    [V.lb
                        [V.b b0On, V.b b0Shut, V.b b0Eof, V.i IntKind.i64 x0Place, V.i IntKind.i64 x0Clock, V.s s0Typed,
                          V.ts cs0Lines n0Lines none, V.s s0Fly, V.ts cs0Ages n0Ages none, V.s s0Ready, V.s s0Buffer],
                      V.lb [V.i IntKind.i64 x1Cap, V.ts cs1Places n1Places none], V.b false, V.undef,
                      V.agg [V.i IntKind.i64 x1Cap, V.ts cs1Places n1Places none], V.b !b, V.rf,
                      V.b (ltI x0Place (0 : Int)), V.rf]
                    h)
                  (If (ltI (2 : Int) (↑n0Lines : Int))
                    (K Out.ret 153
                      [V.lb
                          [V.b b0On, V.b b0Shut, V.b b0Eof, V.i IntKind.i64 x0Place, V.i IntKind.i64 x0Clock,
                            V.s s0Typed, V.ts cs0Lines n0Lines none, V.s s0Fly, V.ts cs0Ages n0Ages none, V.s s0Ready,
                            V.s s0Buffer],
                        V.lb [V.i IntKind.i64 x1Cap, V.ts cs1Places n1Places none], V.b false, V.undef,
                        V.agg [V.i IntKind.i64 x1Cap, V.ts cs1Places n1Places none], V.b !b, V.rf,
                        V.b (ltI x0Place (0 : Int)), V.rf]
                      h)
                    (K Out.normal 153
                      [V.lb
                          [V.b b0On, V.b b0Shut, V.b b0Eof, V.i IntKind.i64 x0Place, V.i IntKind.i64 x0Clock,
                            V.s s0Typed, V.ts cs0Lines n0Lines none, V.s s0Fly, V.ts cs0Ages n0Ages none, V.s s0Ready,
                            V.s s0Buffer],
                        V.lb [V.i IntKind.i64 x1Cap, V.ts cs1Places n1Places none], V.b false,
                        V.i IntKind.i64 (0 : Int), V.agg [V.i IntKind.i64 x1Cap, V.ts cs1Places n1Places none], V.b !b,
                        V.rf, V.b (ltI x0Place (0 : Int)), V.rf]
                      h))))))) := by kernel_rfl
theorem f24_1 (x0Place : Int) (x0Clock : Int) (s0Typed : List UInt8) (cs0Lines : List V) (n0Lines : Nat) (s0Fly : List UInt8) (cs0Ages : List V) (n0Ages : Nat) (s0Ready : List UInt8) (s0Buffer : List UInt8) (x1Cap : Int) (cs1Places : List V) (n1Places : Nat) (b2_0 : Bool) (b2_1 : Bool) (b2_2 : Bool) (b9 : Bool) (b13 : Bool) (x5 : Int) (h : Heap) (K : Out → Nat → List V → Heap → Prop) : (codeP Try.Y (Try.Y.loc 24) 100 ((flat (loopB (post (flat (bodyOf Try.f24)))))) ⟨mk 153 (([2, 3, 5, 7, 9, 11, 13, 16] : List Nat).zip [V.lb [V.b b2_0, V.b b2_1, V.b b2_2, V.i IntKind.i64 x0Place, V.i IntKind.i64 x0Clock, V.s s0Typed, V.ts cs0Lines n0Lines none, V.s s0Fly, V.ts cs0Ages n0Ages none, V.s s0Ready, V.s s0Buffer], V.lb [V.i IntKind.i64 x1Cap, V.ts cs1Places n1Places none], V.i IntKind.i64 x5, V.agg [V.i IntKind.i64 x1Cap, V.ts cs1Places n1Places none], V.b b9, V.rf, V.b b13, V.rf]), [], h⟩ (VQ [2, 3, 4, 5, 7, 9, 11, 13, 16] K)) =
  (If (ltI x5 (↑n0Lines : Int))
  (((0 : Int) ≤ x5 ∧ x5 < (↑n0Lines : Int)) ∧
    ∃ (s : List UInt8),
      takeX 1 (List.drop (x5.toNat * (1 : Nat)) cs0Lines) = some [V.s s] ∧
        ∃ (b : Bool),
          (PCon Try.Y (61 : Nat) [V.s s] fun (v : V) => v = V.b b) ∧
            If (!b)
              (K Out.ret 153
                [V.lb
                    [V.b b2_0, V.b b2_1, V.b b2_2, V.i IntKind.i64 x0Place, V.i IntKind.i64 x0Clock, V.s s0Typed,
                      V.ts cs0Lines n0Lines none, V.s s0Fly, V.ts cs0Ages n0Ages none, V.s s0Ready, V.s s0Buffer],
                  V.lb [V.i IntKind.i64 x1Cap, V.ts cs1Places n1Places none], V.b false, V.i IntKind.i64 x5,
                  V.agg [V.i IntKind.i64 x1Cap, V.ts cs1Places n1Places none], V.b b9, V.rf, V.b b13, V.rf]
                h)
              (K Out.normal 153
                [V.lb
                    [V.b b2_0, V.b b2_1, V.b b2_2, V.i IntKind.i64 x0Place, V.i IntKind.i64 x0Clock, V.s s0Typed,
                      V.ts cs0Lines n0Lines none, V.s s0Fly, V.ts cs0Ages n0Ages none, V.s s0Ready, V.s s0Buffer],
                  V.lb [V.i IntKind.i64 x1Cap, V.ts cs1Places n1Places none], V.undef,
                  V.i IntKind.i64 (IntKind.i64.wrap (x5 + (1 : Int))),
                  V.agg [V.i IntKind.i64 x1Cap, V.ts cs1Places n1Places none], V.b b9, V.rf, V.b b13, V.rf]
                h))
  (K (Out.exit 0) 153
    [V.lb
        [V.b b2_0, V.b b2_1, V.b b2_2, V.i IntKind.i64 x0Place, V.i IntKind.i64 x0Clock, V.s s0Typed,
          V.ts cs0Lines n0Lines none, V.s s0Fly, V.ts cs0Ages n0Ages none, V.s s0Ready, V.s s0Buffer],
      V.lb [V.i IntKind.i64 x1Cap, V.ts cs1Places n1Places none], V.undef, V.i IntKind.i64 x5,
      V.agg [V.i IntKind.i64 x1Cap, V.ts cs1Places n1Places none], V.b b9, V.rf, V.b b13, V.rf]
    h)) := by kernel_rfl
theorem f24_2 (x0Place : Int) (x0Clock : Int) (cs0Lines : List V) (n0Lines : Nat) (cs0Ages : List V) (n0Ages : Nat) (x1Cap : Int) (cs1Places : List V) (n1Places : Nat) (b2_0z2 : Bool) (b2_1z2 : Bool) (b2_2z2 : Bool) (s2_5 : List UInt8) (s2_7 : List UInt8) (s2_9 : List UInt8) (s2_10 : List UInt8) (b9z2 : Bool) (b13z2 : Bool) (h : Heap) (K : Out → Nat → List V → Heap → Prop) : (codeP Try.Y (Try.Y.loc 24) 100 (pre ((post (flat (bodyOf Try.f24))).drop 1)) ⟨mk 153 (([2, 3, 7, 9, 11, 13, 16] : List Nat).zip [V.lb [V.b b2_0z2, V.b b2_1z2, V.b b2_2z2, V.i IntKind.i64 x0Place, V.i IntKind.i64 x0Clock, V.s s2_5, V.ts cs0Lines n0Lines none, V.s s2_7, V.ts cs0Ages n0Ages none, V.s s2_9, V.s s2_10], V.lb [V.i IntKind.i64 x1Cap, V.ts cs1Places n1Places none], V.agg [V.i IntKind.i64 x1Cap, V.ts cs1Places n1Places none], V.b b9z2, V.rf, V.b b13z2, V.rf]), [], h⟩ (VQ [2, 3, 4, 6, 9, 11, 16] K)) =
  (If ((↑n0Ages : Int) != (↑s2_7.length : Int))
  (K Out.ret 153
    [V.lb
        [V.b b2_0z2, V.b b2_1z2, V.b b2_2z2, V.i IntKind.i64 x0Place, V.i IntKind.i64 x0Clock, V.s s2_5,
          V.ts cs0Lines n0Lines none, V.s s2_7, V.ts cs0Ages n0Ages none, V.s s2_9, V.s s2_10],
      V.lb [V.i IntKind.i64 x1Cap, V.ts cs1Places n1Places none], V.b false, V.undef, V.b b9z2, V.rf, V.rf]
    h)
  (∃ (n : Int),
    (PCon Try.Y (62 : Nat)
        [V.agg
            [V.b b2_0z2, V.b b2_1z2, V.b b2_2z2, V.i IntKind.i64 x0Place, V.i IntKind.i64 x0Clock, V.s s2_5,
              V.ts cs0Lines n0Lines none, V.s s2_7, V.ts cs0Ages n0Ages none, V.s s2_9, V.s s2_10],
          V.agg [V.i IntKind.i64 x1Cap, V.ts cs1Places n1Places none]]
        fun (v : V) => v = V.i IntKind.i64 n) ∧
      If (ltI n (0 : Int))
        (K Out.ret 153
          [V.lb
              [V.b b2_0z2, V.b b2_1z2, V.b b2_2z2, V.i IntKind.i64 x0Place, V.i IntKind.i64 x0Clock, V.s s2_5,
                V.ts cs0Lines n0Lines none, V.s s2_7, V.ts cs0Ages n0Ages none, V.s s2_9, V.s s2_10],
            V.lb [V.i IntKind.i64 x1Cap, V.ts cs1Places n1Places none], V.b false, V.undef, V.b b9z2, V.rf, V.rf]
          h)
        (If (ltI (64 : Int) (↑s2_10.length : Int))
          (K Out.ret 153
            [V.lb
                [V.b b2_0z2, V.b b2_1z2, V.b b2_2z2, V.i IntKind.i64 x0Place, V.i IntKind.i64 x0Clock, V.s s2_5,
                  V.ts cs0Lines n0Lines none, V.s s2_7, V.ts cs0Ages n0Ages none, V.s s2_9, V.s s2_10],
              V.lb [V.i IntKind.i64 x1Cap, V.ts cs1Places n1Places none], V.b false, V.undef, V.b b9z2, V.rf, V.rf]
            h)
          (K Out.normal 153
            [V.lb
                [V.b b2_0z2, V.b b2_1z2, V.b b2_2z2, V.i IntKind.i64 x0Place, V.i IntKind.i64 x0Clock, V.s s2_5,
                  V.ts cs0Lines n0Lines none, V.s s2_7, V.ts cs0Ages n0Ages none, V.s s2_9, V.s s2_10],
              V.lb [V.i IntKind.i64 x1Cap, V.ts cs1Places n1Places none], V.undef, V.i IntKind.i64 (0 : Int), V.b b9z2,
              V.rf, V.rf]
            h)))) := by kernel_rfl
theorem f24_3 (x0Place : Int) (x0Clock : Int) (cs0Lines : List V) (n0Lines : Nat) (cs0Ages : List V) (n0Ages : Nat) (x1Cap : Int) (cs1Places : List V) (n1Places : Nat) (b2_0z3 : Bool) (b2_1z3 : Bool) (b2_2z3 : Bool) (s2_5z2 : List UInt8) (s2_7z2 : List UInt8) (s2_9z2 : List UInt8) (s2_10z2 : List UInt8) (b9z3 : Bool) (x6 : Int) (h : Heap) (K : Out → Nat → List V → Heap → Prop) : (codeP Try.Y (Try.Y.loc 24) 100 ((flat (loopB (post ((post (flat (bodyOf Try.f24))).drop 1))))) ⟨mk 153 (([2, 3, 6, 9, 11, 16] : List Nat).zip [V.lb [V.b b2_0z3, V.b b2_1z3, V.b b2_2z3, V.i IntKind.i64 x0Place, V.i IntKind.i64 x0Clock, V.s s2_5z2, V.ts cs0Lines n0Lines none, V.s s2_7z2, V.ts cs0Ages n0Ages none, V.s s2_9z2, V.s s2_10z2], V.lb [V.i IntKind.i64 x1Cap, V.ts cs1Places n1Places none], V.i IntKind.i64 x6, V.b b9z3, V.rf, V.rf]), [], h⟩ (VQ [2, 3, 4, 6, 9, 11, 16] K)) =
  (If (ltI x6 (↑n0Ages : Int))
  (((0 : Int) ≤ x6 ∧ x6 < (↑n0Ages : Int)) ∧
    ∃ (n : Int),
      takeX 1 (List.drop (x6.toNat * (1 : Nat)) cs0Ages) = some [V.i IntKind.i64 n] ∧
        If (ltI n (0 : Int))
          (K Out.ret 153
            [V.lb
                [V.b b2_0z3, V.b b2_1z3, V.b b2_2z3, V.i IntKind.i64 x0Place, V.i IntKind.i64 x0Clock, V.s s2_5z2,
                  V.ts cs0Lines n0Lines none, V.s s2_7z2, V.ts cs0Ages n0Ages none, V.s s2_9z2, V.s s2_10z2],
              V.lb [V.i IntKind.i64 x1Cap, V.ts cs1Places n1Places none], V.b false, V.i IntKind.i64 x6, V.b b9z3, V.rf,
              V.rf]
            h)
          (If (ltI (0 : Int) x6)
            (((0 : Int) ≤ x6 ∧ x6 < (↑n0Ages : Int)) ∧
              ∃ (n : Int),
                takeX 1 (List.drop (x6.toNat * (1 : Nat)) cs0Ages) = some [V.i IntKind.i64 n] ∧
                  ((0 : Int) ≤ IntKind.i64.wrap (x6 - (1 : Int)) ∧
                      IntKind.i64.wrap (x6 - (1 : Int)) < (↑n0Ages : Int)) ∧
                    ∃ (n_1 : Int),
                      takeX 1 (List.drop ((IntKind.i64.wrap (x6 - (1 : Int))).toNat * (1 : Nat)) cs0Ages) =
                          some [V.i IntKind.i64 n_1] ∧
                        If (ltI n_1 n)
                          (K Out.ret 153
                            [V.lb
                                [V.b b2_0z3, V.b b2_1z3, V.b b2_2z3, V.i IntKind.i64 x0Place, V.i IntKind.i64 x0Clock,
                                  V.s s2_5z2, V.ts cs0Lines n0Lines none, V.s s2_7z2, V.ts cs0Ages n0Ages none,
                                  V.s s2_9z2, V.s s2_10z2],
                              V.lb [V.i IntKind.i64 x1Cap, V.ts cs1Places n1Places none], V.b false, V.i IntKind.i64 x6,
                              V.b b9z3, V.rf, V.rf]
                            h)
                          (K Out.normal 153
                            [V.lb
                                [V.b b2_0z3, V.b b2_1z3, V.b b2_2z3, V.i IntKind.i64 x0Place, V.i IntKind.i64 x0Clock,
                                  V.s s2_5z2, V.ts cs0Lines n0Lines none, V.s s2_7z2, V.ts cs0Ages n0Ages none,
                                  V.s s2_9z2, V.s s2_10z2],
                              V.lb [V.i IntKind.i64 x1Cap, V.ts cs1Places n1Places none], V.undef,
                              V.i IntKind.i64 (IntKind.i64.wrap (x6 + (1 : Int))), V.b b9z3, V.rf, V.rf]
                            h))
            (K Out.normal 153
              [V.lb
                  [V.b b2_0z3, V.b b2_1z3, V.b b2_2z3, V.i IntKind.i64 x0Place, V.i IntKind.i64 x0Clock, V.s s2_5z2,
                    V.ts cs0Lines n0Lines none, V.s s2_7z2, V.ts cs0Ages n0Ages none, V.s s2_9z2, V.s s2_10z2],
                V.lb [V.i IntKind.i64 x1Cap, V.ts cs1Places n1Places none], V.undef,
                V.i IntKind.i64 (IntKind.i64.wrap (x6 + (1 : Int))), V.b b9z3, V.rf, V.rf]
              h)))
  (K (Out.exit 2) 153
    [V.lb
        [V.b b2_0z3, V.b b2_1z3, V.b b2_2z3, V.i IntKind.i64 x0Place, V.i IntKind.i64 x0Clock, V.s s2_5z2,
          V.ts cs0Lines n0Lines none, V.s s2_7z2, V.ts cs0Ages n0Ages none, V.s s2_9z2, V.s s2_10z2],
      V.lb [V.i IntKind.i64 x1Cap, V.ts cs1Places n1Places none], V.undef, V.i IntKind.i64 x6, V.b b9z3, V.rf, V.rf]
    h)) := by kernel_rfl
theorem f24_4 (x0Place : Int) (x0Clock : Int) (cs0Lines : List V) (n0Lines : Nat) (cs0Ages : List V) (n0Ages : Nat) (x1Cap : Int) (cs1Places : List V) (n1Places : Nat) (x6 : Int) (b2_0z4 : Bool) (b2_1z4 : Bool) (b2_2z4 : Bool) (s2_5z3 : List UInt8) (s2_7z3 : List UInt8) (s2_9z3 : List UInt8) (s2_10z3 : List UInt8) (h : Heap) (K : Out → Nat → List V → Heap → Prop) : (codeP Try.Y (Try.Y.loc 24) 100 (((post ((post (flat (bodyOf Try.f24))).drop 1)).drop 1)) ⟨mk 153 (([2, 3, 6, 11, 16] : List Nat).zip [V.lb [V.b b2_0z4, V.b b2_1z4, V.b b2_2z4, V.i IntKind.i64 x0Place, V.i IntKind.i64 x0Clock, V.s s2_5z3, V.ts cs0Lines n0Lines none, V.s s2_7z3, V.ts cs0Ages n0Ages none, V.s s2_9z3, V.s s2_10z3], V.lb [V.i IntKind.i64 x1Cap, V.ts cs1Places n1Places none], V.i IntKind.i64 x6, V.rf, V.rf]), [], h⟩ (VQ [4] K)) =
  (If (!b2_0z4)
  (∃ (b : Bool),
    (PCon Try.Y (38 : Nat)
        [V.agg
            [V.b b2_0z4, V.b b2_1z4, V.b b2_2z4, V.i IntKind.i64 x0Place, V.i IntKind.i64 x0Clock, V.s s2_5z3,
              V.ts cs0Lines n0Lines none, V.s s2_7z3, V.ts cs0Ages n0Ages none, V.s s2_9z3, V.s s2_10z3],
          V.agg
            [V.b false, V.b false, V.b false, V.i IntKind.i64 (0 : Int), V.i IntKind.i64 (0 : Int), V.s [],
              V.sl none 0 (some 0) 0, V.s [],
              V.sl none 0 (some 0) 0, V.s [], V.s []]]
        fun (v : V) => v = V.b b) ∧
      If (!b) (K Out.ret 153 [V.b false] h)
        (If b2_1z4
          (If (x0Place != (0 : Int)) (K Out.ret 153 [V.b false] h)
            (If (x0Clock != (0 : Int)) (K Out.ret 153 [V.b false] h)
              (If (!s2_5z3 == #[].toList) (K Out.ret 153 [V.b false] h)
                (If (ltI (0 : Int) (↑n0Lines : Int)) (K Out.ret 153 [V.b false] h)
                  (If (!b2_2z4) (K Out.ret 153 [V.b true] h)
                    (If b2_1z4
                      (If (s2_7z3 == #[].toList) (K Out.ret 153 [V.b (s2_9z3 == #[].toList)] h)
                        (K Out.ret 153 [V.b false] h))
                      (K Out.ret 153 [V.b false] h)))))))
          (If (!b2_2z4) (K Out.ret 153 [V.b true] h)
            (If b2_1z4
              (If (s2_7z3 == #[].toList) (K Out.ret 153 [V.b (s2_9z3 == #[].toList)] h)
                (K Out.ret 153 [V.b false] h))
              (K Out.ret 153 [V.b false] h)))))
  (If b2_1z4
    (If (x0Place != (0 : Int)) (K Out.ret 153 [V.b false] h)
      (If (x0Clock != (0 : Int)) (K Out.ret 153 [V.b false] h)
        (If (!s2_5z3 == #[].toList) (K Out.ret 153 [V.b false] h)
          (If (ltI (0 : Int) (↑n0Lines : Int)) (K Out.ret 153 [V.b false] h)
            (If (!b2_2z4) (K Out.ret 153 [V.b true] h)
              (If b2_1z4
                (If (s2_7z3 == #[].toList) (K Out.ret 153 [V.b (s2_9z3 == #[].toList)] h)
                  (K Out.ret 153 [V.b false] h))
                (K Out.ret 153 [V.b false] h)))))))
    (If (!b2_2z4) (K Out.ret 153 [V.b true] h)
      (If b2_1z4
        (If (s2_7z3 == #[].toList) (K Out.ret 153 [V.b (s2_9z3 == #[].toList)] h)
          (K Out.ret 153 [V.b false] h))
        (K Out.ret 153 [V.b false] h))))) := by kernel_rfl
theorem f60_0 (b0On : Bool) (b0Shut : Bool) (b0Eof : Bool) (x0Place : Int) (x0Clock : Int) (s0Typed : List UInt8) (cs0Lines : List V) (n0Lines : Nat) (s0Fly : List UInt8) (cs0Ages : List V) (n0Ages : Nat) (s0Ready : List UInt8) (s0Buffer : List UInt8) (b1On : Bool) (b1Shut : Bool) (b1Eof : Bool) (x1Place : Int) (x1Clock : Int) (s1Typed : List UInt8) (cs1Lines : List V) (n1Lines : Nat) (s1Fly : List UInt8) (cs1Ages : List V) (n1Ages : Nat) (s1Ready : List UInt8) (s1Buffer : List UInt8) (h : Heap) (K : Out → Nat → List V → Heap → Prop) : (codeP Try.Y (Try.Y.loc 60) 100 ((flat (bodyOf Try.f60))) ⟨(V.agg [V.b b0On, V.b b0Shut, V.b b0Eof, V.i IntKind.i64 x0Place, V.i IntKind.i64 x0Clock, V.s s0Typed, V.ts cs0Lines n0Lines none, V.s s0Fly, V.ts cs0Ages n0Ages none, V.s s0Ready, V.s s0Buffer] :: V.agg [V.b b1On, V.b b1Shut, V.b b1Eof, V.i IntKind.i64 x1Place, V.i IntKind.i64 x1Clock, V.s s1Typed, V.ts cs1Lines n1Lines none, V.s s1Fly, V.ts cs1Ages n1Ages none, V.s s1Ready, V.s s1Buffer] :: List.replicate 78 .undef), [], h⟩ (VQ [4] K)) =
  (If (b0On == b1On)
  (If (b0Shut == b1Shut)
    (If (b0Eof == b1Eof)
      (If (x0Place == x1Place)
        (If (x0Clock == x1Clock)
          (If (s0Typed == s1Typed)
            (If (s0Fly == s1Fly)
              (If (s0Ready == s1Ready)
                (If (s0Buffer == s1Buffer)
                  (∃ (b : Bool),
                    (PCon Try.Y (102 : Nat) [V.ts cs0Lines n0Lines none, V.ts cs1Lines n1Lines none] fun (v : V) =>
                        v = V.b b) ∧
                      If b
                        (∃ (b : Bool),
                          (PCon Try.Y (103 : Nat) [V.ts cs0Ages n0Ages none, V.ts cs1Ages n1Ages none] fun (v : V) =>
                              v = V.b b) ∧
                            K Out.ret 80 [V.b b] h)
                        (K Out.ret 80 [V.b false] h))
                  (K Out.ret 80 [V.b false] h))
                (K Out.ret 80 [V.b false] h))
              (K Out.ret 80 [V.b false] h))
            (K Out.ret 80 [V.b false] h))
          (K Out.ret 80 [V.b false] h))
        (K Out.ret 80 [V.b false] h))
      (K Out.ret 80 [V.b false] h))
    (K Out.ret 80 [V.b false] h))
  (K Out.ret 80 [V.b false] h)) := by kernel_rfl
theorem f61_0 (s0 : List UInt8) (h : Heap) (K : Out → Nat → List V → Heap → Prop) : (codeP Try.Y (Try.Y.loc 61) 100 (pre (flat (bodyOf Try.f61))) ⟨(V.s s0 :: List.replicate 16 .undef), [], h⟩ (VQ [0, 3] K)) =
  (K Out.normal 17 [V.s s0, V.i IntKind.i64 (0 : Int)] h) := by kernel_rfl
theorem f61_1 (s0 : List UInt8) (x3 : Int) (h : Heap) (K : Out → Nat → List V → Heap → Prop) : (codeP Try.Y (Try.Y.loc 61) 100 ((flat (loopB (post (flat (bodyOf Try.f61)))))) ⟨mk 17 (([0, 3] : List Nat).zip [V.s s0, V.i IntKind.i64 x3]), [], h⟩ (VQ [0, 2, 3] K)) =
  (If (ltI x3 (↑s0.length : Int))
  (∃ (c : UInt8),
    ((0 : Int) ≤ x3 ∧ s0[x3.toNat]? = some c) ∧
      If ((↑c.toNat : Int) == (10 : Int)) (K Out.ret 17 [V.s s0, V.b false, V.i IntKind.i64 x3] h)
        (K Out.normal 17 [V.s s0, V.undef, V.i IntKind.i64 (IntKind.i64.wrap (x3 + (1 : Int)))] h))
  (K (Out.exit 0) 17 [V.s s0, V.undef, V.i IntKind.i64 x3] h)) := by kernel_rfl
theorem f61_2 (s0 : List UInt8) (h : Heap) (K : Out → Nat → List V → Heap → Prop) : (codeP Try.Y (Try.Y.loc 61) 100 (((post (flat (bodyOf Try.f61))).drop 1)) ⟨mk 17 (([0] : List Nat).zip [V.s s0]), [], h⟩ (VQ [2] K)) =
  (K Out.ret 17 [V.b (leI (↑s0.length : Int) (16 : Int))] h) := by kernel_rfl
theorem f62_0 (b0On : Bool) (b0Shut : Bool) (b0Eof : Bool) (x0Place : Int) (x0Clock : Int) (s0Typed : List UInt8) (cs0Lines : List V) (n0Lines : Nat) (s0Fly : List UInt8) (cs0Ages : List V) (n0Ages : Nat) (s0Ready : List UInt8) (s0Buffer : List UInt8) (x1Cap : Int) (cs1Places : List V) (n1Places : Nat) (h : Heap) (K : Out → Nat → List V → Heap → Prop) : (codeP Try.Y (Try.Y.loc 62) 100 ((flat (bodyOf Try.f62))) ⟨(V.agg [V.b b0On, V.b b0Shut, V.b b0Eof, V.i IntKind.i64 x0Place, V.i IntKind.i64 x0Clock, V.s s0Typed, V.ts cs0Lines n0Lines none, V.s s0Fly, V.ts cs0Ages n0Ages none, V.s s0Ready, V.s s0Buffer] :: V.agg [V.i IntKind.i64 x1Cap, V.ts cs1Places n1Places none] :: List.replicate 13 .undef), [], h⟩ (VQ [4] K)) =
  (K Out.ret 15
  [V.i IntKind.i64 (IntKind.i64.wrap (IntKind.i64.wrap (x1Cap - (↑s0Fly.length : Int)) - (↑s0Ready.length : Int)))] h) := by kernel_rfl
theorem f38_0 (b0On : Bool) (b0Shut : Bool) (b0Eof : Bool) (x0Place : Int) (x0Clock : Int) (s0Typed : List UInt8) (cs0Lines : List V) (n0Lines : Nat) (s0Fly : List UInt8) (cs0Ages : List V) (n0Ages : Nat) (s0Ready : List UInt8) (s0Buffer : List UInt8) (b1On : Bool) (b1Shut : Bool) (b1Eof : Bool) (x1Place : Int) (x1Clock : Int) (s1Typed : List UInt8) (cs1Lines : List V) (n1Lines : Nat) (s1Fly : List UInt8) (cs1Ages : List V) (n1Ages : Nat) (s1Ready : List UInt8) (s1Buffer : List UInt8) (h : Heap) (K : Out → Nat → List V → Heap → Prop) : (codeP Try.Y (Try.Y.loc 38) 100 (pre (flat (bodyOf Try.f38))) ⟨(V.agg [V.b b0On, V.b b0Shut, V.b b0Eof, V.i IntKind.i64 x0Place, V.i IntKind.i64 x0Clock, V.s s0Typed, V.ts cs0Lines n0Lines none, V.s s0Fly, V.ts cs0Ages n0Ages none, V.s s0Ready, V.s s0Buffer] :: V.agg [V.b b1On, V.b b1Shut, V.b b1Eof, V.i IntKind.i64 x1Place, V.i IntKind.i64 x1Clock, V.s s1Typed, V.ts cs1Lines n1Lines none, V.s s1Fly, V.ts cs1Ages n1Ages none, V.s s1Ready, V.s s1Buffer] :: List.replicate 120 .undef), [], h⟩ (VQ [2, 3, 4, 5] K)) =
  (If (!b0On == b1On)
  (K Out.ret 122
    [V.lb
        [V.b b0On, V.b b0Shut, V.b b0Eof, V.i IntKind.i64 x0Place, V.i IntKind.i64 x0Clock, V.s s0Typed,
          V.ts cs0Lines n0Lines none, V.s s0Fly, V.ts cs0Ages n0Ages none, V.s s0Ready, V.s s0Buffer],
      V.lb
        [V.b b1On, V.b b1Shut, V.b b1Eof, V.i IntKind.i64 x1Place, V.i IntKind.i64 x1Clock, V.s s1Typed,
          V.ts cs1Lines n1Lines none, V.s s1Fly, V.ts cs1Ages n1Ages none, V.s s1Ready, V.s s1Buffer],
      V.b false, V.undef]
    h)
  (If (!b0Shut == b1Shut)
    (K Out.ret 122
      [V.lb
          [V.b b0On, V.b b0Shut, V.b b0Eof, V.i IntKind.i64 x0Place, V.i IntKind.i64 x0Clock, V.s s0Typed,
            V.ts cs0Lines n0Lines none, V.s s0Fly, V.ts cs0Ages n0Ages none, V.s s0Ready, V.s s0Buffer],
        V.lb
          [V.b b1On, V.b b1Shut, V.b b1Eof, V.i IntKind.i64 x1Place, V.i IntKind.i64 x1Clock, V.s s1Typed,
            V.ts cs1Lines n1Lines none, V.s s1Fly, V.ts cs1Ages n1Ages none, V.s s1Ready, V.s s1Buffer],
        V.b false, V.undef]
      h)
    (If (!b0Eof == b1Eof)
      (K Out.ret 122
        [V.lb
            [V.b b0On, V.b b0Shut, V.b b0Eof, V.i IntKind.i64 x0Place, V.i IntKind.i64 x0Clock, V.s s0Typed,
              V.ts cs0Lines n0Lines none, V.s s0Fly, V.ts cs0Ages n0Ages none, V.s s0Ready, V.s s0Buffer],
          V.lb
            [V.b b1On, V.b b1Shut, V.b b1Eof, V.i IntKind.i64 x1Place, V.i IntKind.i64 x1Clock, V.s s1Typed,
              V.ts cs1Lines n1Lines none, V.s s1Fly, V.ts cs1Ages n1Ages none, V.s s1Ready, V.s s1Buffer],
          V.b false, V.undef]
        h)
      (If (x0Place != x1Place)
        (K Out.ret 122
          [V.lb
              [V.b b0On, V.b b0Shut, V.b b0Eof, V.i IntKind.i64 x0Place, V.i IntKind.i64 x0Clock, V.s s0Typed,
                V.ts cs0Lines n0Lines none, V.s s0Fly, V.ts cs0Ages n0Ages none, V.s s0Ready, V.s s0Buffer],
            V.lb
              [V.b b1On, V.b b1Shut, V.b b1Eof, V.i IntKind.i64 x1Place, V.i IntKind.i64 x1Clock, V.s s1Typed,
                V.ts cs1Lines n1Lines none, V.s s1Fly, V.ts cs1Ages n1Ages none, V.s s1Ready, V.s s1Buffer],
            V.b false, V.undef]
          h)
        (If (x0Clock != x1Clock)
          (K Out.ret 122
            [V.lb
                [V.b b0On, V.b b0Shut, V.b b0Eof, V.i IntKind.i64 x0Place, V.i IntKind.i64 x0Clock, V.s s0Typed,
                  V.ts cs0Lines n0Lines none, V.s s0Fly, V.ts cs0Ages n0Ages none, V.s s0Ready, V.s s0Buffer],
              V.lb
                [V.b b1On, V.b b1Shut, V.b b1Eof, V.i IntKind.i64 x1Place, V.i IntKind.i64 x1Clock, V.s s1Typed,
                  V.ts cs1Lines n1Lines none, V.s s1Fly, V.ts cs1Ages n1Ages none, V.s s1Ready, V.s s1Buffer],
              V.b false, V.undef]
            h)
          (If (!s0Typed == s1Typed)
            (K Out.ret 122
              [V.lb
                  [V.b b0On, V.b b0Shut, V.b b0Eof, V.i IntKind.i64 x0Place, V.i IntKind.i64 x0Clock, V.s s0Typed,
                    V.ts cs0Lines n0Lines none, V.s s0Fly, V.ts cs0Ages n0Ages none, V.s s0Ready, V.s s0Buffer],
                V.lb
                  [V.b b1On, V.b b1Shut, V.b b1Eof, V.i IntKind.i64 x1Place, V.i IntKind.i64 x1Clock, V.s s1Typed,
                    V.ts cs1Lines n1Lines none, V.s s1Fly, V.ts cs1Ages n1Ages none, V.s s1Ready, V.s s1Buffer],
                V.b false, V.undef]
              h)
            (If (!s0Fly == s1Fly)
              (K Out.ret 122
                [V.lb
                    [V.b b0On, V.b b0Shut, V.b b0Eof, V.i IntKind.i64 x0Place, V.i IntKind.i64 x0Clock, V.s s0Typed,
                      V.ts cs0Lines n0Lines none, V.s s0Fly, V.ts cs0Ages n0Ages none, V.s s0Ready, V.s s0Buffer],
                  V.lb
                    [V.b b1On, V.b b1Shut, V.b b1Eof, V.i IntKind.i64 x1Place, V.i IntKind.i64 x1Clock, V.s s1Typed,
                      V.ts cs1Lines n1Lines none, V.s s1Fly, V.ts cs1Ages n1Ages none, V.s s1Ready, V.s s1Buffer],
                  V.b false, V.undef]
                h)
              (If (!s0Ready == s1Ready)
                (K Out.ret 122
                  [V.lb
                      [V.b b0On, V.b b0Shut, V.b b0Eof, V.i IntKind.i64 x0Place, V.i IntKind.i64 x0Clock, V.s s0Typed,
                        V.ts cs0Lines n0Lines none, V.s s0Fly, V.ts cs0Ages n0Ages none, V.s s0Ready, V.s s0Buffer],
                    V.lb
                      [V.b b1On, V.b b1Shut, V.b b1Eof, V.i IntKind.i64 x1Place, V.i IntKind.i64 x1Clock, V.s s1Typed,
                        V.ts cs1Lines n1Lines none, V.s s1Fly, V.ts cs1Ages n1Ages none, V.s s1Ready, V.s s1Buffer],
                    V.b false, V.undef]
                  h)
                (If (!s0Buffer == s1Buffer)
                  (K Out.ret 122
                    [V.lb
                        [V.b b0On, V.b b0Shut, V.b b0Eof, V.i IntKind.i64 x0Place, V.i IntKind.i64 x0Clock, V.s s0Typed,
                          V.ts cs0Lines n0Lines none, V.s s0Fly, V.ts cs0Ages n0Ages none, V.s s0Ready, V.s s0Buffer],
                      V.lb
                        [V.b b1On, V.b b1Shut, V.b b1Eof, V.i IntKind.i64 x1Place, V.i IntKind.i64 x1Clock, V.s s1Typed,
                          V.ts cs1Lines n1Lines none, V.s s1Fly, V.ts cs1Ages n1Ages none, V.s s1Ready, V.s s1Buffer],
                      V.b false, V.undef]
                    h)
                  (If ((↑n0Lines : Int) != (↑n1Lines : Int))
                    (K Out.ret 122
                      [V.lb
                          [V.b b0On, V.b b0Shut, V.b b0Eof, V.i IntKind.i64 x0Place, V.i IntKind.i64 x0Clock,
                            V.s s0Typed, V.ts cs0Lines n0Lines none, V.s s0Fly, V.ts cs0Ages n0Ages none, V.s s0Ready,
                            V.s s0Buffer],
                        V.lb
                          [V.b b1On, V.b b1Shut, V.b b1Eof, V.i IntKind.i64 x1Place, V.i IntKind.i64 x1Clock,
                            V.s s1Typed, V.ts cs1Lines n1Lines none, V.s s1Fly, V.ts cs1Ages n1Ages none, V.s s1Ready,
                            V.s s1Buffer],
                        V.b false, V.undef]
                      h)
                    (If ((↑n0Ages : Int) != (↑n1Ages : Int))
                      (K Out.ret 122
                        [V.lb
                            [V.b b0On, V.b b0Shut, V.b b0Eof, V.i IntKind.i64 x0Place, V.i IntKind.i64 x0Clock,
                              V.s s0Typed, V.ts cs0Lines n0Lines none, V.s s0Fly, V.ts cs0Ages n0Ages none, V.s s0Ready,
                              V.s s0Buffer],
                          V.lb
                            [V.b b1On, V.b b1Shut, V.b b1Eof, V.i IntKind.i64 x1Place, V.i IntKind.i64 x1Clock,
                              V.s s1Typed, V.ts cs1Lines n1Lines none, V.s s1Fly, V.ts cs1Ages n1Ages none, V.s s1Ready,
                              V.s s1Buffer],
                          V.b false, V.undef]
                        h)
                      (K Out.normal 122
                        [V.lb
                            [V.b b0On, V.b b0Shut, V.b b0Eof, V.i IntKind.i64 x0Place, V.i IntKind.i64 x0Clock,
                              V.s s0Typed, V.ts cs0Lines n0Lines none, V.s s0Fly, V.ts cs0Ages n0Ages none, V.s s0Ready,
                              V.s s0Buffer],
                          V.lb
                            [V.b b1On, V.b b1Shut, V.b b1Eof, V.i IntKind.i64 x1Place, V.i IntKind.i64 x1Clock,
                              V.s s1Typed, V.ts cs1Lines n1Lines none, V.s s1Fly, V.ts cs1Ages n1Ages none, V.s s1Ready,
                              V.s s1Buffer],
                          V.b false, V.i IntKind.i64 (0 : Int)]
                        h)))))))))))) := by kernel_rfl
theorem f38_1 (b0On : Bool) (b0Shut : Bool) (b0Eof : Bool) (x0Place : Int) (x0Clock : Int) (s0Typed : List UInt8) (cs0Lines : List V) (n0Lines : Nat) (s0Fly : List UInt8) (cs0Ages : List V) (n0Ages : Nat) (s0Ready : List UInt8) (s0Buffer : List UInt8) (b1On : Bool) (b1Shut : Bool) (b1Eof : Bool) (x1Place : Int) (x1Clock : Int) (s1Typed : List UInt8) (cs1Lines : List V) (n1Lines : Nat) (s1Fly : List UInt8) (cs1Ages : List V) (n1Ages : Nat) (s1Ready : List UInt8) (s1Buffer : List UInt8) (x5 : Int) (h : Heap) (K : Out → Nat → List V → Heap → Prop) : (codeP Try.Y (Try.Y.loc 38) 100 ((flat (loopB (post (flat (bodyOf Try.f38)))))) ⟨mk 122 (([2, 3, 5] : List Nat).zip [V.lb [V.b b0On, V.b b0Shut, V.b b0Eof, V.i IntKind.i64 x0Place, V.i IntKind.i64 x0Clock, V.s s0Typed, V.ts cs0Lines n0Lines none, V.s s0Fly, V.ts cs0Ages n0Ages none, V.s s0Ready, V.s s0Buffer], V.lb [V.b b1On, V.b b1Shut, V.b b1Eof, V.i IntKind.i64 x1Place, V.i IntKind.i64 x1Clock, V.s s1Typed, V.ts cs1Lines n1Lines none, V.s s1Fly, V.ts cs1Ages n1Ages none, V.s s1Ready, V.s s1Buffer], V.i IntKind.i64 x5]), [], h⟩ (VQ [2, 3, 4, 5] K)) =
  (If (ltI x5 (↑n0Lines : Int))
  (((0 : Int) ≤ x5 ∧ x5 < (↑n0Lines : Int)) ∧
    ∃ (s : List UInt8),
      takeX 1 (List.drop (x5.toNat * (1 : Nat)) cs0Lines) = some [V.s s] ∧
        ((0 : Int) ≤ x5 ∧ x5 < (↑n1Lines : Int)) ∧
          ∃ (s_1 : List UInt8),
            takeX 1 (List.drop (x5.toNat * (1 : Nat)) cs1Lines) = some [V.s s_1] ∧
              If (!s == s_1)
                (K Out.ret 122
                  [V.lb
                      [V.b b0On, V.b b0Shut, V.b b0Eof, V.i IntKind.i64 x0Place, V.i IntKind.i64 x0Clock, V.s s0Typed,
                        V.ts cs0Lines n0Lines none, V.s s0Fly, V.ts cs0Ages n0Ages none, V.s s0Ready, V.s s0Buffer],
                    V.lb
                      [V.b b1On, V.b b1Shut, V.b b1Eof, V.i IntKind.i64 x1Place, V.i IntKind.i64 x1Clock, V.s s1Typed,
                        V.ts cs1Lines n1Lines none, V.s s1Fly, V.ts cs1Ages n1Ages none, V.s s1Ready, V.s s1Buffer],
                    V.b false, V.i IntKind.i64 x5]
                  h)
                (K Out.normal 122
                  [V.lb
                      [V.b b0On, V.b b0Shut, V.b b0Eof, V.i IntKind.i64 x0Place, V.i IntKind.i64 x0Clock, V.s s0Typed,
                        V.ts cs0Lines n0Lines none, V.s s0Fly, V.ts cs0Ages n0Ages none, V.s s0Ready, V.s s0Buffer],
                    V.lb
                      [V.b b1On, V.b b1Shut, V.b b1Eof, V.i IntKind.i64 x1Place, V.i IntKind.i64 x1Clock, V.s s1Typed,
                        V.ts cs1Lines n1Lines none, V.s s1Fly, V.ts cs1Ages n1Ages none, V.s s1Ready, V.s s1Buffer],
                    V.undef, V.i IntKind.i64 (IntKind.i64.wrap (x5 + (1 : Int)))]
                  h))
  (K (Out.exit 0) 122
    [V.lb
        [V.b b0On, V.b b0Shut, V.b b0Eof, V.i IntKind.i64 x0Place, V.i IntKind.i64 x0Clock, V.s s0Typed,
          V.ts cs0Lines n0Lines none, V.s s0Fly, V.ts cs0Ages n0Ages none, V.s s0Ready, V.s s0Buffer],
      V.lb
        [V.b b1On, V.b b1Shut, V.b b1Eof, V.i IntKind.i64 x1Place, V.i IntKind.i64 x1Clock, V.s s1Typed,
          V.ts cs1Lines n1Lines none, V.s s1Fly, V.ts cs1Ages n1Ages none, V.s s1Ready, V.s s1Buffer],
      V.undef, V.i IntKind.i64 x5]
    h)) := by kernel_rfl
theorem f38_2 (b0On : Bool) (b0Shut : Bool) (b0Eof : Bool) (x0Place : Int) (x0Clock : Int) (cs0Lines : List V) (n0Lines : Nat) (cs0Ages : List V) (n0Ages : Nat) (b1On : Bool) (b1Shut : Bool) (b1Eof : Bool) (x1Place : Int) (x1Clock : Int) (cs1Lines : List V) (n1Lines : Nat) (cs1Ages : List V) (n1Ages : Nat) (s2_5 : List UInt8) (s2_7 : List UInt8) (s2_9 : List UInt8) (s2_10 : List UInt8) (s3_5 : List UInt8) (s3_7 : List UInt8) (s3_9 : List UInt8) (s3_10 : List UInt8) (h : Heap) (K : Out → Nat → List V → Heap → Prop) : (codeP Try.Y (Try.Y.loc 38) 100 (pre ((post (flat (bodyOf Try.f38))).drop 1)) ⟨mk 122 (([2, 3] : List Nat).zip [V.lb [V.b b0On, V.b b0Shut, V.b b0Eof, V.i IntKind.i64 x0Place, V.i IntKind.i64 x0Clock, V.s s2_5, V.ts cs0Lines n0Lines none, V.s s2_7, V.ts cs0Ages n0Ages none, V.s s2_9, V.s s2_10], V.lb [V.b b1On, V.b b1Shut, V.b b1Eof, V.i IntKind.i64 x1Place, V.i IntKind.i64 x1Clock, V.s s3_5, V.ts cs1Lines n1Lines none, V.s s3_7, V.ts cs1Ages n1Ages none, V.s s3_9, V.s s3_10]]), [], h⟩ (VQ [2, 3, 6] K)) =
  (K Out.normal 122
  [V.lb
      [V.b b0On, V.b b0Shut, V.b b0Eof, V.i IntKind.i64 x0Place, V.i IntKind.i64 x0Clock, V.s s2_5,
        V.ts cs0Lines n0Lines none, V.s s2_7, V.ts cs0Ages n0Ages none, V.s s2_9, V.s s2_10],
    V.lb
      [V.b b1On, V.b b1Shut, V.b b1Eof, V.i IntKind.i64 x1Place, V.i IntKind.i64 x1Clock, V.s s3_5,
        V.ts cs1Lines n1Lines none, V.s s3_7, V.ts cs1Ages n1Ages none, V.s s3_9, V.s s3_10],
    V.i IntKind.i64 (0 : Int)]
  h) := by kernel_rfl
theorem f38_3 (b0On : Bool) (b0Shut : Bool) (b0Eof : Bool) (x0Place : Int) (x0Clock : Int) (cs0Lines : List V) (n0Lines : Nat) (cs0Ages : List V) (n0Ages : Nat) (b1On : Bool) (b1Shut : Bool) (b1Eof : Bool) (x1Place : Int) (x1Clock : Int) (cs1Lines : List V) (n1Lines : Nat) (cs1Ages : List V) (n1Ages : Nat) (s2_5z2 : List UInt8) (s2_7z2 : List UInt8) (s2_9z2 : List UInt8) (s2_10z2 : List UInt8) (s3_5z2 : List UInt8) (s3_7z2 : List UInt8) (s3_9z2 : List UInt8) (s3_10z2 : List UInt8) (x6 : Int) (h : Heap) (K : Out → Nat → List V → Heap → Prop) : (codeP Try.Y (Try.Y.loc 38) 100 ((flat (loopB (post ((post (flat (bodyOf Try.f38))).drop 1))))) ⟨mk 122 (([2, 3, 6] : List Nat).zip [V.lb [V.b b0On, V.b b0Shut, V.b b0Eof, V.i IntKind.i64 x0Place, V.i IntKind.i64 x0Clock, V.s s2_5z2, V.ts cs0Lines n0Lines none, V.s s2_7z2, V.ts cs0Ages n0Ages none, V.s s2_9z2, V.s s2_10z2], V.lb [V.b b1On, V.b b1Shut, V.b b1Eof, V.i IntKind.i64 x1Place, V.i IntKind.i64 x1Clock, V.s s3_5z2, V.ts cs1Lines n1Lines none, V.s s3_7z2, V.ts cs1Ages n1Ages none, V.s s3_9z2, V.s s3_10z2], V.i IntKind.i64 x6]), [], h⟩ (VQ [2, 3, 4, 6] K)) =
  (If (ltI x6 (↑n0Ages : Int))
  (((0 : Int) ≤ x6 ∧ x6 < (↑n0Ages : Int)) ∧
    ∃ (n : Int),
      takeX 1 (List.drop (x6.toNat * (1 : Nat)) cs0Ages) = some [V.i IntKind.i64 n] ∧
        ((0 : Int) ≤ x6 ∧ x6 < (↑n1Ages : Int)) ∧
          ∃ (n_1 : Int),
            takeX 1 (List.drop (x6.toNat * (1 : Nat)) cs1Ages) = some [V.i IntKind.i64 n_1] ∧
              If (n != n_1)
                (K Out.ret 122
                  [V.lb
                      [V.b b0On, V.b b0Shut, V.b b0Eof, V.i IntKind.i64 x0Place, V.i IntKind.i64 x0Clock, V.s s2_5z2,
                        V.ts cs0Lines n0Lines none, V.s s2_7z2, V.ts cs0Ages n0Ages none, V.s s2_9z2, V.s s2_10z2],
                    V.lb
                      [V.b b1On, V.b b1Shut, V.b b1Eof, V.i IntKind.i64 x1Place, V.i IntKind.i64 x1Clock, V.s s3_5z2,
                        V.ts cs1Lines n1Lines none, V.s s3_7z2, V.ts cs1Ages n1Ages none, V.s s3_9z2, V.s s3_10z2],
                    V.b false, V.i IntKind.i64 x6]
                  h)
                (K Out.normal 122
                  [V.lb
                      [V.b b0On, V.b b0Shut, V.b b0Eof, V.i IntKind.i64 x0Place, V.i IntKind.i64 x0Clock, V.s s2_5z2,
                        V.ts cs0Lines n0Lines none, V.s s2_7z2, V.ts cs0Ages n0Ages none, V.s s2_9z2, V.s s2_10z2],
                    V.lb
                      [V.b b1On, V.b b1Shut, V.b b1Eof, V.i IntKind.i64 x1Place, V.i IntKind.i64 x1Clock, V.s s3_5z2,
                        V.ts cs1Lines n1Lines none, V.s s3_7z2, V.ts cs1Ages n1Ages none, V.s s3_9z2, V.s s3_10z2],
                    V.undef, V.i IntKind.i64 (IntKind.i64.wrap (x6 + (1 : Int)))]
                  h))
  (K (Out.exit 2) 122
    [V.lb
        [V.b b0On, V.b b0Shut, V.b b0Eof, V.i IntKind.i64 x0Place, V.i IntKind.i64 x0Clock, V.s s2_5z2,
          V.ts cs0Lines n0Lines none, V.s s2_7z2, V.ts cs0Ages n0Ages none, V.s s2_9z2, V.s s2_10z2],
      V.lb
        [V.b b1On, V.b b1Shut, V.b b1Eof, V.i IntKind.i64 x1Place, V.i IntKind.i64 x1Clock, V.s s3_5z2,
          V.ts cs1Lines n1Lines none, V.s s3_7z2, V.ts cs1Ages n1Ages none, V.s s3_9z2, V.s s3_10z2],
      V.undef, V.i IntKind.i64 x6]
    h)) := by kernel_rfl
theorem f38_4  (h : Heap) (K : Out → Nat → List V → Heap → Prop) : (codeP Try.Y (Try.Y.loc 38) 100 (((post ((post (flat (bodyOf Try.f38))).drop 1)).drop 1)) ⟨mk 122 (([] : List Nat).zip []), [], h⟩ (VQ [4] K)) =
  (K Out.ret 122 [V.b true] h) := by kernel_rfl
theorem f57_0 (cs0 : List V) (n0 : Nat) (v1 : V) (h : Heap) (K : Out → Nat → List V → Heap → Prop) : (codeP Try.Y (Try.Y.loc 57) 100 ((flat (bodyOf Try.f57))) ⟨(V.ts cs0 n0 none :: v1 :: List.replicate 7 .undef), [], h⟩ (VQ [4] K)) =
  (Con Try.Y (101 : Nat)
  [V.ts cs0 n0 none,
    ev
      ((((V.ts cs0 n0 none :: v1 :: List.replicate (7 : Nat) V.undef).set (4 : Nat)
                (ev (V.ts cs0 n0 none :: v1 :: List.replicate (7 : Nat) V.undef)
                  (Operand.const (Value.bool false)))).set
            (5 : Nat)
            (ev
              ((V.ts cs0 n0 none :: v1 :: List.replicate (7 : Nat) V.undef).set (4 : Nat)
                (ev (V.ts cs0 n0 none :: v1 :: List.replicate (7 : Nat) V.undef) (Operand.const (Value.bool false))))
              (Operand.tmp (0 : Nat)))).set
        (6 : Nat)
        (ev
          (((V.ts cs0 n0 none :: v1 :: List.replicate (7 : Nat) V.undef).set (4 : Nat)
                (ev (V.ts cs0 n0 none :: v1 :: List.replicate (7 : Nat) V.undef)
                  (Operand.const (Value.bool false)))).set
            (5 : Nat)
            (ev
              ((V.ts cs0 n0 none :: v1 :: List.replicate (7 : Nat) V.undef).set (4 : Nat)
                (ev (V.ts cs0 n0 none :: v1 :: List.replicate (7 : Nat) V.undef) (Operand.const (Value.bool false))))
              (Operand.tmp (0 : Nat))))
          (Operand.tmp (1 : Nat))))
      (Operand.tmp (6 : Nat))]
  h fun (v : V) (h' : Heap) => ∃ (n : Int), v = V.i IntKind.i64 n ∧ K Out.ret 9 [V.b (leI (0 : Int) n)] h') := by kernel_rfl
theorem f101_0 (cs0 : List V) (n0 : Nat) (v1 : V) (h : Heap) (K : Out → Nat → List V → Heap → Prop) : (codeP Try.Y (Try.Y.loc 101) 100 (pre (flat (bodyOf Try.f101))) ⟨(V.ts cs0 n0 none :: v1 :: List.replicate 17 .undef), [], h⟩ (VQ [0, 1, 7, 8] K)) =
  (K Out.normal 19 [V.ts cs0 n0 none, v1, V.i IntKind.i64 (↑n0 : Int), V.i IntKind.i64 (0 : Int)] h) := by kernel_rfl
theorem f102_0 (cs0 : List V) (n0 : Nat) (cs1 : List V) (n1 : Nat) (h : Heap) (K : Out → Nat → List V → Heap → Prop) : (codeP Try.Y (Try.Y.loc 102) 100 (pre (flat (bodyOf Try.f102))) ⟨(V.ts cs0 n0 none :: V.ts cs1 n1 none :: List.replicate 24 .undef), [], h⟩ (VQ [0, 1, 4, 12, 13] K)) =
  (If ((↑n0 : Int) != (↑n1 : Int))
  (K Out.ret 26 [V.ts cs0 n0 none, V.ts cs1 n1 none, V.b false, V.undef, V.undef] h)
  (K Out.normal 26
    [V.ts cs0 n0 none, V.ts cs1 n1 none, V.b false, V.i IntKind.i64 (↑n0 : Int), V.i IntKind.i64 (0 : Int)] h)) := by kernel_rfl
theorem f102_1 (cs0 : List V) (n0 : Nat) (cs1 : List V) (n1 : Nat) (x13 : Int) (h : Heap) (K : Out → Nat → List V → Heap → Prop) : (codeP Try.Y (Try.Y.loc 102) 100 ((flat (loopB (post (flat (bodyOf Try.f102)))))) ⟨mk 26 (([0, 1, 12, 13] : List Nat).zip [V.ts cs0 n0 none, V.ts cs1 n1 none, V.i IntKind.i64 (↑n0 : Int), V.i IntKind.i64 x13]), [], h⟩ (VQ [0, 1, 4, 12, 13] K)) =
  (If (ltI x13 (↑n0 : Int))
  (((0 : Int) ≤ x13 ∧ x13 < (↑n0 : Int)) ∧
    ∃ (s : List UInt8),
      takeX 1 (List.drop (x13.toNat * (1 : Nat)) cs0) = some [V.s s] ∧
        ((0 : Int) ≤ x13 ∧ x13 < (↑n1 : Int)) ∧
          ∃ (s_1 : List UInt8),
            takeX 1 (List.drop (x13.toNat * (1 : Nat)) cs1) = some [V.s s_1] ∧
              If (!s == s_1)
                (K Out.ret 26
                  [V.ts cs0 n0 none, V.ts cs1 n1 none, V.b false, V.i IntKind.i64 (↑n0 : Int), V.i IntKind.i64 x13] h)
                (K Out.normal 26
                  [V.ts cs0 n0 none, V.ts cs1 n1 none, V.undef, V.i IntKind.i64 (↑n0 : Int),
                    V.i IntKind.i64 (IntKind.i64.wrap (x13 + (1 : Int)))]
                  h))
  (K (Out.exit 0) 26
    [V.ts cs0 n0 none, V.ts cs1 n1 none, V.undef, V.i IntKind.i64 (↑n0 : Int), V.i IntKind.i64 x13] h)) := by kernel_rfl
theorem f102_2  (h : Heap) (K : Out → Nat → List V → Heap → Prop) : (codeP Try.Y (Try.Y.loc 102) 100 (((post (flat (bodyOf Try.f102))).drop 1)) ⟨mk 26 (([] : List Nat).zip []), [], h⟩ (VQ [4] K)) =
  (K Out.ret 26 [V.b true] h) := by kernel_rfl
theorem f103_0 (cs0 : List V) (n0 : Nat) (cs1 : List V) (n1 : Nat) (h : Heap) (K : Out → Nat → List V → Heap → Prop) : (codeP Try.Y (Try.Y.loc 103) 100 (pre (flat (bodyOf Try.f103))) ⟨(V.ts cs0 n0 none :: V.ts cs1 n1 none :: List.replicate 24 .undef), [], h⟩ (VQ [0, 1, 4, 12, 13] K)) =
  (If ((↑n0 : Int) != (↑n1 : Int))
  (K Out.ret 26 [V.ts cs0 n0 none, V.ts cs1 n1 none, V.b false, V.undef, V.undef] h)
  (K Out.normal 26
    [V.ts cs0 n0 none, V.ts cs1 n1 none, V.b false, V.i IntKind.i64 (↑n0 : Int), V.i IntKind.i64 (0 : Int)] h)) := by kernel_rfl
theorem f103_1 (cs0 : List V) (n0 : Nat) (cs1 : List V) (n1 : Nat) (x13 : Int) (h : Heap) (K : Out → Nat → List V → Heap → Prop) : (codeP Try.Y (Try.Y.loc 103) 100 ((flat (loopB (post (flat (bodyOf Try.f103)))))) ⟨mk 26 (([0, 1, 12, 13] : List Nat).zip [V.ts cs0 n0 none, V.ts cs1 n1 none, V.i IntKind.i64 (↑n0 : Int), V.i IntKind.i64 x13]), [], h⟩ (VQ [0, 1, 4, 12, 13] K)) =
  (If (ltI x13 (↑n0 : Int))
  (((0 : Int) ≤ x13 ∧ x13 < (↑n0 : Int)) ∧
    ∃ (n : Int),
      takeX 1 (List.drop (x13.toNat * (1 : Nat)) cs0) = some [V.i IntKind.i64 n] ∧
        ((0 : Int) ≤ x13 ∧ x13 < (↑n1 : Int)) ∧
          ∃ (n_1 : Int),
            takeX 1 (List.drop (x13.toNat * (1 : Nat)) cs1) = some [V.i IntKind.i64 n_1] ∧
              If (n != n_1)
                (K Out.ret 26
                  [V.ts cs0 n0 none, V.ts cs1 n1 none, V.b false, V.i IntKind.i64 (↑n0 : Int), V.i IntKind.i64 x13] h)
                (K Out.normal 26
                  [V.ts cs0 n0 none, V.ts cs1 n1 none, V.undef, V.i IntKind.i64 (↑n0 : Int),
                    V.i IntKind.i64 (IntKind.i64.wrap (x13 + (1 : Int)))]
                  h))
  (K (Out.exit 0) 26
    [V.ts cs0 n0 none, V.ts cs1 n1 none, V.undef, V.i IntKind.i64 (↑n0 : Int), V.i IntKind.i64 x13] h)) := by kernel_rfl
theorem f103_2  (h : Heap) (K : Out → Nat → List V → Heap → Prop) : (codeP Try.Y (Try.Y.loc 103) 100 (((post (flat (bodyOf Try.f103))).drop 1)) ⟨mk 26 (([] : List Nat).zip []), [], h⟩ (VQ [4] K)) =
  (K Out.ret 26 [V.b true] h) := by kernel_rfl
theorem f56_0 (s0 : List UInt8) (h : Heap) (K : Out → Nat → List V → Heap → Prop) : (codeP Try.Y (Try.Y.loc 56) 100 ((flat (bodyOf Try.f56))) ⟨(V.s s0 :: List.replicate 10 .undef), [], h⟩ (VQ [2] K)) =
  (If (leI (↑s0.length : Int) (16 : Int))
  (∃ (n : Int),
    (PCon Try.Y (100 : Nat) [V.s s0, V.i IntKind.u8 (10 : Int)] fun (v : V) => v = V.i IntKind.i64 n) ∧
      K Out.ret 11 [V.b (ltI n (0 : Int))] h)
  (K Out.ret 11 [V.b false] h)) := by kernel_rfl
theorem f58_0 (s0 : List UInt8) (h : Heap) (K : Out → Nat → List V → Heap → Prop) : (codeP Try.Y (Try.Y.loc 58) 100 ((flat (bodyOf Try.f58))) ⟨(V.s s0 :: List.replicate 5 .undef), [], h⟩ (VQ [2] K)) =
  (∃ (b : Bool), (PCon Try.Y (56 : Nat) [V.s s0] fun (v : V) => v = V.b b) ∧ K Out.ret 6 [V.b !b] h) := by kernel_rfl
theorem f59_0 (b0On : Bool) (b0Shut : Bool) (b0Eof : Bool) (x0Place : Int) (x0Clock : Int) (s0Typed : List UInt8) (cs0Lines : List V) (n0Lines : Nat) (s0Fly : List UInt8) (cs0Ages : List V) (n0Ages : Nat) (s0Ready : List UInt8) (s0Buffer : List UInt8) (h : Heap) (K : Out → Nat → List V → Heap → Prop) : (codeP Try.Y (Try.Y.loc 59) 100 (pre (flat (bodyOf Try.f59))) ⟨(V.agg [V.b b0On, V.b b0Shut, V.b b0Eof, V.i IntKind.i64 x0Place, V.i IntKind.i64 x0Clock, V.s s0Typed, V.ts cs0Lines n0Lines none, V.s s0Fly, V.ts cs0Ages n0Ages none, V.s s0Ready, V.s s0Buffer] :: List.replicate 36 .undef), [], h⟩ (VQ [1, 2, 5, 13, 14, 15] K)) =
  (If ((↑n0Ages : Int) != (↑s0Fly.length : Int))
  (K Out.ret 37
    [V.lb
        [V.b b0On, V.b b0Shut, V.b b0Eof, V.i IntKind.i64 x0Place, V.i IntKind.i64 x0Clock, V.s s0Typed,
          V.ts cs0Lines n0Lines none, V.s s0Fly, V.ts cs0Ages n0Ages none, V.s s0Ready, V.s s0Buffer],
      V.b false, V.rf, V.undef, V.undef, V.undef]
    h)
  (K Out.normal 37
    [V.lb
        [V.b b0On, V.b b0Shut, V.b b0Eof, V.i IntKind.i64 x0Place, V.i IntKind.i64 x0Clock, V.s s0Typed,
          V.ts cs0Lines n0Lines none, V.s s0Fly, V.ts cs0Ages n0Ages none, V.s s0Ready, V.s s0Buffer],
      V.b false, V.rf, V.ts cs0Ages n0Ages none, V.i IntKind.i64 (↑n0Ages : Int), V.i IntKind.i64 (0 : Int)]
    h)) := by kernel_rfl
theorem f59_1 (b0On : Bool) (b0Shut : Bool) (b0Eof : Bool) (x0Place : Int) (x0Clock : Int) (s0Typed : List UInt8) (cs0Lines : List V) (n0Lines : Nat) (s0Fly : List UInt8) (cs0Ages : List V) (n0Ages : Nat) (s0Ready : List UInt8) (s0Buffer : List UInt8) (x15 : Int) (h : Heap) (K : Out → Nat → List V → Heap → Prop) : (codeP Try.Y (Try.Y.loc 59) 100 ((flat (loopB (post (flat (bodyOf Try.f59)))))) ⟨mk 37 (([1, 2, 5, 13, 14, 15] : List Nat).zip [V.lb [V.b b0On, V.b b0Shut, V.b b0Eof, V.i IntKind.i64 x0Place, V.i IntKind.i64 x0Clock, V.s s0Typed, V.ts cs0Lines n0Lines none, V.s s0Fly, V.ts cs0Ages n0Ages none, V.s s0Ready, V.s s0Buffer], V.b false, V.rf, V.ts cs0Ages n0Ages none, V.i IntKind.i64 (↑n0Ages : Int), V.i IntKind.i64 x15]), [], h⟩ (VQ [1, 2, 5, 13, 14, 15] K)) =
  (If (ltI x15 (↑n0Ages : Int))
  (((0 : Int) ≤ x15 ∧ x15 < (↑n0Ages : Int)) ∧
    ∃ (n : Int),
      takeX 1 (List.drop (x15.toNat * (1 : Nat)) cs0Ages) = some [V.i IntKind.i64 n] ∧
        If (ltI n (0 : Int))
          (K Out.ret 37
            [V.lb
                [V.b b0On, V.b b0Shut, V.b b0Eof, V.i IntKind.i64 x0Place, V.i IntKind.i64 x0Clock, V.s s0Typed,
                  V.ts cs0Lines n0Lines none, V.s s0Fly, V.ts cs0Ages n0Ages none, V.s s0Ready, V.s s0Buffer],
              V.b false, V.rf, V.ts cs0Ages n0Ages none, V.i IntKind.i64 (↑n0Ages : Int), V.i IntKind.i64 x15]
            h)
          (If (ltI (0 : Int) x15)
            (((0 : Int) ≤ IntKind.i64.wrap (x15 - (1 : Int)) ∧ IntKind.i64.wrap (x15 - (1 : Int)) < (↑n0Ages : Int)) ∧
              ∃ (n_1 : Int),
                takeX 1 (List.drop ((IntKind.i64.wrap (x15 - (1 : Int))).toNat * (1 : Nat)) cs0Ages) =
                    some [V.i IntKind.i64 n_1] ∧
                  If (ltI n_1 n)
                    (K Out.ret 37
                      [V.lb
                          [V.b b0On, V.b b0Shut, V.b b0Eof, V.i IntKind.i64 x0Place, V.i IntKind.i64 x0Clock,
                            V.s s0Typed, V.ts cs0Lines n0Lines none, V.s s0Fly, V.ts cs0Ages n0Ages none, V.s s0Ready,
                            V.s s0Buffer],
                        V.b false, V.rf, V.ts cs0Ages n0Ages none, V.i IntKind.i64 (↑n0Ages : Int), V.i IntKind.i64 x15]
                      h)
                    (K Out.normal 37
                      [V.lb
                          [V.b b0On, V.b b0Shut, V.b b0Eof, V.i IntKind.i64 x0Place, V.i IntKind.i64 x0Clock,
                            V.s s0Typed, V.ts cs0Lines n0Lines none, V.s s0Fly, V.ts cs0Ages n0Ages none, V.s s0Ready,
                            V.s s0Buffer],
                        V.b false, V.rf, V.ts cs0Ages n0Ages none, V.i IntKind.i64 (↑n0Ages : Int),
                        V.i IntKind.i64 (IntKind.i64.wrap (x15 + (1 : Int)))]
                      h))
            (K Out.normal 37
              [V.lb
                  [V.b b0On, V.b b0Shut, V.b b0Eof, V.i IntKind.i64 x0Place, V.i IntKind.i64 x0Clock, V.s s0Typed,
                    V.ts cs0Lines n0Lines none, V.s s0Fly, V.ts cs0Ages n0Ages none, V.s s0Ready, V.s s0Buffer],
                V.b false, V.rf, V.ts cs0Ages n0Ages none, V.i IntKind.i64 (↑n0Ages : Int),
                V.i IntKind.i64 (IntKind.i64.wrap (x15 + (1 : Int)))]
              h)))
  (K (Out.exit 0) 37
    [V.lb
        [V.b b0On, V.b b0Shut, V.b b0Eof, V.i IntKind.i64 x0Place, V.i IntKind.i64 x0Clock, V.s s0Typed,
          V.ts cs0Lines n0Lines none, V.s s0Fly, V.ts cs0Ages n0Ages none, V.s s0Ready, V.s s0Buffer],
      V.b false, V.rf, V.ts cs0Ages n0Ages none, V.i IntKind.i64 (↑n0Ages : Int), V.i IntKind.i64 x15]
    h)) := by kernel_rfl
theorem f59_2  (h : Heap) (K : Out → Nat → List V → Heap → Prop) : (codeP Try.Y (Try.Y.loc 59) 100 (((post (flat (bodyOf Try.f59))).drop 1)) ⟨mk 37 (([] : List Nat).zip []), [], h⟩ (VQ [2] K)) =
  (K Out.ret 37 [V.b true] h) := by kernel_rfl
theorem f52_0 (b0On : Bool) (b0Shut : Bool) (b0Eof : Bool) (x0Place : Int) (x0Clock : Int) (s0Typed : List UInt8) (cs0Lines : List V) (n0Lines : Nat) (s0Fly : List UInt8) (cs0Ages : List V) (n0Ages : Nat) (s0Ready : List UInt8) (s0Buffer : List UInt8) (x1Cap : Int) (cs1Places : List V) (n1Places : Nat) (h : Heap) (K : Out → Nat → List V → Heap → Prop) : (codeP Try.Y (Try.Y.loc 52) 100 ((flat (bodyOf Try.f52))) ⟨(V.agg [V.b b0On, V.b b0Shut, V.b b0Eof, V.i IntKind.i64 x0Place, V.i IntKind.i64 x0Clock, V.s s0Typed, V.ts cs0Lines n0Lines none, V.s s0Fly, V.ts cs0Ages n0Ages none, V.s s0Ready, V.s s0Buffer] :: V.agg [V.i IntKind.i64 x1Cap, V.ts cs1Places n1Places none] :: List.replicate 13 .undef), [], h⟩ (VQ [4] K)) =
  (K Out.ret 15
  [V.i IntKind.i64 (IntKind.i64.wrap (IntKind.i64.wrap (x1Cap - (↑s0Fly.length : Int)) - (↑s0Ready.length : Int)))] h) := by kernel_rfl
theorem f57s_0 (cs0 : List V) (n0 : Nat) (h : Heap) (K : Out → Nat → List V → Heap → Prop) : (codeP Try.Y (Try.Y.loc 57) 100 ((flat (bodyOf Try.f57))) ⟨(V.ts cs0 n0 none :: V.fn (Fn.func 58) [] [] :: List.replicate 7 .undef), [], h⟩ (VQ [4] K)) =
  (Con Try.Y (101 : Nat) [V.ts cs0 n0 none, V.fn (Fn.func 58) [] []] h fun (v : V) (h' : Heap) =>
  ∃ (n : Int), v = V.i IntKind.i64 n ∧ K Out.ret 9 [V.b (leI (0 : Int) n)] h') := by kernel_rfl
theorem f101s_0 (cs0 : List V) (n0 : Nat) (h : Heap) (K : Out → Nat → List V → Heap → Prop) : (codeP Try.Y (Try.Y.loc 101) 100 (pre (flat (bodyOf Try.f101))) ⟨(V.ts cs0 n0 none :: V.fn (Fn.func 58) [] [] :: List.replicate 17 .undef), [], h⟩ (VQ [0, 1, 7, 8] K)) =
  (K Out.normal 19
  [V.ts cs0 n0 none, V.fn (Fn.func 58) [] [], V.i IntKind.i64 (↑n0 : Int), V.i IntKind.i64 (0 : Int)] h) := by kernel_rfl
theorem f101s_1 (cs0 : List V) (n0 : Nat) (x8 : Int) (h : Heap) (K : Out → Nat → List V → Heap → Prop) : (codeP Try.Y (Try.Y.loc 101) 100 ((flat (loopB (post (flat (bodyOf Try.f101)))))) ⟨mk 19 (([0, 1, 7, 8] : List Nat).zip [V.ts cs0 n0 none, V.fn (Fn.func 58) [] [], V.i IntKind.i64 (↑n0 : Int), V.i IntKind.i64 x8]), [], h⟩ (VQ [0, 1, 4, 7, 8] K)) =
  (If (ltI x8 (↑n0 : Int))
  (((0 : Int) ≤ x8 ∧ x8 < (↑n0 : Int)) ∧
    ∃ (s : List UInt8),
      takeX 1 (List.drop (x8.toNat * (1 : Nat)) cs0) = some [V.s s] ∧
        ∃ (b : Bool),
          (PCon Try.Y 58 [V.s s] fun (v : V) => v = V.b b) ∧
            If b
              (K Out.ret 19
                [V.ts cs0 n0 none, V.fn (Fn.func 58) [] [], V.i IntKind.i64 x8, V.i IntKind.i64 (↑n0 : Int),
                  V.i IntKind.i64 x8]
                h)
              (K Out.normal 19
                [V.ts cs0 n0 none, V.fn (Fn.func 58) [] [], V.undef, V.i IntKind.i64 (↑n0 : Int),
                  V.i IntKind.i64 (IntKind.i64.wrap (x8 + (1 : Int)))]
                h))
  (K (Out.exit 0) 19
    [V.ts cs0 n0 none, V.fn (Fn.func 58) [] [], V.undef, V.i IntKind.i64 (↑n0 : Int), V.i IntKind.i64 x8] h)) := by kernel_rfl
theorem f101s_2  (h : Heap) (K : Out → Nat → List V → Heap → Prop) : (codeP Try.Y (Try.Y.loc 101) 100 (((post (flat (bodyOf Try.f101))).drop 1)) ⟨mk 19 (([] : List Nat).zip []), [], h⟩ (VQ [4] K)) =
  (K Out.ret 19 [V.i IntKind.i64 (-1 : Int)] h) := by kernel_rfl
end Go.Y

/- What the pieces of functions come to: printed by program. -/
namespace Go.Y
open Go.Proofs
set_option maxRecDepth 100000
set_option maxHeartbeats 0
theorem f5_0 (x0 : Int) (cs1 : List V) (n1 : Nat) (h : Heap) (K : Out → Nat → List V → Heap → Prop) : (codeP Try.Y (Try.Y.loc 5) 100 (pre (flat (bodyOf Try.f5))) ⟨(V.i IntKind.i64 x0 :: V.ts cs1 n1 none :: List.replicate 100 .undef), [], h⟩ (VQ [0, 4, 5, 6, 7, 13, 32, 33, 34] K)) =
  (∃ (b : Bool),
  (PCon Try.Y (19 : Nat) [] fun (v : V) => v = V.b b) ∧
    If (!b)
      (K Out.ret 102
        [V.i IntKind.i64 x0, V.b false, V.undef, V.undef, V.undef, V.undef, V.undef, V.undef, V.undef] h)
      (If (ltI (30 : Int) (↑n1 : Int))
        (K Out.ret 102
          [V.i IntKind.i64 x0, V.b true, V.undef, V.undef, V.undef, V.undef, V.undef, V.undef, V.undef] h)
        (If (ltI x0 (1 : Int))
          (K Out.ret 102
            [V.i IntKind.i64 x0, V.b true, V.undef, V.undef, V.undef, V.undef, V.undef, V.undef, V.undef] h)
          (If (ltI (16 : Int) x0)
            (K Out.ret 102
              [V.i IntKind.i64 x0, V.b true, V.undef, V.undef, V.undef, V.undef, V.undef, V.undef, V.undef] h)
            (K Out.normal 102
              [V.i IntKind.i64 x0, V.b false,
                V.lb
                  [V.i IntKind.i64 x0,
                    V.ts [V.s #[(97 : UInt8)].toList, V.b false, V.sl none 0 (some 0) 0]
                      1 (some 1)],
                V.lb
                  [V.b true, V.b false, V.b false, V.i IntKind.i64 (0 : Int), V.i IntKind.i64 (0 : Int), V.s [],
                    V.sl none 0 (some 0) 0, V.s [],
                    V.sl none 0 (some 0) 0, V.s [], V.s []],
                V.s #[].toList, V.undef, V.ts cs1 n1 none, V.i IntKind.i64 (↑n1 : Int), V.i IntKind.i64 (0 : Int)]
              h))))) := by kernel_rfl
theorem f5_1 (x0 : Int) (cs1 : List V) (n1 : Nat) (cs5_1 : List V) (n5_1 : Nat) (b6_0z6 : Bool) (b6_1z6 : Bool) (b6_2z6 : Bool) (x6_3z5 : Int) (x6_4z5 : Int) (s6_5z5 : List UInt8) (c6_6z3 : Option Nat) (cs6_6z5 : List V) (n6_6z5 : Nat) (s6_7z5 : List UInt8) (c6_8z3 : Option Nat) (cs6_8z5 : List V) (n6_8z5 : Nat) (s6_9z5 : List UInt8) (s6_10z5 : List UInt8) (s7z2 : List UInt8) (v13z2 : V) (x34z5 : Int) (h : Heap) (K : Out → Nat → List V → Heap → Prop) : (codeP Try.Y (Try.Y.loc 5) 100 ((flat (loopB (post (flat (bodyOf Try.f5)))))) ⟨mk 102 (([0, 5, 6, 7, 13, 32, 33, 34] : List Nat).zip [V.i IntKind.i64 x0, V.lb [V.i IntKind.i64 x0, V.ts cs5_1 n5_1 (some 1)], V.lb [V.b b6_0z6, V.b b6_1z6, V.b b6_2z6, V.i IntKind.i64 x6_3z5, V.i IntKind.i64 x6_4z5, V.s s6_5z5, V.ts cs6_6z5 n6_6z5 c6_6z3, V.s s6_7z5, V.ts cs6_8z5 n6_8z5 c6_8z3, V.s s6_9z5, V.s s6_10z5], V.s s7z2, v13z2, V.ts cs1 n1 none, V.i IntKind.i64 (↑n1 : Int), V.i IntKind.i64 x34z5]), [], h⟩ (VQ [0, 4, 5, 6, 7, 13, 32, 33, 34] K)) =
  (If (ltI x34z5 (↑n1 : Int))
  (((0 : Int) ≤ x34z5 ∧ x34z5 < (↑n1 : Int)) ∧
    ∃ (s : List UInt8),
      takeX 1 (List.drop (x34z5.toNat * (1 : Nat)) cs1) = some [V.s s] ∧
        If (ltI (10 : Int) (↑s.length : Int))
          (K Out.ret 102
            [V.i IntKind.i64 x0, V.b true, V.lb [V.i IntKind.i64 x0, V.ts cs5_1 n5_1 (some 1)],
              V.lb
                [V.b b6_0z6, V.b b6_1z6, V.b b6_2z6, V.i IntKind.i64 x6_3z5, V.i IntKind.i64 x6_4z5, V.s s6_5z5,
                  V.ts cs6_6z5 n6_6z5 c6_6z3, V.s s6_7z5, V.ts cs6_8z5 n6_8z5 c6_8z3, V.s s6_9z5, V.s s6_10z5],
              V.s s7z2, v13z2, V.ts cs1 n1 none, V.i IntKind.i64 (↑n1 : Int), V.i IntKind.i64 x34z5]
            h)
          (If (s == #[].toList)
            (∃ (b : Bool),
              ∃ (b_1 : Bool),
                ∃ (b_2 : Bool),
                  ∃ (n : Int),
                    ∃ (n_1 : Int),
                      ∃ (s : List UInt8),
                        ∃ (cs : List V),
                          ∃ (l : Nat),
                            ∃ (c : Option Nat),
                              ∃ (s_1 : List UInt8),
                                ∃ (cs_1 : List V),
                                  ∃ (l_1 : Nat),
                                    ∃ (c_1 : Option Nat),
                                      ∃ (s_2 : List UInt8),
                                        ∃ (s_3 : List UInt8),
                                          (PCon Try.Y (20 : Nat)
                                              [V.agg
                                                  [V.b b6_0z6, V.b b6_1z6, V.b b6_2z6, V.i IntKind.i64 x6_3z5,
                                                    V.i IntKind.i64 x6_4z5, V.s s6_5z5, V.ts cs6_6z5 n6_6z5 c6_6z3,
                                                    V.s s6_7z5, V.ts cs6_8z5 n6_8z5 c6_8z3, V.s s6_9z5, V.s s6_10z5]]
                                              fun (v : V) =>
                                              v =
                                                V.agg
                                                  [V.b b, V.b b_1, V.b b_2, V.i IntKind.i64 n, V.i IntKind.i64 n_1,
                                                    V.s s, V.ts cs l c, V.s s_1, V.ts cs_1 l_1 c_1, V.s s_2, V.s s_3]) ∧
                                            s_2.length + s_1.length ≤ 1152921504606846976 ∧
                                              If (!s_2 ++ s_1 == s7z2)
                                                (K Out.ret 102
                                                  [V.i IntKind.i64 x0, V.b false,
                                                    V.lb [V.i IntKind.i64 x0, V.ts cs5_1 n5_1 (some 1)],
                                                    V.lb
                                                      [V.b b, V.b b_1, V.b b_2, V.i IntKind.i64 n, V.i IntKind.i64 n_1,
                                                        V.s s, V.ts cs l c, V.s s_1, V.ts cs_1 l_1 c_1, V.s s_2,
                                                        V.s s_3],
                                                    V.s s7z2, v13z2, V.ts cs1 n1 none, V.i IntKind.i64 (↑n1 : Int),
                                                    V.i IntKind.i64 x34z5]
                                                  h)
                                                (∃ (b_3 : Bool),
                                                  (PCon Try.Y (23 : Nat)
                                                      [V.agg
                                                          [V.b b, V.b b_1, V.b b_2, V.i IntKind.i64 n,
                                                            V.i IntKind.i64 n_1, V.s s, V.ts cs l c, V.s s_1,
                                                            V.ts cs_1 l_1 c_1, V.s s_2, V.s s_3],
                                                        V.agg [V.i IntKind.i64 x0, V.ts cs5_1 n5_1 (some 1)]]
                                                      fun (v : V) => v = V.b b_3) ∧
                                                    If (!b_3)
                                                      (K Out.ret 102
                                                        [V.i IntKind.i64 x0, V.b false,
                                                          V.lb [V.i IntKind.i64 x0, V.ts cs5_1 n5_1 (some 1)],
                                                          V.lb
                                                            [V.b b, V.b b_1, V.b b_2, V.i IntKind.i64 n,
                                                              V.i IntKind.i64 n_1, V.s s, V.ts cs l c, V.s s_1,
                                                              V.ts cs_1 l_1 c_1, V.s s_2, V.s s_3],
                                                          V.s s7z2, v13z2, V.ts cs1 n1 none,
                                                          V.i IntKind.i64 (↑n1 : Int), V.i IntKind.i64 x34z5]
                                                        h)
                                                      (∃ (b_4 : Bool),
                                                        (PCon Try.Y (24 : Nat)
                                                            [V.agg
                                                                [V.b b, V.b b_1, V.b b_2, V.i IntKind.i64 n,
                                                                  V.i IntKind.i64 n_1, V.s s, V.ts cs l c, V.s s_1,
                                                                  V.ts cs_1 l_1 c_1, V.s s_2, V.s s_3],
                                                              V.agg
                                                                [V.i IntKind.i64 x0,
                                                                  V.ts cs5_1 n5_1 (some 1)]]
                                                            fun (v : V) => v = V.b b_4) ∧
                                                          If (!b_4)
                                                            (K Out.ret 102
                                                              [V.i IntKind.i64 x0, V.b false,
                                                                V.lb
                                                                  [V.i IntKind.i64 x0,
                                                                    V.ts cs5_1 n5_1 (some 1)],
                                                                V.lb
                                                                  [V.b b, V.b b_1, V.b b_2, V.i IntKind.i64 n,
                                                                    V.i IntKind.i64 n_1, V.s s, V.ts cs l c, V.s s_1,
                                                                    V.ts cs_1 l_1 c_1, V.s s_2, V.s s_3],
                                                                V.s s7z2, v13z2, V.ts cs1 n1 none,
                                                                V.i IntKind.i64 (↑n1 : Int), V.i IntKind.i64 x34z5]
                                                              h)
                                                            (K Out.normal 102
                                                              [V.i IntKind.i64 x0, V.undef,
                                                                V.lb
                                                                  [V.i IntKind.i64 x0,
                                                                    V.ts cs5_1 n5_1 (some 1)],
                                                                V.lb
                                                                  [V.b b, V.b b_1, V.b b_2, V.i IntKind.i64 n,
                                                                    V.i IntKind.i64 n_1, V.s s, V.ts cs l c, V.s s_1,
                                                                    V.ts cs_1 l_1 c_1, V.s s_2, V.s s_3],
                                                                V.s s7z2, v13z2, V.ts cs1 n1 none,
                                                                V.i IntKind.i64 (↑n1 : Int),
                                                                V.i IntKind.i64 (IntKind.i64.wrap (x34z5 + (1 : Int)))]
                                                              h))))
            (If (s == #[(33 : UInt8)].toList)
              (∃ (b : Bool),
                ∃ (b_1 : Bool),
                  ∃ (b_2 : Bool),
                    ∃ (n : Int),
                      ∃ (n_1 : Int),
                        ∃ (s : List UInt8),
                          ∃ (cs : List V),
                            ∃ (l : Nat),
                              ∃ (c : Option Nat),
                                ∃ (s_1 : List UInt8),
                                  ∃ (cs_1 : List V),
                                    ∃ (l_1 : Nat),
                                      ∃ (c_1 : Option Nat),
                                        ∃ (s_2 : List UInt8),
                                          ∃ (s_3 : List UInt8),
                                            ∃ (n_2 : Int),
                                              (PCon Try.Y (21 : Nat)
                                                  [V.agg
                                                      [V.b b6_0z6, V.b b6_1z6, V.b b6_2z6, V.i IntKind.i64 x6_3z5,
                                                        V.i IntKind.i64 x6_4z5, V.s s6_5z5, V.ts cs6_6z5 n6_6z5 c6_6z3,
                                                        V.s s6_7z5, V.ts cs6_8z5 n6_8z5 c6_8z3, V.s s6_9z5,
                                                        V.s s6_10z5]]
                                                  fun (v : V) =>
                                                  v =
                                                    V.tup
                                                      [V.agg
                                                          [V.b b, V.b b_1, V.b b_2, V.i IntKind.i64 n,
                                                            V.i IntKind.i64 n_1, V.s s, V.ts cs l c, V.s s_1,
                                                            V.ts cs_1 l_1 c_1, V.s s_2, V.s s_3],
                                                        V.i IntKind.i64 n_2]) ∧
                                                If (n_2 == (0 : Int))
                                                  (s_2.length + s_1.length ≤ 1152921504606846976 ∧
                                                    If (!s_2 ++ s_1 == s7z2)
                                                      (K Out.ret 102
                                                        [V.i IntKind.i64 x0, V.b false,
                                                          V.lb [V.i IntKind.i64 x0, V.ts cs5_1 n5_1 (some 1)],
                                                          V.lb
                                                            [V.b b, V.b b_1, V.b b_2, V.i IntKind.i64 n,
                                                              V.i IntKind.i64 n_1, V.s s, V.ts cs l c, V.s s_1,
                                                              V.ts cs_1 l_1 c_1, V.s s_2, V.s s_3],
                                                          V.s s7z2, v13z2, V.ts cs1 n1 none,
                                                          V.i IntKind.i64 (↑n1 : Int), V.i IntKind.i64 x34z5]
                                                        h)
                                                      (∃ (b_3 : Bool),
                                                        (PCon Try.Y (23 : Nat)
                                                            [V.agg
                                                                [V.b b, V.b b_1, V.b b_2, V.i IntKind.i64 n,
                                                                  V.i IntKind.i64 n_1, V.s s, V.ts cs l c, V.s s_1,
                                                                  V.ts cs_1 l_1 c_1, V.s s_2, V.s s_3],
                                                              V.agg
                                                                [V.i IntKind.i64 x0,
                                                                  V.ts cs5_1 n5_1 (some 1)]]
                                                            fun (v : V) => v = V.b b_3) ∧
                                                          If (!b_3)
                                                            (K Out.ret 102
                                                              [V.i IntKind.i64 x0, V.b false,
                                                                V.lb
                                                                  [V.i IntKind.i64 x0,
                                                                    V.ts cs5_1 n5_1 (some 1)],
                                                                V.lb
                                                                  [V.b b, V.b b_1, V.b b_2, V.i IntKind.i64 n,
                                                                    V.i IntKind.i64 n_1, V.s s, V.ts cs l c, V.s s_1,
                                                                    V.ts cs_1 l_1 c_1, V.s s_2, V.s s_3],
                                                                V.s s7z2, v13z2, V.ts cs1 n1 none,
                                                                V.i IntKind.i64 (↑n1 : Int), V.i IntKind.i64 x34z5]
                                                              h)
                                                            (∃ (b_4 : Bool),
                                                              (PCon Try.Y (24 : Nat)
                                                                  [V.agg
                                                                      [V.b b, V.b b_1, V.b b_2, V.i IntKind.i64 n,
                                                                        V.i IntKind.i64 n_1, V.s s, V.ts cs l c,
                                                                        V.s s_1, V.ts cs_1 l_1 c_1, V.s s_2, V.s s_3],
                                                                    V.agg
                                                                      [V.i IntKind.i64 x0,
                                                                        V.ts cs5_1 n5_1 (some 1)]]
                                                                  fun (v : V) => v = V.b b_4) ∧
                                                                If (!b_4)
                                                                  (K Out.ret 102
                                                                    [V.i IntKind.i64 x0, V.b false,
                                                                      V.lb
                                                                        [V.i IntKind.i64 x0,
                                                                          V.ts cs5_1 n5_1 (some 1)],
                                                                      V.lb
                                                                        [V.b b, V.b b_1, V.b b_2, V.i IntKind.i64 n,
                                                                          V.i IntKind.i64 n_1, V.s s, V.ts cs l c,
                                                                          V.s s_1, V.ts cs_1 l_1 c_1, V.s s_2, V.s s_3],
                                                                      V.s s7z2, v13z2, V.ts cs1 n1 none,
                                                                      V.i IntKind.i64 (↑n1 : Int),
                                                                      V.i IntKind.i64 x34z5]
                                                                    h)
                                                                  (K Out.normal 102
                                                                    [V.i IntKind.i64 x0, V.undef,
                                                                      V.lb
                                                                        [V.i IntKind.i64 x0,
                                                                          V.ts cs5_1 n5_1 (some 1)],
                                                                      V.lb
                                                                        [V.b b, V.b b_1, V.b b_2, V.i IntKind.i64 n,
                                                                          V.i IntKind.i64 n_1, V.s s, V.ts cs l c,
                                                                          V.s s_1, V.ts cs_1 l_1 c_1, V.s s_2, V.s s_3],
                                                                      V.s s7z2, v13z2, V.ts cs1 n1 none,
                                                                      V.i IntKind.i64 (↑n1 : Int),
                                                                      V.i IntKind.i64
                                                                        (IntKind.i64.wrap (x34z5 + (1 : Int)))]
                                                                    h))))
                                                  (s6_9z5.length + s6_7z5.length ≤ 1152921504606846976 ∧
                                                    If (!s6_9z5 ++ s6_7z5 == s7z2)
                                                      (K Out.ret 102
                                                        [V.i IntKind.i64 x0, V.b false,
                                                          V.lb [V.i IntKind.i64 x0, V.ts cs5_1 n5_1 (some 1)],
                                                          V.lb
                                                            [V.b b6_0z6, V.b b6_1z6, V.b b6_2z6, V.i IntKind.i64 x6_3z5,
                                                              V.i IntKind.i64 x6_4z5, V.s s6_5z5,
                                                              V.ts cs6_6z5 n6_6z5 c6_6z3, V.s s6_7z5,
                                                              V.ts cs6_8z5 n6_8z5 c6_8z3, V.s s6_9z5, V.s s6_10z5],
                                                          V.s s7z2, v13z2, V.ts cs1 n1 none,
                                                          V.i IntKind.i64 (↑n1 : Int), V.i IntKind.i64 x34z5]
                                                        h)
                                                      (∃ (b : Bool),
                                                        (PCon Try.Y (23 : Nat)
                                                            [V.agg
                                                                [V.b b6_0z6, V.b b6_1z6, V.b b6_2z6,
                                                                  V.i IntKind.i64 x6_3z5, V.i IntKind.i64 x6_4z5,
                                                                  V.s s6_5z5, V.ts cs6_6z5 n6_6z5 c6_6z3, V.s s6_7z5,
                                                                  V.ts cs6_8z5 n6_8z5 c6_8z3, V.s s6_9z5, V.s s6_10z5],
                                                              V.agg
                                                                [V.i IntKind.i64 x0,
                                                                  V.ts cs5_1 n5_1 (some 1)]]
                                                            fun (v : V) => v = V.b b) ∧
                                                          If (!b)
                                                            (K Out.ret 102
                                                              [V.i IntKind.i64 x0, V.b false,
                                                                V.lb
                                                                  [V.i IntKind.i64 x0,
                                                                    V.ts cs5_1 n5_1 (some 1)],
                                                                V.lb
                                                                  [V.b b6_0z6, V.b b6_1z6, V.b b6_2z6,
                                                                    V.i IntKind.i64 x6_3z5, V.i IntKind.i64 x6_4z5,
                                                                    V.s s6_5z5, V.ts cs6_6z5 n6_6z5 c6_6z3, V.s s6_7z5,
                                                                    V.ts cs6_8z5 n6_8z5 c6_8z3, V.s s6_9z5,
                                                                    V.s s6_10z5],
                                                                V.s s7z2, v13z2, V.ts cs1 n1 none,
                                                                V.i IntKind.i64 (↑n1 : Int), V.i IntKind.i64 x34z5]
                                                              h)
                                                            (∃ (b : Bool),
                                                              (PCon Try.Y (24 : Nat)
                                                                  [V.agg
                                                                      [V.b b6_0z6, V.b b6_1z6, V.b b6_2z6,
                                                                        V.i IntKind.i64 x6_3z5, V.i IntKind.i64 x6_4z5,
                                                                        V.s s6_5z5, V.ts cs6_6z5 n6_6z5 c6_6z3,
                                                                        V.s s6_7z5, V.ts cs6_8z5 n6_8z5 c6_8z3,
                                                                        V.s s6_9z5, V.s s6_10z5],
                                                                    V.agg
                                                                      [V.i IntKind.i64 x0,
                                                                        V.ts cs5_1 n5_1 (some 1)]]
                                                                  fun (v : V) => v = V.b b) ∧
                                                                If (!b)
                                                                  (K Out.ret 102
                                                                    [V.i IntKind.i64 x0, V.b false,
                                                                      V.lb
                                                                        [V.i IntKind.i64 x0,
                                                                          V.ts cs5_1 n5_1 (some 1)],
                                                                      V.lb
                                                                        [V.b b6_0z6, V.b b6_1z6, V.b b6_2z6,
                                                                          V.i IntKind.i64 x6_3z5,
                                                                          V.i IntKind.i64 x6_4z5, V.s s6_5z5,
                                                                          V.ts cs6_6z5 n6_6z5 c6_6z3, V.s s6_7z5,
                                                                          V.ts cs6_8z5 n6_8z5 c6_8z3, V.s s6_9z5,
                                                                          V.s s6_10z5],
                                                                      V.s s7z2, v13z2, V.ts cs1 n1 none,
                                                                      V.i IntKind.i64 (↑n1 : Int),
                                                                      V.i IntKind.i64 x34z5]
                                                                    h)
                                                                  (K Out.normal 102
                                                                    [V.i IntKind.i64 x0, V.undef,
                                                                      V.lb
                                                                        [V.i IntKind.i64 x0,
                                                                          V.ts cs5_1 n5_1 (some 1)],
                                                                      V.lb
                                                                        [V.b b6_0z6, V.b b6_1z6, V.b b6_2z6,
                                                                          V.i IntKind.i64 x6_3z5,
                                                                          V.i IntKind.i64 x6_4z5, V.s s6_5z5,
                                                                          V.ts cs6_6z5 n6_6z5 c6_6z3, V.s s6_7z5,
                                                                          V.ts cs6_8z5 n6_8z5 c6_8z3, V.s s6_9z5,
                                                                          V.s s6_10z5],
                                                                      V.s s7z2, v13z2, V.ts cs1 n1 none,
                                                                      V.i IntKind.i64 (↑n1 : Int),
                                                                      V.i IntKind.i64
                                                                        (IntKind.i64.wrap (x34z5 + (1 : Int)))]
                                                                    h)))))
              (∃ (b : Bool),
                ∃ (b_1 : Bool),
                  ∃ (b_2 : Bool),
                    ∃ (n : Int),
                      ∃ (n_1 : Int),
                        ∃ (s_1 : List UInt8),
                          ∃ (cs : List V),
                            ∃ (l : Nat),
                              ∃ (c : Option Nat),
                                ∃ (s_2 : List UInt8),
                                  ∃ (cs_1 : List V),
                                    ∃ (l_1 : Nat),
                                      ∃ (c_1 : Option Nat),
                                        ∃ (s_3 : List UInt8),
                                          ∃ (s_4 : List UInt8),
                                            ∃ (b_3 : Bool),
                                              (PCon Try.Y (22 : Nat)
                                                  [V.agg
                                                      [V.b b6_0z6, V.b b6_1z6, V.b b6_2z6, V.i IntKind.i64 x6_3z5,
                                                        V.i IntKind.i64 x6_4z5, V.s s6_5z5, V.ts cs6_6z5 n6_6z5 c6_6z3,
                                                        V.s s6_7z5, V.ts cs6_8z5 n6_8z5 c6_8z3, V.s s6_9z5,
                                                        V.s s6_10z5],
                                                    V.agg [V.i IntKind.i64 x0, V.ts cs5_1 n5_1 (some 1)],
                                                    V.s s]
                                                  fun (v : V) =>
                                                  v =
                                                    V.tup
                                                      [V.agg
                                                          [V.b b, V.b b_1, V.b b_2, V.i IntKind.i64 n,
                                                            V.i IntKind.i64 n_1, V.s s_1, V.ts cs l c, V.s s_2,
                                                            V.ts cs_1 l_1 c_1, V.s s_3, V.s s_4],
                                                        V.b b_3]) ∧
                                                If b_3
                                                  (s7z2.length + s.length ≤ 1152921504606846976 ∧
                                                    If
                                                      (!b_3 ==
                                                          leI (↑s.length : Int)
                                                            (IntKind.i64.wrap
                                                              (IntKind.i64.wrap (x0 - (↑s6_7z5.length : Int)) -
                                                                (↑s6_9z5.length : Int))))
                                                      (K Out.ret 102
                                                        [V.i IntKind.i64 x0, V.b false,
                                                          V.lb [V.i IntKind.i64 x0, V.ts cs5_1 n5_1 (some 1)],
                                                          V.lb
                                                            [V.b b6_0z6, V.b b6_1z6, V.b b6_2z6, V.i IntKind.i64 x6_3z5,
                                                              V.i IntKind.i64 x6_4z5, V.s s6_5z5,
                                                              V.ts cs6_6z5 n6_6z5 c6_6z3, V.s s6_7z5,
                                                              V.ts cs6_8z5 n6_8z5 c6_8z3, V.s s6_9z5, V.s s6_10z5],
                                                          V.s (s7z2 ++ s), V.b b_3, V.ts cs1 n1 none,
                                                          V.i IntKind.i64 (↑n1 : Int), V.i IntKind.i64 x34z5]
                                                        h)
                                                      (s_3.length + s_2.length ≤ 1152921504606846976 ∧
                                                        If (!s_3 ++ s_2 == s7z2 ++ s)
                                                          (K Out.ret 102
                                                            [V.i IntKind.i64 x0, V.b false,
                                                              V.lb
                                                                [V.i IntKind.i64 x0,
                                                                  V.ts cs5_1 n5_1 (some 1)],
                                                              V.lb
                                                                [V.b b, V.b b_1, V.b b_2, V.i IntKind.i64 n,
                                                                  V.i IntKind.i64 n_1, V.s s_1, V.ts cs l c, V.s s_2,
                                                                  V.ts cs_1 l_1 c_1, V.s s_3, V.s s_4],
                                                              V.s (s7z2 ++ s), V.b b_3, V.ts cs1 n1 none,
                                                              V.i IntKind.i64 (↑n1 : Int), V.i IntKind.i64 x34z5]
                                                            h)
                                                          (∃ (b_4 : Bool),
                                                            (PCon Try.Y (23 : Nat)
                                                                [V.agg
                                                                    [V.b b, V.b b_1, V.b b_2, V.i IntKind.i64 n,
                                                                      V.i IntKind.i64 n_1, V.s s_1, V.ts cs l c,
                                                                      V.s s_2, V.ts cs_1 l_1 c_1, V.s s_3, V.s s_4],
                                                                  V.agg
                                                                    [V.i IntKind.i64 x0,
                                                                      V.ts cs5_1 n5_1 (some 1)]]
                                                                fun (v : V) => v = V.b b_4) ∧
                                                              If (!b_4)
                                                                (K Out.ret 102
                                                                  [V.i IntKind.i64 x0, V.b false,
                                                                    V.lb
                                                                      [V.i IntKind.i64 x0,
                                                                        V.ts cs5_1 n5_1 (some 1)],
                                                                    V.lb
                                                                      [V.b b, V.b b_1, V.b b_2, V.i IntKind.i64 n,
                                                                        V.i IntKind.i64 n_1, V.s s_1, V.ts cs l c,
                                                                        V.s s_2, V.ts cs_1 l_1 c_1, V.s s_3, V.s s_4],
                                                                    V.s (s7z2 ++ s), V.b b_3, V.ts cs1 n1 none,
                                                                    V.i IntKind.i64 (↑n1 : Int), V.i IntKind.i64 x34z5]
                                                                  h)
                                                                (∃ (b_5 : Bool),
                                                                  (PCon Try.Y (24 : Nat)
                                                                      [V.agg
                                                                          [V.b b, V.b b_1, V.b b_2, V.i IntKind.i64 n,
                                                                            V.i IntKind.i64 n_1, V.s s_1, V.ts cs l c,
                                                                            V.s s_2, V.ts cs_1 l_1 c_1, V.s s_3,
                                                                            V.s s_4],
                                                                        V.agg
                                                                          [V.i IntKind.i64 x0,
                                                                            V.ts cs5_1 n5_1 (some 1)]]
                                                                      fun (v : V) => v = V.b b_5) ∧
                                                                    If (!b_5)
                                                                      (K Out.ret 102
                                                                        [V.i IntKind.i64 x0, V.b false,
                                                                          V.lb
                                                                            [V.i IntKind.i64 x0,
                                                                              V.ts cs5_1 n5_1 (some 1)],
                                                                          V.lb
                                                                            [V.b b, V.b b_1, V.b b_2, V.i IntKind.i64 n,
                                                                              V.i IntKind.i64 n_1, V.s s_1, V.ts cs l c,
                                                                              V.s s_2, V.ts cs_1 l_1 c_1, V.s s_3,
                                                                              V.s s_4],
                                                                          V.s (s7z2 ++ s), V.b b_3, V.ts cs1 n1 none,
                                                                          V.i IntKind.i64 (↑n1 : Int),
                                                                          V.i IntKind.i64 x34z5]
                                                                        h)
                                                                      (K Out.normal 102
                                                                        [V.i IntKind.i64 x0, V.undef,
                                                                          V.lb
                                                                            [V.i IntKind.i64 x0,
                                                                              V.ts cs5_1 n5_1 (some 1)],
                                                                          V.lb
                                                                            [V.b b, V.b b_1, V.b b_2, V.i IntKind.i64 n,
                                                                              V.i IntKind.i64 n_1, V.s s_1, V.ts cs l c,
                                                                              V.s s_2, V.ts cs_1 l_1 c_1, V.s s_3,
                                                                              V.s s_4],
                                                                          V.s (s7z2 ++ s), V.b b_3, V.ts cs1 n1 none,
                                                                          V.i IntKind.i64 (↑n1 : Int),
                                                                          V.i IntKind.i64
                                                                            (IntKind.i64.wrap (x34z5 + (1 : Int)))]
                                                                        h)))))
                                                  (If
                                                    (!b_3 ==
                                                        leI (↑s.length : Int)
                                                          (IntKind.i64.wrap
                                                            (IntKind.i64.wrap (x0 - (↑s6_7z5.length : Int)) -
                                                              (↑s6_9z5.length : Int))))
                                                    (K Out.ret 102
                                                      [V.i IntKind.i64 x0, V.b false,
                                                        V.lb [V.i IntKind.i64 x0, V.ts cs5_1 n5_1 (some 1)],
                                                        V.lb
                                                          [V.b b6_0z6, V.b b6_1z6, V.b b6_2z6, V.i IntKind.i64 x6_3z5,
                                                            V.i IntKind.i64 x6_4z5, V.s s6_5z5,
                                                            V.ts cs6_6z5 n6_6z5 c6_6z3, V.s s6_7z5,
                                                            V.ts cs6_8z5 n6_8z5 c6_8z3, V.s s6_9z5, V.s s6_10z5],
                                                        V.s s7z2, V.b b_3, V.ts cs1 n1 none,
                                                        V.i IntKind.i64 (↑n1 : Int), V.i IntKind.i64 x34z5]
                                                      h)
                                                    (s_3.length + s_2.length ≤ 1152921504606846976 ∧
                                                      If (!s_3 ++ s_2 == s7z2)
                                                        (K Out.ret 102
                                                          [V.i IntKind.i64 x0, V.b false,
                                                            V.lb
                                                              [V.i IntKind.i64 x0, V.ts cs5_1 n5_1 (some 1)],
                                                            V.lb
                                                              [V.b b, V.b b_1, V.b b_2, V.i IntKind.i64 n,
                                                                V.i IntKind.i64 n_1, V.s s_1, V.ts cs l c, V.s s_2,
                                                                V.ts cs_1 l_1 c_1, V.s s_3, V.s s_4],
                                                            V.s s7z2, V.b b_3, V.ts cs1 n1 none,
                                                            V.i IntKind.i64 (↑n1 : Int), V.i IntKind.i64 x34z5]
                                                          h)
                                                        (∃ (b_4 : Bool),
                                                          (PCon Try.Y (23 : Nat)
                                                              [V.agg
                                                                  [V.b b, V.b b_1, V.b b_2, V.i IntKind.i64 n,
                                                                    V.i IntKind.i64 n_1, V.s s_1, V.ts cs l c, V.s s_2,
                                                                    V.ts cs_1 l_1 c_1, V.s s_3, V.s s_4],
                                                                V.agg
                                                                  [V.i IntKind.i64 x0,
                                                                    V.ts cs5_1 n5_1 (some 1)]]
                                                              fun (v : V) => v = V.b b_4) ∧
                                                            If (!b_4)
                                                              (K Out.ret 102
                                                                [V.i IntKind.i64 x0, V.b false,
                                                                  V.lb
                                                                    [V.i IntKind.i64 x0,
                                                                      V.ts cs5_1 n5_1 (some 1)],
                                                                  V.lb
                                                                    [V.b b, V.b b_1, V.b b_2, V.i IntKind.i64 n,
                                                                      V.i IntKind.i64 n_1, V.s s_1, V.ts cs l c,
                                                                      V.s s_2, V.ts cs_1 l_1 c_1, V.s s_3, V.s s_4],
                                                                  V.s s7z2, V.b b_3, V.ts cs1 n1 none,
                                                                  V.i IntKind.i64 (↑n1 : Int), V.i IntKind.i64 x34z5]
                                                                h)
                                                              (∃ (b_5 : Bool),
                                                                (PCon Try.Y (24 : Nat)
                                                                    [V.agg
                                                                        [V.b b, V.b b_1, V.b b_2, V.i IntKind.i64 n,
                                                                          V.i IntKind.i64 n_1, V.s s_1, V.ts cs l c,
                                                                          V.s s_2, V.ts cs_1 l_1 c_1, V.s s_3, V.s s_4],
                                                                      V.agg
                                                                        [V.i IntKind.i64 x0,
                                                                          V.ts cs5_1 n5_1 (some 1)]]
                                                                    fun (v : V) => v = V.b b_5) ∧
                                                                  If (!b_5)
                                                                    (K Out.ret 102
                                                                      [V.i IntKind.i64 x0, V.b false,
                                                                        V.lb
                                                                          [V.i IntKind.i64 x0,
                                                                            V.ts cs5_1 n5_1 (some 1)],
                                                                        V.lb
                                                                          [V.b b, V.b b_1, V.b b_2, V.i IntKind.i64 n,
                                                                            V.i IntKind.i64 n_1, V.s s_1, V.ts cs l c,
                                                                            V.s s_2, V.ts cs_1 l_1 c_1, V.s s_3,
                                                                            V.s s_4],
                                                                        V.s s7z2, V.b b_3, V.ts cs1 n1 none,
                                                                        V.i IntKind.i64 (↑n1 : Int),
                                                                        V.i IntKind.i64 x34z5]
                                                                      h)
                                                                    (K Out.normal 102
                                                                      [V.i IntKind.i64 x0, V.undef,
                                                                        V.lb
                                                                          [V.i IntKind.i64 x0,
                                                                            V.ts cs5_1 n5_1 (some 1)],
                                                                        V.lb
                                                                          [V.b b, V.b b_1, V.b b_2, V.i IntKind.i64 n,
                                                                            V.i IntKind.i64 n_1, V.s s_1, V.ts cs l c,
                                                                            V.s s_2, V.ts cs_1 l_1 c_1, V.s s_3,
                                                                            V.s s_4],
                                                                        V.s s7z2, V.b b_3, V.ts cs1 n1 none,
                                                                        V.i IntKind.i64 (↑n1 : Int),
                                                                        V.i IntKind.i64
                                                                          (IntKind.i64.wrap (x34z5 + (1 : Int)))]
                                                                      h)))))))))
  (K (Out.exit 0) 102
    [V.i IntKind.i64 x0, V.undef, V.lb [V.i IntKind.i64 x0, V.ts cs5_1 n5_1 (some 1)],
      V.lb
        [V.b b6_0z6, V.b b6_1z6, V.b b6_2z6, V.i IntKind.i64 x6_3z5, V.i IntKind.i64 x6_4z5, V.s s6_5z5,
          V.ts cs6_6z5 n6_6z5 c6_6z3, V.s s6_7z5, V.ts cs6_8z5 n6_8z5 c6_8z3, V.s s6_9z5, V.s s6_10z5],
      V.s s7z2, v13z2, V.ts cs1 n1 none, V.i IntKind.i64 (↑n1 : Int), V.i IntKind.i64 x34z5]
    h)) := by kernel_rfl
theorem f5_2  (h : Heap) (K : Out → Nat → List V → Heap → Prop) : (codeP Try.Y (Try.Y.loc 5) 100 (((post (flat (bodyOf Try.f5))).drop 1)) ⟨mk 102 (([] : List Nat).zip []), [], h⟩ (VQ [4] K)) =
  (K Out.ret 102 [V.b true] h) := by kernel_rfl
end Go.Y
