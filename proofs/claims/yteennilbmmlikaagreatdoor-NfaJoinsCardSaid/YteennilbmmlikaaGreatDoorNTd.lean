/- What the pieces of functions come to: printed by program. -/
import Derived.Test.YteennilbmmlikaaGreatDoorYTryzP
import Derived.Test.YteennilbmmlikaaGreatDoorYLoop
namespace Go.Y
open Go.Proofs
set_option maxRecDepth 100000
set_option maxHeartbeats 0
theorem f32_0 (id : Nat) (k : Int) (s0 : Int) (s1 : Int) (s2 : Int) (s3 : Int) (kc : List V) (kn : Nat) (lo : Int) (hi : Int) (gn : Int) (h : Heap) (K : KT) : (codeP Tryz.Y (Tryz.Y.loc 32) 100 (pre (flat (bodyOf Tryz.f32))) ⟨(V.p (some (id, 0)) :: V.agg [V.i .i64 k, V.i .u64 s0, V.i .u64 s1, V.i .u64 s2, V.i .u64 s3, V.ts kc kn none, V.i .i64 lo, V.i .i64 hi, V.i .i64 gn] :: List.replicate 103 .undef), [], h⟩ (VQ [0, 3, 4, 5, 12, 14] K)) =
  (K Out.normal 105
  [V.p (some (id, 0)),
 V.lb
 [V.i IntKind.i64 k, V.i IntKind.u64 s0, V.i IntKind.u64 s1, V.i IntKind.u64 s2, V.i IntKind.u64 s3,
 V.ts kc kn none, V.i IntKind.i64 lo, V.i IntKind.i64 hi, V.i IntKind.i64 gn],
 V.lb
 [V.sl none 0 (some 0) 0, V.sl none 0 (some 0) 0,
 V.b false],
 V.lb
 [V.sl none 0 (some 0) 0, V.sl none 0 (some 0) 0,
 V.b true],
 V.agg
 [V.sl none 0 (some 0) 0, V.sl none 0 (some 0) 0,
 V.b true],
 V.i IntKind.i64 k]
  h) := by kernel_rfl
theorem f32_1 (id : Nat) (k : Int) (s0 : Int) (s1 : Int) (s2 : Int) (s3 : Int) (kc : List V) (kn : Nat) (lo : Int) (hi : Int) (gn : Int) (h : Heap) (K : KT) : (codeP Tryz.Y (Tryz.Y.loc 32) 100 (pre (flat (blockB (post (flat (bodyOf Tryz.f32)))))) ⟨mk 105 (([0, 3, 4, 5, 12, 14] : List Nat).zip [V.p (some (id, 0)), V.lb [V.i IntKind.i64 k, V.i IntKind.u64 s0, V.i IntKind.u64 s1, V.i IntKind.u64 s2, V.i IntKind.u64 s3, V.ts kc kn none, V.i IntKind.i64 lo, V.i IntKind.i64 hi, V.i IntKind.i64 gn], V.lb [V.sl none 0 (some 0) 0, V.sl none 0 (some 0) 0, V.b false], V.lb [V.sl none 0 (some 0) 0, V.sl none 0 (some 0) 0, V.b true], V.agg [V.sl none 0 (some 0) 0, V.sl none 0 (some 0) 0, V.b true], V.i IntKind.i64 k]), [], h⟩ (VQ [0, 3, 4, 5, 12, 14, 15] K)) =
  (K Out.normal 105
  [V.p (some (id, 0)),
 V.lb
 [V.i IntKind.i64 k, V.i IntKind.u64 s0, V.i IntKind.u64 s1, V.i IntKind.u64 s2, V.i IntKind.u64 s3,
 V.ts kc kn none, V.i IntKind.i64 lo, V.i IntKind.i64 hi, V.i IntKind.i64 gn],
 V.lb
 [V.sl none 0 (some 0) 0, V.sl none 0 (some 0) 0,
 V.b false],
 V.lb
 [V.sl none 0 (some 0) 0, V.sl none 0 (some 0) 0,
 V.b true],
 V.agg
 [V.sl none 0 (some 0) 0, V.sl none 0 (some 0) 0,
 V.b true],
 V.i IntKind.i64 k, V.b (k == (1 : Int))]
  h) := by kernel_rfl
theorem f32_2 (id : Nat) (k : Int) (s0 : Int) (s1 : Int) (s2 : Int) (s3 : Int) (kc : List V) (kn : Nat) (lo : Int) (hi : Int) (gn : Int) (h : Heap) (K : KT) : (codeP Tryz.Y (Tryz.Y.loc 32) 100 ((flat (condT (post (flat (blockB (post (flat (bodyOf Tryz.f32))))))))) ⟨mk 105 (([0, 3, 4, 5, 12, 14, 15] : List Nat).zip [V.p (some (id, 0)), V.lb [V.i IntKind.i64 k, V.i IntKind.u64 s0, V.i IntKind.u64 s1, V.i IntKind.u64 s2, V.i IntKind.u64 s3, V.ts kc kn none, V.i IntKind.i64 lo, V.i IntKind.i64 hi, V.i IntKind.i64 gn], V.lb [V.sl none 0 (some 0) 0, V.sl none 0 (some 0) 0, V.b false], V.lb [V.sl none 0 (some 0) 0, V.sl none 0 (some 0) 0, V.b true], V.agg [V.sl none 0 (some 0) 0, V.sl none 0 (some 0) 0, V.b true], V.i IntKind.i64 k, V.b true]), [], h⟩ (VQ [4, 5] K)) =
  (∃ (a : Option (Nat × Nat)),
  ∃ (l : Nat),
 ∃ (c : Option Nat),
 ∃ (k : Nat),
 hcells h id 0 1 = some [V.sl a l c k] ∧
 ∃ (a : Option (Nat × Nat)),
 ∃ (l_1 : Nat),
 ∃ (c : Option Nat),
 ∃ (k : Nat),
 hcells h id 0 1 = some [V.sl a l_1 c k] ∧
 ∃ (a_1 : Option (Nat × Nat)),
 ∃ (l_2 : Nat),
 ∃ (c_1 : Option Nat),
 ∃ (k_1 : Nat),
 ∃ (h_1 : Heap),
 appendH Tryz.Y h 31 31 (V.sl a l_1 c k)
 (V.ts
 [V.i IntKind.u64 s0, V.i IntKind.u64 s1, V.i IntKind.u64 s2, V.i IntKind.u64 s3]
 1 (some 1)) =
 some (V.sl a_1 l_2 c_1 k_1, h_1) ∧
 ∃ (h : Heap),
 hstore h_1 id 0 [V.sl a_1 l_2 c_1 k_1] = some h ∧
 ∃ (a : Option (Nat × Nat)),
 ∃ (l_3 : Nat),
 ∃ (c : Option Nat),
 ∃ (k : Nat),
 hcells h id 3 1 = some [V.sl a l_3 c k] ∧
 ∃ (a_2 : Option (Nat × Nat)),
 ∃ (l_4 : Nat),
 ∃ (c_2 : Option Nat),
 ∃ (k_2 : Nat),
 ∃ (h_2 : Heap),
 appendH Tryz.Y h 33 33 (V.sl a l_3 c k)
 (V.ts
 [V.sl none 0 (some 0) 0]
 1 (some 1)) =
 some (V.sl a_2 l_4 c_2 k_2, h_2) ∧
 ∃ (h : Heap),
 hstore h_2 id 3 [V.sl a_2 l_4 c_2 k_2] = some h ∧
 K Out.ret 105
 [V.lb
 [V.ts [V.i IntKind.i64 (↑l : Int)] 1
 (some 1),
 V.ts [V.i IntKind.i64 (↑l : Int)] 1
 (some 1),
 V.b false],
 V.lb
 [V.sl none 0 (some 0)
 0,
 V.sl none 0 (some 0)
 0,
 V.b true]]
 h) := by kernel_rfl
theorem f32_3 (id : Nat) (k : Int) (s0 : Int) (s1 : Int) (s2 : Int) (s3 : Int) (kc : List V) (kn : Nat) (lo : Int) (hi : Int) (gn : Int) (h : Heap) (K : KT) : (codeP Tryz.Y (Tryz.Y.loc 32) 100 (pre (flat (condF (post (flat (blockB (post (flat (bodyOf Tryz.f32))))))))) ⟨mk 105 (([0, 3, 4, 5, 12, 14, 15] : List Nat).zip [V.p (some (id, 0)), V.lb [V.i IntKind.i64 k, V.i IntKind.u64 s0, V.i IntKind.u64 s1, V.i IntKind.u64 s2, V.i IntKind.u64 s3, V.ts kc kn none, V.i IntKind.i64 lo, V.i IntKind.i64 hi, V.i IntKind.i64 gn], V.lb [V.sl none 0 (some 0) 0, V.sl none 0 (some 0) 0, V.b false], V.lb [V.sl none 0 (some 0) 0, V.sl none 0 (some 0) 0, V.b true], V.agg [V.sl none 0 (some 0) 0, V.sl none 0 (some 0) 0, V.b true], V.i IntKind.i64 k, V.b false]), [], h⟩ (VQ [0, 3, 4, 5, 12, 14, 51] K)) =
  (K Out.normal 105
  [V.p (some (id, 0)),
 V.lb
 [V.i IntKind.i64 k, V.i IntKind.u64 s0, V.i IntKind.u64 s1, V.i IntKind.u64 s2, V.i IntKind.u64 s3,
 V.ts kc kn none, V.i IntKind.i64 lo, V.i IntKind.i64 hi, V.i IntKind.i64 gn],
 V.lb
 [V.sl none 0 (some 0) 0, V.sl none 0 (some 0) 0,
 V.b false],
 V.lb
 [V.sl none 0 (some 0) 0, V.sl none 0 (some 0) 0,
 V.b true],
 V.agg
 [V.sl none 0 (some 0) 0, V.sl none 0 (some 0) 0,
 V.b true],
 V.i IntKind.i64 k, V.b (k == (5 : Int))]
  h) := by kernel_rfl
theorem f32_4 (id : Nat) (k : Int) (s0 : Int) (s1 : Int) (s2 : Int) (s3 : Int) (kc : List V) (kn : Nat) (lo : Int) (hi : Int) (gn : Int) (h : Heap) (K : KT) : (codeP Tryz.Y (Tryz.Y.loc 32) 100 (pre (flat (condT (post (flat (condF (post (flat (blockB (post (flat (bodyOf Tryz.f32)))))))))))) ⟨mk 105 (([0, 3, 4, 5, 12, 14, 51] : List Nat).zip [V.p (some (id, 0)), V.lb [V.i IntKind.i64 k, V.i IntKind.u64 s0, V.i IntKind.u64 s1, V.i IntKind.u64 s2, V.i IntKind.u64 s3, V.ts kc kn none, V.i IntKind.i64 lo, V.i IntKind.i64 hi, V.i IntKind.i64 gn], V.lb [V.sl none 0 (some 0) 0, V.sl none 0 (some 0) 0, V.b false], V.lb [V.sl none 0 (some 0) 0, V.sl none 0 (some 0) 0, V.b true], V.agg [V.sl none 0 (some 0) 0, V.sl none 0 (some 0) 0, V.b true], V.i IntKind.i64 k, V.b true]), [], h⟩ (VQ [0, 4, 5, 12, 55, 56, 57] K)) =
  (K Out.normal 105
  [V.p (some (id, 0)),
 V.lb
 [V.sl none 0 (some 0) 0, V.sl none 0 (some 0) 0,
 V.b false],
 V.lb
 [V.sl none 0 (some 0) 0, V.sl none 0 (some 0) 0,
 V.b false],
 V.agg
 [V.sl none 0 (some 0) 0, V.sl none 0 (some 0) 0,
 V.b true],
 V.ts kc kn none, V.i IntKind.i64 (↑kn : Int), V.i IntKind.i64 (0 : Int)]
  h) := by kernel_rfl
theorem f32_5 (id : Nat) (kc : List V) (kn : Nat) (cs5_0 : List V) (n5_0 : Nat) (cs5_1 : List V) (n5_1 : Nat) (b5_2 : Bool) (x57 : Int) (h : Heap) (K : KT) : (codeP Tryz.Y (Tryz.Y.loc 32) 100 ((flat (loopB (post (flat (condT (post (flat (condF (post (flat (blockB (post (flat (bodyOf Tryz.f32))))))))))))))) ⟨mk 105 (([0, 4, 5, 12, 55, 56, 57] : List Nat).zip [V.p (some (id, 0)), V.lb [V.sl none 0 (some 0) 0, V.sl none 0 (some 0) 0, V.b false], V.lb [V.ts cs5_0 n5_0 none, V.ts cs5_1 n5_1 none, V.b b5_2], V.agg [V.sl none 0 (some 0) 0, V.sl none 0 (some 0) 0, V.b true], V.ts kc kn none, V.i IntKind.i64 (↑kn : Int), V.i IntKind.i64 x57]), [], h⟩ (VQ [0, 4, 5, 12, 55, 56, 57] K)) =
  (If (ltI x57 (↑kn : Int))
  (((0 : Int) ≤ x57 ∧ x57 < (↑kn : Int)) ∧
 ∃ (n : Int),
 ∃ (n_1 : Int),
 ∃ (n_2 : Int),
 ∃ (n_3 : Int),
 ∃ (n_4 : Int),
 ∃ (cs : List V),
 ∃ (l : Nat),
 ∃ (c : Option Nat),
 ∃ (n_5 : Int),
 ∃ (n_6 : Int),
 ∃ (n_7 : Int),
 takeX 9 (List.drop (x57.toNat * (9 : Nat)) kc) =
 some
 [V.i IntKind.i64 n, V.i IntKind.u64 n_1, V.i IntKind.u64 n_2, V.i IntKind.u64 n_3,
 V.i IntKind.u64 n_4, V.ts cs l c, V.i IntKind.i64 n_5, V.i IntKind.i64 n_6,
 V.i IntKind.i64 n_7] ∧
 Con Tryz.Y (32 : Nat)
 [V.p (some (id, 0)),
 V.agg
 [V.i IntKind.i64 n, V.i IntKind.u64 n_1, V.i IntKind.u64 n_2, V.i IntKind.u64 n_3,
 V.i IntKind.u64 n_4, V.ts cs l c, V.i IntKind.i64 n_5, V.i IntKind.i64 n_6,
 V.i IntKind.i64 n_7]]
 h fun (v : V) (h' : Heap) =>
 ∃ (cs : List V),
 ∃ (l : Nat),
 ∃ (c : Option Nat),
 ∃ (cs_1 : List V),
 ∃ (l_1 : Nat),
 ∃ (c_1 : Option Nat),
 ∃ (b : Bool),
 v = V.agg [V.ts cs l c, V.ts cs_1 l_1 c_1, V.b b] ∧
 ∃ (cs_2 : List V),
 ∃ (l_2 : Nat),
 ∃ (c_2 : Option Nat),
 (PCon Tryz.Y (72 : Nat) [V.ts cs5_0 n5_0 none, V.ts cs l c]
 fun (v : V) => v = V.ts cs_2 l_2 c_2) ∧
 ∃ (cs : List V),
 ∃ (l : Nat),
 ∃ (c : Option Nat),
 (PCon Tryz.Y (72 : Nat)
 [V.ts cs5_1 n5_1 none, V.ts cs_1 l_1 c_1] fun (v : V) =>
 v = V.ts cs l c) ∧
 If b5_2
 (K Out.normal 105
 [V.p (some (id, 0)),
 V.lb
 [V.sl none 0 (some 0)
 0,
 V.sl none 0 (some 0)
 0,
 V.b false],
 V.lb [V.ts cs_2 l_2 c_2, V.ts cs l c, V.b true],
 V.agg
 [V.sl none 0 (some 0)
 0,
 V.sl none 0 (some 0)
 0,
 V.b true],
 V.ts kc kn none, V.i IntKind.i64 (↑kn : Int),
 V.i IntKind.i64
 (IntKind.i64.wrap (x57 + (1 : Int)))]
 h')
 (K Out.normal 105
 [V.p (some (id, 0)),
 V.lb
 [V.sl none 0 (some 0)
 0,
 V.sl none 0 (some 0)
 0,
 V.b false],
 V.lb [V.ts cs_2 l_2 c_2, V.ts cs l c, V.b b],
 V.agg
 [V.sl none 0 (some 0)
 0,
 V.sl none 0 (some 0)
 0,
 V.b true],
 V.ts kc kn none, V.i IntKind.i64 (↑kn : Int),
 V.i IntKind.i64
 (IntKind.i64.wrap (x57 + (1 : Int)))]
 h'))
  (K (Out.exit 1) 105
 [V.p (some (id, 0)),
 V.lb
 [V.sl none 0 (some 0) 0, V.sl none 0 (some 0) 0,
 V.b false],
 V.lb [V.ts cs5_0 n5_0 none, V.ts cs5_1 n5_1 none, V.b b5_2],
 V.agg
 [V.sl none 0 (some 0) 0, V.sl none 0 (some 0) 0,
 V.b true],
 V.ts kc kn none, V.i IntKind.i64 (↑kn : Int), V.i IntKind.i64 x57]
 h)) := by kernel_rfl
theorem f32_6 (id : Nat) (k : Int) (s0 : Int) (s1 : Int) (s2 : Int) (s3 : Int) (kc : List V) (kn : Nat) (lo : Int) (hi : Int) (gn : Int) (h : Heap) (K : KT) : (codeP Tryz.Y (Tryz.Y.loc 32) 100 (pre (flat (condF (post (flat (condF (post (flat (blockB (post (flat (bodyOf Tryz.f32)))))))))))) ⟨mk 105 (([0, 3, 4, 5, 12, 14, 51] : List Nat).zip [V.p (some (id, 0)), V.lb [V.i IntKind.i64 k, V.i IntKind.u64 s0, V.i IntKind.u64 s1, V.i IntKind.u64 s2, V.i IntKind.u64 s3, V.ts kc kn none, V.i IntKind.i64 lo, V.i IntKind.i64 hi, V.i IntKind.i64 gn], V.lb [V.sl none 0 (some 0) 0, V.sl none 0 (some 0) 0, V.b false], V.lb [V.sl none 0 (some 0) 0, V.sl none 0 (some 0) 0, V.b true], V.agg [V.sl none 0 (some 0) 0, V.sl none 0 (some 0) 0, V.b true], V.i IntKind.i64 k, V.b false]), [], h⟩ (VQ [0, 3, 4, 5, 14, 82] K)) =
  (If (k == (4 : Int))
  (K Out.normal 105
 [V.p (some (id, 0)),
 V.lb
 [V.i IntKind.i64 k, V.i IntKind.u64 s0, V.i IntKind.u64 s1, V.i IntKind.u64 s2, V.i IntKind.u64 s3,
 V.ts kc kn none, V.i IntKind.i64 lo, V.i IntKind.i64 hi, V.i IntKind.i64 gn],
 V.lb
 [V.sl none 0 (some 0) 0, V.sl none 0 (some 0) 0,
 V.b false],
 V.lb
 [V.sl none 0 (some 0) 0, V.sl none 0 (some 0) 0,
 V.b true],
 V.i IntKind.i64 k, V.b true]
 h)
  (K Out.normal 105
 [V.p (some (id, 0)),
 V.lb
 [V.i IntKind.i64 k, V.i IntKind.u64 s0, V.i IntKind.u64 s1, V.i IntKind.u64 s2, V.i IntKind.u64 s3,
 V.ts kc kn none, V.i IntKind.i64 lo, V.i IntKind.i64 hi, V.i IntKind.i64 gn],
 V.lb
 [V.sl none 0 (some 0) 0, V.sl none 0 (some 0) 0,
 V.b false],
 V.lb
 [V.sl none 0 (some 0) 0, V.sl none 0 (some 0) 0,
 V.b true],
 V.i IntKind.i64 k, V.b (k == (7 : Int))]
 h)) := by kernel_rfl
theorem f32_7 (id : Nat) (k : Int) (s0 : Int) (s1 : Int) (s2 : Int) (s3 : Int) (kc : List V) (kn : Nat) (lo : Int) (hi : Int) (gn : Int) (h : Heap) (K : KT) : (codeP Tryz.Y (Tryz.Y.loc 32) 100 (pre (flat (condT (post (flat (condF (post (flat (condF (post (flat (blockB (post (flat (bodyOf Tryz.f32))))))))))))))) ⟨mk 105 (([0, 3, 4, 5, 14, 82] : List Nat).zip [V.p (some (id, 0)), V.lb [V.i IntKind.i64 k, V.i IntKind.u64 s0, V.i IntKind.u64 s1, V.i IntKind.u64 s2, V.i IntKind.u64 s3, V.ts kc kn none, V.i IntKind.i64 lo, V.i IntKind.i64 hi, V.i IntKind.i64 gn], V.lb [V.sl none 0 (some 0) 0, V.sl none 0 (some 0) 0, V.b false], V.lb [V.sl none 0 (some 0) 0, V.sl none 0 (some 0) 0, V.b true], V.i IntKind.i64 k, V.b true]), [], h⟩ (VQ [0, 4, 5, 86, 87, 88] K)) =
  (K Out.normal 105
  [V.p (some (id, 0)),
 V.lb
 [V.sl none 0 (some 0) 0, V.sl none 0 (some 0) 0,
 V.b false],
 V.lb
 [V.sl none 0 (some 0) 0, V.sl none 0 (some 0) 0,
 V.b true],
 V.ts kc kn none, V.i IntKind.i64 (↑kn : Int), V.i IntKind.i64 (0 : Int)]
  h) := by kernel_rfl
theorem f32_8 (id : Nat) (kc : List V) (kn : Nat) (cs5_0z2 : List V) (n5_0z2 : Nat) (cs5_1z2 : List V) (n5_1z2 : Nat) (b5_2z2 : Bool) (x88 : Int) (h : Heap) (K : KT) : (codeP Tryz.Y (Tryz.Y.loc 32) 100 ((flat (loopB (post (flat (condT (post (flat (condF (post (flat (condF (post (flat (blockB (post (flat (bodyOf Tryz.f32)))))))))))))))))) ⟨mk 105 (([0, 4, 5, 86, 87, 88] : List Nat).zip [V.p (some (id, 0)), V.lb [V.sl none 0 (some 0) 0, V.sl none 0 (some 0) 0, V.b false], V.lb [V.ts cs5_0z2 n5_0z2 none, V.ts cs5_1z2 n5_1z2 none, V.b b5_2z2], V.ts kc kn none, V.i IntKind.i64 (↑kn : Int), V.i IntKind.i64 x88]), [], h⟩ (VQ [0, 4, 5, 86, 87, 88] K)) =
  (If (ltI x88 (↑kn : Int))
  (((0 : Int) ≤ x88 ∧ x88 < (↑kn : Int)) ∧
 ∃ (n : Int),
 ∃ (n_1 : Int),
 ∃ (n_2 : Int),
 ∃ (n_3 : Int),
 ∃ (n_4 : Int),
 ∃ (cs : List V),
 ∃ (l : Nat),
 ∃ (c : Option Nat),
 ∃ (n_5 : Int),
 ∃ (n_6 : Int),
 ∃ (n_7 : Int),
 takeX 9 (List.drop (x88.toNat * (9 : Nat)) kc) =
 some
 [V.i IntKind.i64 n, V.i IntKind.u64 n_1, V.i IntKind.u64 n_2, V.i IntKind.u64 n_3,
 V.i IntKind.u64 n_4, V.ts cs l c, V.i IntKind.i64 n_5, V.i IntKind.i64 n_6,
 V.i IntKind.i64 n_7] ∧
 ∃ (cs_1 : List V),
 ∃ (l_1 : Nat),
 ∃ (c_1 : Option Nat),
 ∃ (cs_2 : List V),
 ∃ (l_2 : Nat),
 ∃ (c_2 : Option Nat),
 ∃ (b : Bool),
 ∃ (h_1 : Heap),
 (Con Tryz.Y (32 : Nat)
 [V.p (some (id, 0)),
 V.agg
 [V.i IntKind.i64 n, V.i IntKind.u64 n_1, V.i IntKind.u64 n_2,
 V.i IntKind.u64 n_3, V.i IntKind.u64 n_4, V.ts cs l c,
 V.i IntKind.i64 n_5, V.i IntKind.i64 n_6, V.i IntKind.i64 n_7]]
 h fun (v : V) (h' : Heap) =>
 v = V.agg [V.ts cs_1 l_1 c_1, V.ts cs_2 l_2 c_2, V.b b] ∧ h' = h_1) ∧
 ∃ (cs : List V),
 ∃ (l : Nat),
 ∃ (c : Option Nat),
 ∃ (cs_3 : List V),
 ∃ (l_3 : Nat),
 ∃ (c_3 : Option Nat),
 ∃ (b_1 : Bool),
 ∃ (h : Heap),
 (Con Tryz.Y (73 : Nat)
 [V.p (some (id, 0)),
 V.agg
 [V.ts cs5_0z2 n5_0z2 none,
 V.ts cs5_1z2 n5_1z2 none, V.b b5_2z2],
 V.agg [V.ts cs_1 l_1 c_1, V.ts cs_2 l_2 c_2, V.b b]]
 h_1 fun (v : V) (h' : Heap) =>
 v = V.agg [V.ts cs l c, V.ts cs_3 l_3 c_3, V.b b_1] ∧
 h' = h) ∧
 K Out.normal 105
 [V.p (some (id, 0)),
 V.lb
 [V.sl none 0 (some 0)
 0,
 V.sl none 0 (some 0)
 0,
 V.b false],
 V.lb [V.ts cs l c, V.ts cs_3 l_3 c_3, V.b b_1],
 V.ts kc kn none, V.i IntKind.i64 (↑kn : Int),
 V.i IntKind.i64
 (IntKind.i64.wrap (x88 + (1 : Int)))]
 h)
  (K (Out.exit 3) 105
 [V.p (some (id, 0)),
 V.lb
 [V.sl none 0 (some 0) 0, V.sl none 0 (some 0) 0,
 V.b false],
 V.lb [V.ts cs5_0z2 n5_0z2 none, V.ts cs5_1z2 n5_1z2 none, V.b b5_2z2], V.ts kc kn none,
 V.i IntKind.i64 (↑kn : Int), V.i IntKind.i64 x88]
 h)) := by kernel_rfl
theorem f32_9 (id : Nat) (k : Int) (s0 : Int) (s1 : Int) (s2 : Int) (s3 : Int) (kc : List V) (kn : Nat) (lo : Int) (hi : Int) (gn : Int) (h : Heap) (K : KT) : (codeP Tryz.Y (Tryz.Y.loc 32) 100 ((flat (condF (post (flat (condF (post (flat (condF (post (flat (blockB (post (flat (bodyOf Tryz.f32))))))))))))))) ⟨mk 105 (([0, 3, 4, 5, 14, 82] : List Nat).zip [V.p (some (id, 0)), V.lb [V.i IntKind.i64 k, V.i IntKind.u64 s0, V.i IntKind.u64 s1, V.i IntKind.u64 s2, V.i IntKind.u64 s3, V.ts kc kn none, V.i IntKind.i64 lo, V.i IntKind.i64 hi, V.i IntKind.i64 gn], V.lb [V.sl none 0 (some 0) 0, V.sl none 0 (some 0) 0, V.b false], V.lb [V.sl none 0 (some 0) 0, V.sl none 0 (some 0) 0, V.b true], V.i IntKind.i64 k, V.b false]), [], h⟩ (VQ [4, 5] K)) =
  (If (k == (6 : Int))
  (Con Tryz.Y (74 : Nat)
 [V.p (some (id, 0)),
 V.agg
 [V.i IntKind.i64 k, V.i IntKind.u64 s0, V.i IntKind.u64 s1, V.i IntKind.u64 s2, V.i IntKind.u64 s3,
 V.ts kc kn none, V.i IntKind.i64 lo, V.i IntKind.i64 hi, V.i IntKind.i64 gn]]
 h fun (v : V) (h' : Heap) =>
 ∃ (cs : List V),
 ∃ (l : Nat),
 ∃ (c : Option Nat),
 ∃ (cs_1 : List V),
 ∃ (l_1 : Nat),
 ∃ (c_1 : Option Nat),
 ∃ (b : Bool),
 v = V.agg [V.ts cs l c, V.ts cs_1 l_1 c_1, V.b b] ∧
 K Out.ret 105
 [V.lb [V.ts cs l c, V.ts cs_1 l_1 c_1, V.b b],
 V.lb
 [V.sl none 0 (some 0) 0,
 V.sl none 0 (some 0) 0, V.b true]]
 h')
  (K Out.normal 105
 [V.lb
 [V.sl none 0 (some 0) 0, V.sl none 0 (some 0) 0,
 V.b false],
 V.lb
 [V.sl none 0 (some 0) 0, V.sl none 0 (some 0) 0,
 V.b true]]
 h)) := by kernel_rfl
theorem f32_10 (b4_2 : Bool) (cs5_0z3 : List V) (n5_0z3 : Nat) (cs5_1z3 : List V) (n5_1z3 : Nat) (b5_2z3 : Bool) (h : Heap) (K : KT) : (codeP Tryz.Y (Tryz.Y.loc 32) 100 (((post (flat (bodyOf Tryz.f32))).drop 1)) ⟨mk 105 (([4, 5] : List Nat).zip [V.lb [V.sl none 0 (some 0) 0, V.sl none 0 (some 0) 0, V.b b4_2], V.lb [V.ts cs5_0z3 n5_0z3 none, V.ts cs5_1z3 n5_1z3 none, V.b b5_2z3]]), [], h⟩ (VQ [4] K)) =
  (K Out.ret 105 [V.lb [V.ts cs5_0z3 n5_0z3 none, V.ts cs5_1z3 n5_1z3 none, V.b b5_2z3]] h) := by kernel_rfl
end Go.Y
