/- What the pieces of functions come to: printed by program. -/
import Derived.Test.YtpddiafjmkjpmaaYTryP
import Derived.Test.YtpddiafjmkjpmaaYLoop
import Derived.Test.YtpddiafjmkjpmaaGA5
namespace Go.Y
open Go.Proofs
set_option maxRecDepth 100000
set_option maxHeartbeats 0
theorem f29_0 (cs0 : List V) (n0 : Nat) (s1 : List UInt8) (h : Heap) (K : Out → Nat → List V → Heap → Prop) : (codeP Try.Y (Try.Y.loc 29) 100 (pre (flat (bodyOf Try.f29))) ⟨(V.ts cs0 n0 none :: V.s s1 :: List.replicate 83 .undef), [], h⟩ (VQ [0, 1, 4, 5, 6, 9] K)) =
  (∃ (b : Bool),
  (PCon Try.Y (17 : Nat) [V.ts cs0 n0 none] fun (v : V) => v = V.b b) ∧
 If (!b) (K Out.ret 85 [V.ts cs0 n0 none, V.s s1, V.b false, V.undef, V.undef, V.ts cs0 n0 none] h)
 (((0 : Int) ≤ IntKind.i64.wrap ((↑s1.length : Int) + (1 : Int)) ∧
 IntKind.i64.wrap ((↑s1.length : Int) + (1 : Int)) ≤ IntKind.i64.wrap ((↑s1.length : Int) + (1 : Int)) ∧
 IntKind.i64.wrap ((↑s1.length : Int) + (1 : Int)) ≤ (↑most : Int) ∧
 IntKind.i64.wrap ((↑s1.length : Int) + (1 : Int)) * (↑(1 : Nat) : Int) ≤ (↑most : Int)) ∧
 ((0 : Int) ≤ (0 : Int) ∧ (0 : Int) < (↑(IntKind.i64.wrap ((↑s1.length : Int) + (1 : Int))).toNat : Int)) ∧
 1 = 1 ∧
 ∃ (h_1 : Heap),
 hstore
 (h.push
 (YObj.arr
 (List.replicate (IntKind.i64.wrap ((↑s1.length : Int) + (1 : Int))).toNat [V.b false]).flatten
 true))
 h.nx 0 [V.b true] =
 some h_1 ∧
 K Out.normal 85
 [V.ts cs0 n0 none, V.s s1, V.b false,
 V.sl (some (h.nx, 0)) (IntKind.i64.wrap ((↑s1.length : Int) + (1 : Int))).toNat
 (some (IntKind.i64.wrap ((↑s1.length : Int) + (1 : Int))).toNat) 1,
 V.i IntKind.i64 (0 : Int), V.ts cs0 n0 none]
 h_1)) := by kernel_rfl
theorem f29_1 (cs0 : List V) (n0 : Nat) (s1 : List UInt8) (id5 : Nat) (l5 : Nat) (c5 : Nat) (x6 : Int) (h : Heap) (K : Out → Nat → List V → Heap → Prop) : (codeP Try.Y (Try.Y.loc 29) 100 (pre (flat (loopB (post (flat (bodyOf Try.f29)))))) ⟨mk 85 (([0, 1, 5, 6, 9] : List Nat).zip [V.ts cs0 n0 none, V.s s1, V.sl (some (id5, 0)) l5 (some c5) 1, V.i IntKind.i64 x6, V.ts cs0 n0 none]), [], h⟩ (VQ [0, 1, 5, 6, 9] K)) =
  (If (ltI x6 (↑n0 : Int))
  (K Out.normal 85
 [V.ts cs0 n0 none, V.s s1, V.sl (some (id5, 0)) l5 (some c5) 1, V.i IntKind.i64 x6,
 V.ts cs0 n0 none]
 h)
  (K (Out.exit 0) 85
 [V.ts cs0 n0 none, V.s s1, V.sl (some (id5, 0)) l5 (some c5) 1, V.i IntKind.i64 x6,
 V.ts cs0 n0 none]
 h)) := by kernel_rfl
theorem f29_2 (cs0 : List V) (n0 : Nat) (s1 : List UInt8) (id5 : Nat) (l5 : Nat) (c5 : Nat) (x6 : Int) (h : Heap) (K : Out → Nat → List V → Heap → Prop) : (codeP Try.Y (Try.Y.loc 29) 100 (pre (flat (blockB (post (flat (loopB (post (flat (bodyOf Try.f29))))))))) ⟨mk 85 (([0, 1, 5, 6, 9] : List Nat).zip [V.ts cs0 n0 none, V.s s1, V.sl (some (id5, 0)) l5 (some c5) 1, V.i IntKind.i64 x6, V.ts cs0 n0 none]), [], h⟩ (VQ [0, 1, 5, 6, 7, 8, 9] K)) =
  (((0 : Int) ≤ IntKind.i64.wrap ((↑s1.length : Int) + (1 : Int)) ∧
 IntKind.i64.wrap ((↑s1.length : Int) + (1 : Int)) ≤ IntKind.i64.wrap ((↑s1.length : Int) + (1 : Int)) ∧
 IntKind.i64.wrap ((↑s1.length : Int) + (1 : Int)) ≤ (↑most : Int) ∧
 IntKind.i64.wrap ((↑s1.length : Int) + (1 : Int)) * (↑(1 : Nat) : Int) ≤ (↑most : Int)) ∧
  K Out.normal 85
 [V.ts cs0 n0 none, V.s s1, V.sl (some (id5, 0)) l5 (some c5) 1, V.i IntKind.i64 x6,
 V.sl (some (h.nx, 0)) (IntKind.i64.wrap ((↑s1.length : Int) + (1 : Int))).toNat
 (some (IntKind.i64.wrap ((↑s1.length : Int) + (1 : Int))).toNat) 1,
 V.i IntKind.i64 (0 : Int), V.ts cs0 n0 none]
 (h.push
 (YObj.arr (List.replicate (IntKind.i64.wrap ((↑s1.length : Int) + (1 : Int))).toNat [V.b false]).flatten true))) := by kernel_rfl
theorem f29_3 (cs0 : List V) (n0 : Nat) (s1 : List UInt8) (id5 : Nat) (l5 : Nat) (c5 : Nat) (x6 : Int) (id7z2 : Nat) (l7z2 : Nat) (c7z2 : Nat) (x8z6 : Int) (h : Heap) (K : Out → Nat → List V → Heap → Prop) : (codeP Try.Y (Try.Y.loc 29) 100 ((flat (loopB (post (flat (blockB (post (flat (loopB (post (flat (bodyOf Try.f29)))))))))))) ⟨mk 85 (([0, 1, 5, 6, 7, 8, 9] : List Nat).zip [V.ts cs0 n0 none, V.s s1, V.sl (some (id5, 0)) l5 (some c5) 1, V.i IntKind.i64 x6, V.sl (some (id7z2, 0)) l7z2 (some c7z2) 1, V.i IntKind.i64 x8z6, V.ts cs0 n0 none]), [], h⟩ (VQ [0, 1, 5, 6, 7, 8, 9] K)) =
  (If (leI x8z6 (↑s1.length : Int))
  (((0 : Int) ≤ x6 ∧ x6 < (↑n0 : Int)) ∧
 ∃ (n : Int),
 takeX 1 (List.drop (0 : Nat) (List.drop (x6.toNat * (3 : Nat)) cs0)) = some [V.i IntKind.i64 n] ∧
 If (n == (2 : Int))
 (((0 : Int) ≤ x8z6 ∧ x8z6 < (↑l5 : Int)) ∧
 1 = 1 ∧
 ∃ (b : Bool),
 hcells h id5 ((0 : Nat) + x8z6.toNat * (1 : Nat)) 1 = some [V.b b] ∧
 If b
 (((0 : Int) ≤ x8z6 ∧ x8z6 < (↑l7z2 : Int)) ∧
 1 = 1 ∧
 ∃ (h_1 : Heap),
 hstore h id7z2 ((0 : Nat) + x8z6.toNat * (1 : Nat)) [V.b true] = some h_1 ∧
 K Out.normal 85
 [V.ts cs0 n0 none, V.s s1, V.sl (some (id5, 0)) l5 (some c5) 1,
 V.i IntKind.i64 x6, V.sl (some (id7z2, 0)) l7z2 (some c7z2) 1,
 V.i IntKind.i64 (IntKind.i64.wrap (x8z6 + (1 : Int))), V.ts cs0 n0 none]
 h_1)
 (If (ltI (0 : Int) x8z6)
 (((0 : Int) ≤ IntKind.i64.wrap (x8z6 - (1 : Int)) ∧
 IntKind.i64.wrap (x8z6 - (1 : Int)) < (↑l7z2 : Int)) ∧
 1 = 1 ∧
 ∃ (b : Bool),
 hcells h id7z2 ((0 : Nat) + (IntKind.i64.wrap (x8z6 - (1 : Int))).toNat * (1 : Nat))
 1 =
 some [V.b b] ∧
 ((0 : Int) ≤ x8z6 ∧ x8z6 < (↑l7z2 : Int)) ∧
 1 = 1 ∧
 ∃ (h_1 : Heap),
 hstore h id7z2 ((0 : Nat) + x8z6.toNat * (1 : Nat)) [V.b b] = some h_1 ∧
 K Out.normal 85
 [V.ts cs0 n0 none, V.s s1,
 V.sl (some (id5, 0)) l5 (some c5) 1, V.i IntKind.i64 x6,
 V.sl (some (id7z2, 0)) l7z2 (some c7z2) 1,
 V.i IntKind.i64 (IntKind.i64.wrap (x8z6 + (1 : Int))), V.ts cs0 n0 none]
 h_1)
 (((0 : Int) ≤ x8z6 ∧ x8z6 < (↑l7z2 : Int)) ∧
 1 = 1 ∧
 ∃ (h_1 : Heap),
 hstore h id7z2 ((0 : Nat) + x8z6.toNat * (1 : Nat)) [V.b false] = some h_1 ∧
 K Out.normal 85
 [V.ts cs0 n0 none, V.s s1, V.sl (some (id5, 0)) l5 (some c5) 1,
 V.i IntKind.i64 x6, V.sl (some (id7z2, 0)) l7z2 (some c7z2) 1,
 V.i IntKind.i64 (IntKind.i64.wrap (x8z6 + (1 : Int))), V.ts cs0 n0 none]
 h_1)))
 (If (ltI (0 : Int) x8z6)
 (((0 : Int) ≤ IntKind.i64.wrap (x8z6 - (1 : Int)) ∧ IntKind.i64.wrap (x8z6 - (1 : Int)) < (↑l5 : Int)) ∧
 1 = 1 ∧
 ∃ (b : Bool),
 hcells h id5 ((0 : Nat) + (IntKind.i64.wrap (x8z6 - (1 : Int))).toNat * (1 : Nat)) 1 =
 some [V.b b] ∧
 If b
 (((0 : Int) ≤ x6 ∧ x6 < (↑n0 : Int)) ∧
 ∃ (n : Int),
 ∃ (n_1 : Int),
 ∃ (cs : List V),
 ∃ (l : Nat),
 ∃ (c : Option Nat),
 takeX 3 (List.drop (x6.toNat * (3 : Nat)) cs0) =
 some [V.i IntKind.i64 n, V.i IntKind.u8 n_1, V.ts cs l c] ∧
 ∃ (c_1 : UInt8),
 ((0 : Int) ≤ IntKind.i64.wrap (x8z6 - (1 : Int)) ∧
 s1[(IntKind.i64.wrap (x8z6 - (1 : Int))).toNat]? = some c_1) ∧
 ∃ (b : Bool),
 (PCon Try.Y (76 : Nat)
 [V.agg [V.i IntKind.i64 n, V.i IntKind.u8 n_1, V.ts cs l c],
 V.i IntKind.u8 (↑c_1.toNat : Int)]
 fun (v : V) => v = V.b b) ∧
 ((0 : Int) ≤ x8z6 ∧ x8z6 < (↑l7z2 : Int)) ∧
 1 = 1 ∧
 ∃ (h_1 : Heap),
 hstore h id7z2 ((0 : Nat) + x8z6.toNat * (1 : Nat)) [V.b b] =
 some h_1 ∧
 K Out.normal 85
 [V.ts cs0 n0 none, V.s s1,
 V.sl (some (id5, 0)) l5 (some c5) 1,
 V.i IntKind.i64 x6,
 V.sl (some (id7z2, 0)) l7z2 (some c7z2) 1,
 V.i IntKind.i64 (IntKind.i64.wrap (x8z6 + (1 : Int))),
 V.ts cs0 n0 none]
 h_1)
 (((0 : Int) ≤ x8z6 ∧ x8z6 < (↑l7z2 : Int)) ∧
 1 = 1 ∧
 ∃ (h_1 : Heap),
 hstore h id7z2 ((0 : Nat) + x8z6.toNat * (1 : Nat)) [V.b false] = some h_1 ∧
 K Out.normal 85
 [V.ts cs0 n0 none, V.s s1, V.sl (some (id5, 0)) l5 (some c5) 1,
 V.i IntKind.i64 x6, V.sl (some (id7z2, 0)) l7z2 (some c7z2) 1,
 V.i IntKind.i64 (IntKind.i64.wrap (x8z6 + (1 : Int))), V.ts cs0 n0 none]
 h_1))
 (K Out.normal 85
 [V.ts cs0 n0 none, V.s s1, V.sl (some (id5, 0)) l5 (some c5) 1, V.i IntKind.i64 x6,
 V.sl (some (id7z2, 0)) l7z2 (some c7z2) 1,
 V.i IntKind.i64 (IntKind.i64.wrap (x8z6 + (1 : Int))), V.ts cs0 n0 none]
 h)))
  (K (Out.exit 2) 85
 [V.ts cs0 n0 none, V.s s1, V.sl (some (id5, 0)) l5 (some c5) 1, V.i IntKind.i64 x6,
 V.sl (some (id7z2, 0)) l7z2 (some c7z2) 1, V.i IntKind.i64 x8z6, V.ts cs0 n0 none]
 h)) := by kernel_rfl
theorem f29_4 (cs0 : List V) (n0 : Nat) (s1 : List UInt8) (x6 : Int) (id7z2 : Nat) (l7z2 : Nat) (c7z2 : Nat) (h : Heap) (K : Out → Nat → List V → Heap → Prop) : (codeP Try.Y (Try.Y.loc 29) 100 (((post (flat (blockB (post (flat (loopB (post (flat (bodyOf Try.f29))))))))).drop 1)) ⟨mk 85 (([0, 1, 6, 7, 9] : List Nat).zip [V.ts cs0 n0 none, V.s s1, V.i IntKind.i64 x6, V.sl (some (id7z2, 0)) l7z2 (some c7z2) 1, V.ts cs0 n0 none]), [], h⟩ (VQ [0, 1, 5, 6, 9] K)) =
  (K Out.normal 85
  [V.ts cs0 n0 none, V.s s1, V.sl (some (id7z2, 0)) l7z2 (some c7z2) 1, V.i IntKind.i64 x6,
 V.ts cs0 n0 none]
  h) := by kernel_rfl
theorem f29_5 (cs0 : List V) (n0 : Nat) (s1 : List UInt8) (x6 : Int) (id7z2 : Nat) (l7z2 : Nat) (c7z2 : Nat) (h : Heap) (K : Out → Nat → List V → Heap → Prop) : (codeP Try.Y (Try.Y.loc 29) 100 (((post (flat (loopB (post (flat (bodyOf Try.f29)))))).drop 1)) ⟨mk 85 (([0, 1, 5, 6, 9] : List Nat).zip [V.ts cs0 n0 none, V.s s1, V.sl (some (id7z2, 0)) l7z2 (some c7z2) 1, V.i IntKind.i64 x6, V.ts cs0 n0 none]), [], h⟩ (VQ [0, 1, 5, 6, 9] K)) =
  (K Out.normal 85
  [V.ts cs0 n0 none, V.s s1, V.sl (some (id7z2, 0)) l7z2 (some c7z2) 1,
 V.i IntKind.i64 (IntKind.i64.wrap (x6 + (1 : Int))), V.ts cs0 n0 none]
  h) := by kernel_rfl
theorem f29_6 (s1 : List UInt8) (id5 : Nat) (l5 : Nat) (c5 : Nat) (h : Heap) (K : Out → Nat → List V → Heap → Prop) : (codeP Try.Y (Try.Y.loc 29) 100 (((post (flat (bodyOf Try.f29))).drop 1)) ⟨mk 85 (([1, 5] : List Nat).zip [V.s s1, V.sl (some (id5, 0)) l5 (some c5) 1]), [], h⟩ (VQ [4] K)) =
  (((0 : Int) ≤ (↑s1.length : Int) ∧ (↑s1.length : Int) < (↑l5 : Int)) ∧
  1 = 1 ∧
 ∃ (b : Bool),
 hcells h id5 ((0 : Nat) + (↑s1.length : Int).toNat * (1 : Nat)) 1 = some [V.b b] ∧
 K Out.ret 85 [V.b b] h) := by kernel_rfl
end Go.Y

/- Match, by contracts. -/
namespace Go.Y
open Go.Proofs
set_option maxRecDepth 100000

theorem in1_con {h : Heap} {id : Nat} {c : Int} (hc : hcells h id 0 1 = some [.i .u8 c]) (x : Span) : RCon Try.Y 94 [.agg (encS x), .p (some (id, 0))] h (.b (leI x.lo c && leI c x.hi)) := by
  refine ⟨h, ?_, fun _ _ => rfl, fun _ h => h⟩
  refine conz_of Try.Yok (fn := Try.f94) (by kernel_rfl) (by kernel_rfl) (end_rule Try.Yok (loc := Try.Y.loc 94) 100 [3] ?_)
  refine Eq.mpr (f94b_0 x.lo x.hi id h _) ?_
  refine ⟨_, hc, if_mk (fun h1 => ⟨_, hc, ?_⟩) (fun h1 => ?_)⟩
  · exact finC (.inr rfl) rfl (.now ⟨by rw [h1, Bool.true_and]; rfl, rfl⟩)
  · exact finC (.inr rfl) rfl (.now ⟨by rw [h1, Bool.false_and]; rfl, rfl⟩)

theorem indexIn (id : Nat) (l : List Span) (p : Span → Bool) (h : Heap) (hl : l.length < 2 ^ 30) (hp : ∀ x ∈ l, RCon Try.Y 94 [.agg (encS x), .p (some (id, 0))] h (.b (p x))) :
    Con Try.Y 114 [lst encS l, .fn (.func 94) [] [.p (some (id, 0))]] h fun v h' => ∃ n : Int, v = .i .i64 n ∧ leI 0 n = l.any p ∧ h' = h := by
  refine conz_of Try.Yok (fn := Try.f114) (by kernel_rfl) (by kernel_rfl) ?_
  refine pre_rule Try.Yok (n := 19) (loc := Try.Y.loc 114) 100 [0, 1, 7, 8] (by kernel_rfl) ?_
  refine Eq.mpr (f114b_0 (row encS l) l.length id h _) ?_
  refine ⟨rfl, loop2 [0, 1, 7, 8] [0, 1, 4, 7, 8] rfl (by kernel_rfl) (fun m vs h' => ∃ i : Nat, vs = [lst encS l, .fn (.func 94) [] [.p (some (id, 0))], .i .i64 l.length, .i .i64 (i : Nat)] ∧ i ≤ l.length ∧ (l.take i).any p = false ∧ m = l.length - i ∧ h' = h) l.length mk_len ⟨0, rfl, by omega, rfl, by omega, rfl⟩ ?_⟩
  rintro m vs h' ⟨i, rfl, hi, hno, rfl, rfl⟩
  refine all_rule Try.Yok (loc := Try.Y.loc 114) 100 [0, 1, 4, 7, 8] ?_
  refine Eq.mpr (f114b_1 (row encS l) l.length id (i : Nat) h' _) ?_
  refine if_lt_nat (fun hlt => ?_) (fun hge => ?_)
  · have hget : takeX 2 (List.drop ((i : Int).toNat * 2) (row encS l)) = some (encS l[i]) := by rw [Int.toNat_natCast]; exact row_get (f := encS) (k := 2) (fun _ => rfl) hlt
    refine ⟨bnd_nat hlt, _, _, hget, p l[i], hp l[i] (List.getElem_mem hlt), if_mk (fun hc => ?_) (fun hc => ?_)⟩
    · refine fin_at (.inr rfl) rfl (.now ⟨(i : Nat), rfl, ?_, rfl⟩)
      have : l.any p = true := List.any_eq_true.2 ⟨l[i], List.getElem_mem hlt, hc⟩
      rw [this]; simp [leI]
    · refine ⟨rfl, l.length - (i + 1), by omega, i + 1, ?_, by omega, ?_, rfl, rfl⟩
      · rw [wrap_succ (by omega)]; rfl
      · rw [List.take_succ_eq_append_getElem hlt, List.any_append, hno]; simp [hc]
  · refine roundW_exit [] (by kernel_rfl) rfl rfl ?_
    refine end_rule Try.Yok (loc := Try.Y.loc 114) 100 [4] ?_
    refine Eq.mpr (f114b_2 h' _) ?_
    rw [List.take_of_length_le hge] at hno
    exact finC (.inr rfl) rfl (.now ⟨-1, rfl, by rw [hno]; rfl, rfl⟩)

theorem containsIn (id : Nat) (l : List Span) (p : Span → Bool) (h : Heap) (hl : l.length < 2 ^ 30) (hp : ∀ x ∈ l, RCon Try.Y 94 [.agg (encS x), .p (some (id, 0))] h (.b (p x))) :
    Con Try.Y 93 [lst encS l, .fn (.func 94) [] [.p (some (id, 0))]] h fun v h' => v = .b (l.any p) ∧ h' = h := by
  refine conz_of Try.Yok (fn := Try.f93) (by kernel_rfl) (by kernel_rfl) (end_rule Try.Yok (loc := Try.Y.loc 93) 100 [4] ?_)
  refine Eq.mpr (f93b_0 (row encS l) l.length id h _) ?_
  refine (indexIn id l p h hl hp).mono fun v h' ⟨n, e1, e2, e3⟩ => ⟨n, e1, ?_⟩
  subst e3
  rw [e2]
  exact finC (.inr rfl) rfl (.now ⟨rfl, rfl⟩)

theorem fits_con (g : Glob) (c : Int) (hs : g.sp.length < 2 ^ 30) : PCon Try.Y 51 [.agg (encG g), .i .u8 c] (· = .b (fitsS g c)) := by
  refine pcon_of Try.Yok (fn := Try.f51) (by kernel_rfl) (by kernel_rfl) rfl (end_rule Try.Yok (loc := Try.Y.loc 51) 100 [4] ?_)
  refine Eq.mpr (f51_0 g.k g.b (row encS g.sp) g.sp.length c .empty _) ?_
  have hc : hcells (Heap.empty.push (.arr [.i .u8 c] true)) Heap.empty.nx 0 1 = some [.i .u8 c] := by simp [hcells, Heap.get_push, takeX]
  refine if_mk (fun h0 => ⟨_, hc, finV1 (.inr rfl) rfl (.b _) ?_⟩) (fun h0 => if_mk (fun h1 => finV1 (.inr rfl) rfl (.b _) ?_) (fun h1 => ?_))
  · have h0 : g.k = 0 := by simpa using h0
    simp [fitsS, h0]
  · have h0 : g.k ≠ 0 := by simpa using h0
    simp [fitsS, h0, h1]
  · have h0 : g.k ≠ 0 := by simpa using h0
    refine (containsIn _ g.sp (fun x => leI x.lo c && leI c x.hi) _ hs fun x _ => in1_con hc x).mono fun v h' ⟨e1, e2⟩ => ⟨_, e1, finV1 (.inr rfl) rfl (.b _) ?_⟩
    simp [fitsS, h0, h1]

def RFitsI (g : Glob) (c : Int) (m : Nat) (vs : List V) (_ : Heap) : Prop :=
  ∃ (i : Nat) (b : Bool), vs = [.i .u8 c, .lb (encG g), .b b, .i .i64 (i : Nat), .undef] ∧ b = (g.k == 1 || (g.sp.take i).any fun x => leI x.lo c && leI c x.hi) ∧ i ≤ g.sp.length ∧ m = g.sp.length - i

theorem rfits_con (g : Glob) (c : Int) (hs : g.sp.length < 2 ^ 30) : PCon Try.Y 76 [.agg (encG g), .i .u8 c] (· = .b (fitsS g c)) := by
  refine pcon_of Try.Yok (fn := Try.f76) (by kernel_rfl) (by kernel_rfl) rfl ?_
  refine pre_rule Try.Yok (n := 46) (loc := Try.Y.loc 76) 100 [1, 2, 4, 5, 6, 10] (by kernel_rfl) ?_
  refine Eq.mpr (f76_0 g.k g.b (row encS g.sp) g.sp.length c .empty _) ?_
  refine if_mk (fun h0 => fin_at (.inr rfl) rfl ⟨_, .b _, ?_⟩) (fun h0 => ?_)
  · have h0 : g.k = 0 := by simpa using h0
    simp [fitsS, h0, V.plain]
  have h0 : g.k ≠ 0 := by simpa using h0
  refine ⟨rfl, loop2 [1, 2, 5, 6, 10] [1, 2, 5, 6, 10] rfl (by kernel_rfl) (RFitsI g c) g.sp.length mk_len ⟨0, _, rfl, by simp, by omega, by omega⟩ ?_⟩
  rintro m vs h' ⟨i, b, rfl, hb, hi, rfl⟩
  refine all_rule Try.Yok (loc := Try.Y.loc 76) 100 [1, 2, 5, 6, 10] ?_
  refine Eq.mpr (f76_1 g.k g.b (row encS g.sp) g.sp.length c b (i : Nat) h' _) ?_
  refine if_lt_nat (fun hlt => ?_) (fun hge => ?_)
  · have rc := row_cons encS_len g.sp hlt
    rw [Int.toNat_natCast, rc, wrap_succ (by omega)]
    have next : ∀ b' : Bool, b' = (b || (leI g.sp[i].lo c && leI c g.sp[i].hi)) → RoundW Try.Y 46 [1, 2, 5, 6, 10] [1, 2, 5, 6, 10] (RFitsI g c) (g.sp.length - i)
        (loopId (post (flat (bodyOf Try.f76)))) ((post (flat (bodyOf Try.f76))).drop 1) (FinS Try.Y Try.f76 fun v h => ∃ r, Frz h v r ∧ r = .b (fitsS g c)) .normal 46 [.i .u8 c, .lb (encG g), .b b', .i .i64 ((i + 1 : Nat) : Int), .undef] h' := by
      intro b' hb'
      refine ⟨rfl, g.sp.length - (i + 1), by omega, i + 1, b', rfl, ?_, by omega, rfl⟩
      rw [hb', hb, List.take_succ_eq_append_getElem hlt, List.any_append, Bool.or_assoc]
      simp
    refine if_mk (fun hbt => next _ (by rw [hbt]; rfl)) (fun hbf => ?_)
    refine ⟨bnd_nat hlt, _, rfl, if_mk (fun h1 => ⟨bnd_nat hlt, _, rfl, next _ (by rw [hbf, h1]; rfl)⟩) (fun h1 => next _ (by rw [hbf, h1]; rfl))⟩
  · refine roundW_exit [5] (by kernel_rfl) rfl rfl ?_
    refine end_rule Try.Yok (loc := Try.Y.loc 76) 100 [4] ?_
    refine Eq.mpr (f76_2 b h' _) ?_
    rw [List.take_of_length_le hge] at hb
    refine finV1 (.inr rfl) rfl (.b _) ?_
    simp [fitsS, h0, hb, V.plain]
end Go.Y

/- glob.Match, by its contract. -/
namespace Go.Y
open Go.Proofs
set_option maxRecDepth 100000

/-- How far back is gone. -/
def manyOf (mi : Int) (f : Nat) : Option (Nat × Nat) := if 0 ≤ mi then some (mi.toNat + 1, f) else none

def MatchI (l : List Glob) (s : List UInt8) (m : Nat) (vs : List V) (_ : Heap) : Prop :=
  ∃ (i k : Nat) (mi : Int) (f : Nat) (b : Bool), vs = [lst encG l, .s s, .b b, .i .i64 (i : Nat), .i .i64 (k : Nat), .i .i64 mi, .i .i64 (f : Nat)] ∧ i ≤ l.length ∧ k ≤ s.length ∧ f ≤ k ∧ -1 ≤ mi ∧ mi < l.length ∧
    wayOK l i k (manyOf mi f) ∧ goal l s i k (manyOf mi f) = M l s ∧ m = (if 0 ≤ mi then ((l.length - mi.toNat) * (s.length + 2) + (s.length + 1 - f)) * (l.length + s.length + 2) else (l.length + 1) * (s.length + 2) * (l.length + s.length + 2)) + (s.length - k) + (l.length - i)

def TailI (l : List Glob) (s : List UInt8) (m : Nat) (vs : List V) (_ : Heap) : Prop :=
  ∃ (i : Nat) (b : Bool), vs = [lst encG l, .b b, .i .i64 (i : Nat)] ∧ i ≤ l.length ∧ (l.drop i).all (fun g => g.k == 2) = M l s ∧ m = l.length - i

theorem match_con (l : List Glob) (s : List UInt8) (hs : okG l) (hsl : s.length < 2 ^ 28) : PCon Try.Y 18 [lst encG l, .s s] (· = .b (mayS l && M l s)) := by
  have hl := hs.1
  refine pcon_of Try.Yok (fn := Try.f18) (by kernel_rfl) (by kernel_rfl) rfl ?_
  refine pre_rule Try.Yok (n := 78) (loc := Try.Y.loc 18) 100 [0, 1, 4, 5, 6, 7, 8] (by kernel_rfl) ?_
  refine Eq.mpr (f18_0 (row encG l) l.length s .empty _) ?_
  refine ⟨_, gmay_con l hs, if_mk (fun hm => fin_at (.inr rfl) rfl ⟨_, .b _, ?_⟩) (fun hm => ?_)⟩
  · have : mayS l = false := by simpa using hm
    rw [this]; rfl
  have hmay : mayS l = true := by simpa using hm
  rw [hmay, Bool.true_and]
  refine ⟨rfl, loop2 [0, 1, 4, 5, 6, 7, 8] [0, 1, 4, 5, 6, 7, 8] rfl (by kernel_rfl) (MatchI l s) _ mk_len ⟨0, 0, -1, 0, false, rfl, by omega, by omega, by omega, by omega, by omega, trivial, ?_, rfl⟩ ?_⟩
  · simp [goal, manyOf]
  rintro m vs h ⟨i, k, mi, f, b, rfl, hi, hk, hf, hm0, hm1, hw, hgoal, rfl⟩
  refine all_rule Try.Yok (loc := Try.Y.loc 18) 100 [0, 1, 4, 5, 6, 7, 8] ?_
  refine Eq.mpr (f18_1 (row encG l) l.length s b (i : Nat) (k : Nat) mi (f : Nat) h _) ?_
  generalize hK : RoundW Try.Y 78 [0, 1, 4, 5, 6, 7, 8] [0, 1, 4, 5, 6, 7, 8] (MatchI l s) _ (loopId (post (flat (bodyOf Try.f18)))) ((post (flat (bodyOf Try.f18))).drop 1) (FinS Try.Y Try.f18 fun v h => ∃ r, Frz h v r ∧ r = .b (M l s)) = K
  refine if_lt_nat (fun hkl => ?_) (fun hkg => ?_)
  · -- one more byte is there
    have back : (∀ (h : i < l.length), l[i].k ≠ 2 ∧ fitsS l[i] s[k].toNat = false) → If (leI 0 mi) (K .normal 78 [lst encG l, .s s, .b b, .i .i64 (IntKind.i64.wrap (mi + 1)), .i .i64 (IntKind.i64.wrap ((f : Nat) + 1)), .i .i64 mi, .i .i64 (IntKind.i64.wrap ((f : Nat) + 1))] h)
        (K .ret 78 [lst encG l, .s s, .b false, .i .i64 (i : Nat), .i .i64 (k : Nat), .i .i64 mi, .i .i64 (f : Nat)] h) := by
      intro hno
      refine if_le (fun hmi => ?_) (fun hmi => ?_)
      · obtain ⟨q, rfl⟩ : ∃ q : Nat, mi = (q : Nat) := ⟨mi.toNat, by omega⟩
        have hmo : manyOf (q : Nat) f = some (q + 1, f) := by simp [manyOf]
        rw [hmo] at hw hgoal
        rw [goal_back hkl hno] at hgoal
        subst hK
        refine ⟨rfl, ((l.length - q) * (s.length + 2) + (s.length + 1 - (f + 1))) * (l.length + s.length + 2) + (s.length - (f + 1)) + (l.length - (q + 1)), ?_, q + 1, f + 1, (q : Nat), f + 1, b, ?_, by omega, by omega, by omega, by omega, by omega, ?_, ?_, ?_⟩
        · rw [if_pos hmi, Int.toNat_natCast]
          have e1 : (l.length - q) * (s.length + 2) + (s.length + 1 - f) = ((l.length - q) * (s.length + 2) + (s.length + 1 - (f + 1))) + 1 := by omega
          rw [e1, Nat.add_mul _ 1]
          omega
        · rw [wrap_succ (by omega), wrap_succ (by omega)]; rfl
        · have : manyOf (q : Nat) (f + 1) = some (q + 1, f + 1) := by simp [manyOf]
          rw [this]
          exact ⟨Nat.le_refl _, by omega, fun j g h1 h2 => by omega⟩
        · have : manyOf (q : Nat) (f + 1) = some (q + 1, f + 1) := by simp [manyOf]
          rw [this]; exact hgoal
        · rw [if_pos hmi, Int.toNat_natCast]
      · have hmo : manyOf mi f = none := by unfold manyOf; rw [if_neg (by omega)]
        rw [hmo, goal_none hkl hno] at hgoal
        subst hK
        exact fin_at (.inr rfl) rfl ⟨_, .b _, by rw [← hgoal]⟩
    -- a piece for one byte
    have one : (∀ (h : i < l.length), l[i].k ≠ 2) → If (ltI (i : Nat) (l.length : Nat)) ((0 ≤ ((i : Nat) : Int) ∧ ((i : Nat) : Int) < (l.length : Nat)) ∧ ∃ (n n_1 : Int) (cs : List V) (l1 : Nat) (c : Option Nat), takeX 3 (List.drop (((i : Nat) : Int).toNat * 3) (row encG l)) = some [.i .i64 n, .i .u8 n_1, .ts cs l1 c] ∧
        ∃ c_1 : UInt8, (0 ≤ ((k : Nat) : Int) ∧ s[((k : Nat) : Int).toNat]? = some c_1) ∧ ∃ b_1 : Bool, (PCon Try.Y 51 [.agg [.i .i64 n, .i .u8 n_1, .ts cs l1 c], .i .u8 (c_1.toNat : Nat)] fun v => v = .b b_1) ∧
          If b_1 (K .normal 78 [lst encG l, .s s, .b b, .i .i64 (IntKind.i64.wrap ((i : Nat) + 1)), .i .i64 (IntKind.i64.wrap ((k : Nat) + 1)), .i .i64 mi, .i .i64 (f : Nat)] h)
            (If (leI 0 mi) (K .normal 78 [lst encG l, .s s, .b b, .i .i64 (IntKind.i64.wrap (mi + 1)), .i .i64 (IntKind.i64.wrap ((f : Nat) + 1)), .i .i64 mi, .i .i64 (IntKind.i64.wrap ((f : Nat) + 1))] h)
              (K .ret 78 [lst encG l, .s s, .b false, .i .i64 (i : Nat), .i .i64 (k : Nat), .i .i64 mi, .i .i64 (f : Nat)] h)))
        (If (leI 0 mi) (K .normal 78 [lst encG l, .s s, .b b, .i .i64 (IntKind.i64.wrap (mi + 1)), .i .i64 (IntKind.i64.wrap ((f : Nat) + 1)), .i .i64 mi, .i .i64 (IntKind.i64.wrap ((f : Nat) + 1))] h)
          (K .ret 78 [lst encG l, .s s, .b false, .i .i64 (i : Nat), .i .i64 (k : Nat), .i .i64 mi, .i .i64 (f : Nat)] h)) := by
      intro h2
      refine if_lt_nat (fun hil => ?_) (fun hig => back (fun h => absurd h (by omega)))
      rw [Int.toNat_natCast]
      refine ⟨bnd_nat hil, _, _, _, _, _, row_get encG_len hil, s[k], ⟨by omega, by simp [hkl]⟩, _, fits_con l[i] _ (by have := hs.2 _ (List.getElem_mem hil); omega), if_mk (fun hfit => ?_) (fun hfit => back (fun h => ⟨h2 h, hfit⟩))⟩
      rw [goal_fits hil (h2 hil) hkl hfit] at hgoal
      subst hK
      refine ⟨rfl, (if 0 ≤ mi then ((l.length - mi.toNat) * (s.length + 2) + (s.length + 1 - f)) * (l.length + s.length + 2) else (l.length + 1) * (s.length + 2) * (l.length + s.length + 2)) + (s.length - (k + 1)) + (l.length - (i + 1)), by omega, i + 1, k + 1, mi, f, b, ?_, by omega, by omega, by omega, hm0, hm1, ?_, hgoal, rfl⟩
      · rw [wrap_succ (by omega), wrap_succ (by omega)]; rfl
      · cases hmo : manyOf mi f with
        | none => trivial
        | some qf =>
          obtain ⟨q, f'⟩ := qf
          rw [hmo] at hw
          obtain ⟨w1, w2, w3⟩ := hw
          refine ⟨by omega, by omega, fun j g h3 h4 h5 => ?_⟩
          by_cases hji : j = i
          · subst hji
            rw [List.getElem?_eq_getElem hil] at h5
            cases h5
            exact h2 hil
          · exact w3 j g h3 (by omega) h5
    refine if_lt_nat (fun hil => ?_) (fun hig => ?_)
    · have rc := row_cons encG_len l hil
      refine ⟨bnd_nat hil, l[i].k, by rw [Int.toNat_natCast, rc]; rfl, if_mk (fun h2 => ?_) (fun h2 => ?_)⟩
      · have h2 : l[i].k = 2 := by simpa using h2
        rw [goal_many hil h2 hkl hw] at hgoal
        subst hK
        refine ⟨rfl, ((l.length - i) * (s.length + 2) + (s.length + 1 - k)) * (l.length + s.length + 2) + (s.length - k) + (l.length - (i + 1)), ?_, i + 1, k, (i : Nat), k, b, ?_, by omega, by omega, by omega, by omega, by omega, ?_, ?_, ?_⟩
        · split
          · rename_i hmi
            have : manyOf mi f = some (mi.toNat + 1, f) := by unfold manyOf; rw [if_pos hmi]
            rw [this] at hw
            obtain ⟨w1, w2, w3⟩ := hw
            have hlt : mi.toNat < i := by omega
            have e1 : (l.length - i) * (s.length + 2) + (s.length + 2) ≤ (l.length - mi.toNat) * (s.length + 2) := by
              rw [← Nat.succ_mul]
              exact Nat.mul_le_mul_right _ (by omega)
            have e2 : (l.length - i) * (s.length + 2) + (s.length + 1 - k) ≤ (l.length - mi.toNat) * (s.length + 2) + (s.length + 1 - f) := by omega
            have e3 := Nat.mul_le_mul_right (l.length + s.length + 2) e2
            omega
          · have e1 : (l.length - i) * (s.length + 2) + (s.length + 1 - k) ≤ (l.length + 1) * (s.length + 2) := by
              rw [Nat.add_mul]
              have : (l.length - i) * (s.length + 2) ≤ l.length * (s.length + 2) := Nat.mul_le_mul_right _ (by omega)
              omega
            have e3 := Nat.mul_le_mul_right (l.length + s.length + 2) e1
            omega
        · rw [wrap_succ (by omega)]; rfl
        · have : manyOf (i : Nat) k = some (i + 1, k) := by simp [manyOf]
          rw [this]
          exact ⟨Nat.le_refl _, by omega, fun j g h1 h2 => by omega⟩
        · have : manyOf (i : Nat) k = some (i + 1, k) := by simp [manyOf]
          rw [this]; exact hgoal
        · rw [if_pos (by omega), Int.toNat_natCast]
      · have h2 : l[i].k ≠ 2 := by simpa using h2
        exact one (fun _ => h2)
    · exact one (fun h => absurd h (by omega))
  · subst hK
    have hke : k = s.length := by omega
    rw [goal_end hke hw] at hgoal
    refine roundW_exit [0, 4, 5] (by kernel_rfl) rfl rfl ?_
    refine pre_rule Try.Yok (n := 78) (loc := Try.Y.loc 18) 100 [0, 4, 5] (by kernel_rfl) ?_
    refine Eq.mpr (f18_2 (row encG l) l.length (i : Nat) b h _) ?_
    refine ⟨rfl, loop2 [0, 4, 5] [0, 4, 5] rfl (by kernel_rfl) (TailI l s) (l.length - i) mk_len ⟨i, b, rfl, hi, hgoal, rfl⟩ ?_⟩
    rintro m vs h ⟨i, b, rfl, hi, hg, rfl⟩
    refine all_rule Try.Yok (loc := Try.Y.loc 18) 100 [0, 4, 5] ?_
    refine Eq.mpr (f18_3 (row encG l) l.length (i : Nat) b h _) ?_
    refine if_lt_nat (fun hlt => ?_) (fun hge => ?_)
    · have rc := row_cons encG_len l hlt
      refine ⟨bnd_nat hlt, l[i].k, by rw [Int.toNat_natCast, rc]; rfl, if_mk (fun h2 => ?_) (fun h2 => ?_)⟩
      · refine ⟨rfl, l.length - (i + 1), by omega, i + 1, b, ?_, by omega, ?_, rfl⟩
        · rw [wrap_succ (by omega)]; rfl
        · rw [← hg, List.drop_eq_getElem_cons hlt, List.all_cons, h2, Bool.true_and]
      · refine roundW_exit [0, 5] (by kernel_rfl) rfl rfl ?_
        refine end_rule Try.Yok (loc := Try.Y.loc 18) 100 [4] ?_
        refine Eq.mpr (f18_4 (row encG l) l.length (i : Nat) h _) ?_
        refine finV1 (.inr rfl) rfl (.b _) ?_
        rw [← hg, List.drop_eq_getElem_cons hlt, List.all_cons, h2, Bool.false_and]
        have : ¬ (((i : Nat) : Int) = (l.length : Nat)) := by omega
        simp [V.plain]; omega
    · refine roundW_exit [0, 5] (by kernel_rfl) rfl rfl ?_
      refine end_rule Try.Yok (loc := Try.Y.loc 18) 100 [4] ?_
      refine Eq.mpr (f18_4 (row encG l) l.length (i : Nat) h _) ?_
      refine finV1 (.inr rfl) rfl (.b _) ?_
      rw [← hg, List.drop_of_length_le hge]
      have : i = l.length := by omega
      simp [V.plain, this]
end Go.Y
