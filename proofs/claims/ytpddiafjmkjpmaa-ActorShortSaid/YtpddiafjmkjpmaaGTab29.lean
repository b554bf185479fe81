/- souffleurref03.Match, by its contract. -/
import Derived.Test.YtpddiafjmkjpmaaGA7
import Derived.Test.YtpddiafjmkjpmaaYTryP
import Derived.Test.YtpddiafjmkjpmaaYLoop
namespace Go.Y
open Go.Proofs
set_option maxRecDepth 100000

/-- A row of bools: the first k are known. -/
def rowK (f : Nat → Bool) (k n : Nat) : List V := (List.range n).map fun j => V.b (if j < k then f j else false)
theorem rowK_get (f : Nat → Bool) (k n j : Nat) (hj : j < n) : (rowK f k n)[j]? = some (.b (if j < k then f j else false)) := by simp [rowK, hj]
theorem rowK_length (f : Nat → Bool) (k n : Nat) : (rowK f k n).length = n := by simp [rowK]
theorem takeX_one {cs : List V} {j : Nat} {v : V} (h : cs[j]? = some v) : takeX 1 (cs.drop j) = some [v] := by
  have hj := (List.getElem?_eq_some_iff.1 h).1
  rw [List.drop_eq_getElem_cons hj]
  have : cs[j] = v := (List.getElem?_eq_some_iff.1 h).2
  simp [takeX, this]

theorem rowK_put (f : Nat → Bool) {k n : Nat} (hk : k < n) {b : Bool} (hb : b = f k) : splice (rowK f k n) k [.b b] = rowK f (k + 1) n := by
  apply List.ext_getElem?
  intro j
  rw [splice_get _ _ _ _ (by rw [rowK_length]; simp; omega)]
  by_cases hj : j < n
  · rw [rowK_get f k n j hj, rowK_get f (k + 1) n j hj]
    by_cases hjk : j = k
    · subst hjk
      simp [hb]
    · rw [if_neg (by simp; omega)]
      by_cases h1 : j < k
      · rw [if_pos h1, if_pos (by omega)]
      · rw [if_neg h1, if_neg (by omega)]
  · have e1 : (rowK f k n)[j]? = none := List.getElem?_eq_none (by rw [rowK_length]; omega)
    have e2 : (rowK f (k + 1) n)[j]? = none := List.getElem?_eq_none (by rw [rowK_length]; omega)
    rw [e1, e2, if_neg (by simp; omega)]
theorem rowK_keep (f : Nat → Bool) {k n : Nat} (hf : f k = false) : rowK f k n = rowK f (k + 1) n := by
  unfold rowK
  apply List.map_congr_left
  intro j _
  by_cases hj : j = k
  · subst hj; simp [hf]
  · by_cases h1 : j < k
    · rw [if_pos h1, if_pos (by omega)]
    · rw [if_neg h1, if_neg (by omega)]
theorem rowK_zero (f : Nat → Bool) (n : Nat) : (List.replicate n [V.b false]).flatten = rowK f 0 n := by
  apply List.ext_getElem?
  intro j
  by_cases hj : j < n
  · rw [rowK_get f 0 n j hj]
    have : (List.replicate n [V.b false]).flatten = List.replicate n (V.b false) := by
      induction n with
      | zero => rfl
      | succ n ih => rw [List.replicate_succ, List.flatten_cons]; simp [List.replicate_succ]
    rw [this]; simp [hj]
  · rw [List.getElem?_eq_none (by simp; omega), List.getElem?_eq_none (by rw [rowK_length]; omega)]

theorem hstore_row {h : Heap} {id : Nat} {f : Nat → Bool} {k n : Nat} (hg : h.get id = some (.arr (rowK f k n) true)) (hk : k < n) {b : Bool} (hb : b = f k) :
    hstore h id k [.b b] = some (h.set id (some (.arr (rowK f (k + 1) n) true))) := by
  simp only [hstore, hg]
  rw [if_pos (by rw [rowK_length]; simp; omega), rowK_put f hk hb]

abbrev bsl (id n : Nat) : V := .sl (some (id, 0)) n (some n) 1

def TabO (l : List Glob) (s : List UInt8) (m : Nat) (vs : List V) (h : Heap) : Prop :=
  ∃ (i id : Nat), vs = [lst encG l, .s s, bsl id (s.length + 1), .i .i64 (i : Nat), lst encG l] ∧ i ≤ l.length ∧ id < h.nx ∧ h.get id = some (.arr (rowK (tab l s i) (s.length + 1) (s.length + 1)) true) ∧ m = l.length - i
def TabN (l : List Glob) (s : List UInt8) (i id : Nat) (m : Nat) (vs : List V) (h : Heap) : Prop :=
  ∃ (k id2 : Nat), vs = [lst encG l, .s s, bsl id (s.length + 1), .i .i64 (i : Nat), bsl id2 (s.length + 1), .i .i64 (k : Nat), lst encG l] ∧ k ≤ s.length + 1 ∧ id2 < h.nx ∧ id ≠ id2 ∧
    h.get id = some (.arr (rowK (tab l s i) (s.length + 1) (s.length + 1)) true) ∧ h.get id2 = some (.arr (rowK (tab l s (i + 1)) k (s.length + 1)) true) ∧ m = s.length + 1 - k

theorem rmatch_con (l : List Glob) (s : List UInt8) (hs : okG l) (hsl : s.length < 2 ^ 28) : PCon Try.Y 29 [lst encG l, .s s] (· = .b (mayS l && M l s)) := by
  have hl := hs.1
  have hmost : ((most : Nat) : Int) = 1099511627776 := by decide
  have hw : IntKind.i64.wrap ((s.length : Int) + 1) = ((s.length + 1 : Nat) : Int) := wrap_succ (by omega)
  have alloc : (0 : Int) ≤ ((s.length + 1 : Nat) : Int) ∧ ((s.length + 1 : Nat) : Int) ≤ ((s.length + 1 : Nat) : Int) ∧ ((s.length + 1 : Nat) : Int) ≤ ((most : Nat) : Int) ∧ ((s.length + 1 : Nat) : Int) * ((1 : Nat) : Int) ≤ ((most : Nat) : Int) := by
    rw [hmost]; refine ⟨by omega, by omega, by omega, by omega⟩
  refine pcon_of Try.Yok (fn := Try.f29) (by kernel_rfl) (by kernel_rfl) rfl ?_
  refine pre_rule Try.Yok (n := 85) (loc := Try.Y.loc 29) 100 [0, 1, 4, 5, 6, 9] (by kernel_rfl) ?_
  refine Eq.mpr (f29_0 (row encG l) l.length s .empty _) ?_
  rw [hw, Int.toNat_natCast]
  refine ⟨_, rmay_con l hs, if_mk (fun hm => fin_at (.inr rfl) rfl ⟨_, .b _, ?_⟩) (fun hm => ?_)⟩
  · have : mayS l = false := by simpa using hm
    rw [this]; rfl
  have hmay : mayS l = true := by simpa using hm
  rw [hmay, Bool.true_and]
  have hz : (List.replicate (s.length + 1) [V.b false]).flatten = rowK (tab l s 0) 0 (s.length + 1) := rowK_zero _ _
  have hz0 : tab l s 0 0 = true := by rw [tab_00 l s 0 (by omega)]; rfl
  have h1 := hstore_row (h := Heap.empty.push (.arr (rowK (tab l s 0) 0 (s.length + 1)) true)) (id := Heap.empty.nx) (f := tab l s 0) (k := 0) (n := s.length + 1) (by simp) (by omega) (b := true) hz0.symm
  have hall : rowK (tab l s 0) 1 (s.length + 1) = rowK (tab l s 0) (s.length + 1) (s.length + 1) := by
    unfold rowK
    apply List.map_congr_left
    intro j hj
    have hj := List.mem_range.1 hj
    rw [if_pos hj]
    by_cases h0 : j < 1
    · rw [if_pos h0]
    · rw [if_neg h0, tab_00 l s j (by omega)]; simp; omega
  refine ⟨alloc, ⟨by omega, by omega⟩, rfl, _, by rw [hz]; exact h1, rfl, ?_⟩
  refine loop2 [0, 1, 5, 6, 9] [0, 1, 5, 6, 9] rfl (by kernel_rfl) (TabO l s) l.length mk_len ⟨0, _, rfl, by omega, ?_, ?_, by omega⟩ ?_
  · simp
  · rw [← hall]; simp
  rintro m vs h ⟨i, id, rfl, hi, hid, hg, rfl⟩
  refine pre_rule Try.Yok (n := 85) (loc := Try.Y.loc 29) 100 [0, 1, 5, 6, 9] (by kernel_rfl) ?_
  refine Eq.mpr (f29_1 (row encG l) l.length s id (s.length + 1) (s.length + 1) (i : Nat) h _) ?_
  refine if_lt_nat (fun hlt => ?_) (fun hge => ?_)
  · refine ⟨rfl, block2 (n := 85) [0, 1, 5, 6, 9] (by kernel_rfl) ?_⟩
    refine pre_rule Try.Yok (n := 85) (loc := Try.Y.loc 29) 100 [0, 1, 5, 6, 7, 8, 9] (by kernel_rfl) ?_
    refine Eq.mpr (f29_2 (row encG l) l.length s id (s.length + 1) (s.length + 1) (i : Nat) h _) ?_
    rw [hw, Int.toNat_natCast]
    refine ⟨alloc, rfl, ?_⟩
    refine loop2 [0, 1, 5, 6, 7, 8, 9] [0, 1, 5, 6, 7, 8, 9] rfl (by kernel_rfl) (TabN l s i id) (s.length + 1) mk_len ⟨0, h.nx, rfl, by omega, by simp, by omega, ?_, ?_, by omega⟩ ?_
    · show (h.push _).get id = _
      rw [Heap.get_push, if_neg (by omega)]; exact hg
    · show (h.push _).get h.nx = _
      rw [Heap.get_push, if_pos rfl, rowK_zero]
    have rc := row_cons encG_len l hlt
    rintro m vs h2 ⟨k, id2, rfl, hk, hid2, hne, hg1, hg2, rfl⟩
    refine all_rule Try.Yok (loc := Try.Y.loc 29) 100 [0, 1, 5, 6, 7, 8, 9] ?_
    refine Eq.mpr (f29_3 (row encG l) l.length s id (s.length + 1) (s.length + 1) (i : Nat) id2 (s.length + 1) (s.length + 1) (k : Nat) h2 _) ?_
    refine if_le (fun hkl => ?_) (fun hkg => ?_)
    · have hkl : k ≤ s.length := by omega
      have off : ∀ j : Nat, 0 + (((j : Nat) : Int)).toNat * 1 = j := fun j => by omega
      have bnd : ∀ j : Nat, j ≤ s.length → (0 : Int) ≤ (j : Nat) ∧ ((j : Nat) : Int) < ((s.length + 1 : Nat) : Int) := fun j hj => ⟨by omega, by omega⟩
      have read1 : ∀ j : Nat, j ≤ s.length → hcells h2 id j 1 = some [.b (tab l s i j)] := fun j hj => by
        simp only [hcells, hg1]
        have := rowK_get (tab l s i) (s.length + 1) (s.length + 1) j (by omega)
        rw [if_pos (by omega)] at this
        exact takeX_one this
      have read2 : ∀ j : Nat, j < k → hcells h2 id2 j 1 = some [.b (tab l s (i + 1) j)] := fun j hj => by
        simp only [hcells, hg2]
        have := rowK_get (tab l s (i + 1)) k (s.length + 1) j (by omega)
        rw [if_pos hj] at this
        exact takeX_one this
      have put : ∀ (b : Bool), b = tab l s (i + 1) k → ∃ h3, hstore h2 id2 k [.b b] = some h3 ∧ RoundW Try.Y 85 [0, 1, 5, 6, 7, 8, 9] [0, 1, 5, 6, 7, 8, 9] (TabN l s i id) (s.length + 1 - k)
          (loopId (post (flat (blockB (post (flat (loopB (post (flat (bodyOf Try.f29)))))))))) ((post (flat (blockB (post (flat (loopB (post (flat (bodyOf Try.f29))))))))).drop 1)
          (VQ [0, 1, 5, 6, 9] (ContW Try.Y 85 [0, 1, 5, 6, 9] (blockId (post (flat (loopB (post (flat (bodyOf Try.f29))))))) ((post (flat (loopB (post (flat (bodyOf Try.f29)))))).drop 1)
            (VQ [0, 1, 5, 6, 9] (RoundW Try.Y 85 [0, 1, 5, 6, 9] [0, 1, 5, 6, 9] (TabO l s) (l.length - i) (loopId (post (flat (bodyOf Try.f29)))) ((post (flat (bodyOf Try.f29))).drop 1) (FinS Try.Y Try.f29 fun v h => ∃ r, Frz h v r ∧ r = .b (M l s))))))
          .normal 85 [lst encG l, .s s, bsl id (s.length + 1), .i .i64 (i : Nat), bsl id2 (s.length + 1), .i .i64 (IntKind.i64.wrap ((k : Nat) + 1)), lst encG l] h3 := by
        intro b hb
        refine ⟨_, hstore_row hg2 (by omega) hb, rfl, s.length + 1 - (k + 1), by omega, k + 1, id2, ?_, by omega, by simpa using hid2, hne, ?_, by simp, rfl⟩
        · rw [wrap_succ (by omega)]; rfl
        · rw [Heap.get_set, if_neg hne]; exact hg1
      have prev : 0 < k → IntKind.i64.wrap (((k : Nat) : Int) - 1) = ((k - 1 : Nat) : Int) := fun h => by rw [wrap_ok (by omega) (by omega)]; omega
      refine ⟨bnd_nat hlt, l[i].k, by rw [Int.toNat_natCast, rc]; rfl, if_mk (fun h2k => ?_) (fun h2k => ?_)⟩
      · have hkd : l[i].k = 2 := by simpa using h2k
        refine ⟨bnd k hkl, rfl, _, by rw [off]; exact read1 k hkl, if_mk (fun hb => ?_) (fun hb => ?_)⟩
        · refine ⟨bnd k hkl, rfl, ?_⟩
          rw [off]
          refine put true ?_
          cases k with
          | zero => rw [tab_many0 hlt hkd, hb]
          | succ k => rw [tab_many hlt hkd (by omega), hb, Bool.true_or]
        · refine if_pos_nat (fun hpos => ?_) (fun hz => ?_)
          · rw [prev hpos]
            refine ⟨bnd (k - 1) (by omega), rfl, _, by rw [off]; exact read2 (k - 1) (by omega), bnd k hkl, rfl, ?_⟩
            rw [off]
            refine put _ ?_
            obtain ⟨k', rfl⟩ : ∃ k', k = k' + 1 := ⟨k - 1, by omega⟩
            rw [tab_many hlt hkd (by omega), hb, Bool.false_or]; rfl
          · refine ⟨bnd k hkl, rfl, ?_⟩
            rw [off]
            refine put _ ?_
            subst hz
            rw [tab_many0 hlt hkd, hb]
      · have hkd : l[i].k ≠ 2 := by simpa using h2k
        refine if_pos_nat (fun hpos => ?_) (fun hz => ?_)
        · rw [prev hpos]
          obtain ⟨k', rfl⟩ : ∃ k', k = k' + 1 := ⟨k - 1, by omega⟩
          have hsk : k' < s.length := by omega
          rw [show k' + 1 - 1 = k' by omega]
          refine ⟨bnd k' (by omega), rfl, _, by rw [off]; exact read1 k' (by omega), if_mk (fun hb => ?_) (fun hb => ?_)⟩
          · refine ⟨bnd_nat hlt, _, _, _, _, _, by rw [Int.toNat_natCast]; exact row_get encG_len hlt, s[k'], ⟨by omega, by simp [hsk]⟩, _, rfits_con l[i] _ (by have := hs.2 _ (List.getElem_mem hlt); omega), bnd (k' + 1) hkl, rfl, ?_⟩
            rw [off]
            refine put _ ?_
            rw [tab_one hlt hkd hsk, hb, Bool.true_and]
          · refine ⟨bnd (k' + 1) hkl, rfl, ?_⟩
            rw [off]
            refine put _ ?_
            rw [tab_one hlt hkd hsk, hb, Bool.false_and]
        · subst hz
          refine ⟨rfl, s.length + 1 - 1, by omega, 1, id2, ?_, by omega, hid2, hne, hg1, ?_, rfl⟩
          · rw [wrap_succ (by omega)]; rfl
          · rw [hg2, rowK_keep _ (tab_one0 hlt hkd)]
    · refine roundW_exit [0, 1, 6, 7, 9] (by kernel_rfl) rfl rfl ?_
      refine all_rule Try.Yok (loc := Try.Y.loc 29) 100 [0, 1, 5, 6, 9] ?_
      refine Eq.mpr (f29_4 (row encG l) l.length s (i : Nat) id2 (s.length + 1) (s.length + 1) h2 _) ?_
      refine ⟨rfl, [0, 1, 5, 6, 9], rfl, ?_⟩
      refine all_rule Try.Yok (loc := Try.Y.loc 29) 100 [0, 1, 5, 6, 9] ?_
      refine Eq.mpr (f29_5 (row encG l) l.length s (i : Nat) id2 (s.length + 1) (s.length + 1) h2 _) ?_
      refine ⟨rfl, l.length - (i + 1), by omega, i + 1, id2, ?_, by omega, hid2, ?_, rfl⟩
      · rw [wrap_succ (by omega)]; rfl
      · rw [hg2, show k = s.length + 1 by omega]
  · refine at_two fun vs2 ht => roundW_exit2 [1, 5] ht (by kernel_rfl) rfl rfl rfl ?_
    refine end_rule Try.Yok (loc := Try.Y.loc 29) 100 [4] ?_
    refine Eq.mpr (f29_6 s id (s.length + 1) (s.length + 1) h _) ?_
    have he : i = l.length := by omega
    subst he
    refine ⟨⟨by omega, by omega⟩, rfl, M l s, ?_, finV1 (.inr rfl) rfl (.b _) rfl⟩
    have := rowK_get (tab l s l.length) (s.length + 1) (s.length + 1) s.length (by omega)
    rw [if_pos (by omega), tab_all] at this
    rw [show 0 + (((s.length : Nat) : Int)).toNat * 1 = s.length by omega]
    simp only [hcells, hg]
    exact takeX_one this
end Go.Y

/- What the pieces of functions come to: printed by program. -/
namespace Go.Y
open Go.Proofs
set_option maxRecDepth 100000
set_option maxHeartbeats 0
theorem f28_0 (cs0 : List V) (n0 : Nat) (cs1 : List V) (n1 : Nat) (h : Heap) (K : Out → Nat → List V → Heap → Prop) : (codeP Try.Y (Try.Y.loc 28) 100 ((flat (bodyOf Try.f28))) ⟨(V.ts cs0 n0 none :: V.ts cs1 n1 none :: List.replicate 6 .undef), [], h⟩ (VQ [4] K)) =
  (Con Try.Y (73 : Nat) [V.ts cs0 n0 none, V.ts cs1 n1 none, V.fn (Fn.func (74 : Nat)) [] []] h fun (v : V) (h' : Heap) =>
  ∃ (b : Bool), v = V.b b ∧ K Out.ret 8 [V.b b] h') := by kernel_rfl
theorem f73_0 (cs0 : List V) (n0 : Nat) (cs1 : List V) (n1 : Nat) (h : Heap) (K : Out → Nat → List V → Heap → Prop) : (codeP Try.Y (Try.Y.loc 73) 100 (pre (flat (bodyOf Try.f73))) ⟨(V.ts cs0 n0 none :: V.ts cs1 n1 none :: V.fn (.func 74) [] [] :: List.replicate 29 .undef), [], h⟩ (VQ [1, 2, 6, 15, 16, 17] K)) =
  (If ((↑n0 : Int) != (↑n1 : Int))
  (K Out.ret 32 [V.ts cs1 n1 none, V.fn (Fn.func 74) [] [], V.b false, V.undef, V.undef, V.undef]
 h)
  (K Out.normal 32
 [V.ts cs1 n1 none, V.fn (Fn.func 74) [] [], V.b false, V.ts cs0 n0 none, V.i IntKind.i64 (↑n0 : Int),
 V.i IntKind.i64 (0 : Int)]
 h)) := by kernel_rfl
theorem f73_1 (cs0 : List V) (n0 : Nat) (cs1 : List V) (n1 : Nat) (x17 : Int) (h : Heap) (K : Out → Nat → List V → Heap → Prop) : (codeP Try.Y (Try.Y.loc 73) 100 ((flat (loopB (post (flat (bodyOf Try.f73)))))) ⟨mk 32 (([1, 2, 15, 16, 17] : List Nat).zip [V.ts cs1 n1 none, V.fn (Fn.func 74) [] [], V.ts cs0 n0 none, V.i IntKind.i64 (↑n0 : Int), V.i IntKind.i64 x17]), [], h⟩ (VQ [1, 2, 6, 15, 16, 17] K)) =
  (If (ltI x17 (↑n0 : Int))
  (((0 : Int) ≤ x17 ∧ x17 < (↑n0 : Int)) ∧
 ∃ (n : Int),
 ∃ (n_1 : Int),
 ∃ (cs : List V),
 ∃ (l : Nat),
 ∃ (c : Option Nat),
 takeX 3 (List.drop (x17.toNat * (3 : Nat)) cs0) =
 some [V.i IntKind.i64 n, V.i IntKind.u8 n_1, V.ts cs l c] ∧
 ((0 : Int) ≤ x17 ∧ x17 < (↑n1 : Int)) ∧
 ∃ (n_2 : Int),
 ∃ (n_3 : Int),
 ∃ (cs_1 : List V),
 ∃ (l_1 : Nat),
 ∃ (c_1 : Option Nat),
 takeX 3 (List.drop (x17.toNat * (3 : Nat)) cs1) =
 some [V.i IntKind.i64 n_2, V.i IntKind.u8 n_3, V.ts cs_1 l_1 c_1] ∧
 ∃ (b : Bool),
 (PCon Try.Y 74
 [V.agg [V.i IntKind.i64 n, V.i IntKind.u8 n_1, V.ts cs l c],
 V.agg [V.i IntKind.i64 n_2, V.i IntKind.u8 n_3, V.ts cs_1 l_1 c_1]]
 fun (v : V) => v = V.b b) ∧
 If (!b)
 (K Out.ret 32
 [V.ts cs1 n1 none, V.fn (Fn.func 74) [] [], V.b false,
 V.ts cs0 n0 none, V.i IntKind.i64 (↑n0 : Int), V.i IntKind.i64 x17]
 h)
 (K Out.normal 32
 [V.ts cs1 n1 none, V.fn (Fn.func 74) [] [], V.undef, V.ts cs0 n0 none,
 V.i IntKind.i64 (↑n0 : Int),
 V.i IntKind.i64 (IntKind.i64.wrap (x17 + (1 : Int)))]
 h))
  (K (Out.exit 0) 32
 [V.ts cs1 n1 none, V.fn (Fn.func 74) [] [], V.undef, V.ts cs0 n0 none, V.i IntKind.i64 (↑n0 : Int),
 V.i IntKind.i64 x17]
 h)) := by kernel_rfl
theorem f73_2  (h : Heap) (K : Out → Nat → List V → Heap → Prop) : (codeP Try.Y (Try.Y.loc 73) 100 (((post (flat (bodyOf Try.f73))).drop 1)) ⟨mk 32 (([] : List Nat).zip []), [], h⟩ (VQ [6] K)) =
  (K Out.ret 32 [V.b true] h) := by kernel_rfl
theorem f74_0 (x0Kind : Int) (x0Byte : Int) (cs0Spans : List V) (n0Spans : Nat) (x1Kind : Int) (x1Byte : Int) (cs1Spans : List V) (n1Spans : Nat) (h : Heap) (K : Out → Nat → List V → Heap → Prop) : (codeP Try.Y (Try.Y.loc 74) 100 ((flat (bodyOf Try.f74))) ⟨(V.agg [V.i IntKind.i64 x0Kind, V.i IntKind.u8 x0Byte, V.ts cs0Spans n0Spans none] :: V.agg [V.i IntKind.i64 x1Kind, V.i IntKind.u8 x1Byte, V.ts cs1Spans n1Spans none] :: List.replicate 22 .undef), [], h⟩ (VQ [4] K)) =
  (If (x0Kind == x1Kind)
  (If (x0Byte == x1Byte)
 (∃ (b : Bool),
 (PCon Try.Y (75 : Nat) [V.ts cs0Spans n0Spans none, V.ts cs1Spans n1Spans none] fun (v : V) => v = V.b b) ∧
 K Out.ret 24 [V.b b] h)
 (K Out.ret 24 [V.b false] h))
  (K Out.ret 24 [V.b false] h)) := by kernel_rfl
theorem f75_0 (cs0 : List V) (n0 : Nat) (cs1 : List V) (n1 : Nat) (h : Heap) (K : Out → Nat → List V → Heap → Prop) : (codeP Try.Y (Try.Y.loc 75) 100 (pre (flat (bodyOf Try.f75))) ⟨(V.ts cs0 n0 none :: V.ts cs1 n1 none :: List.replicate 24 .undef), [], h⟩ (VQ [0, 1, 4, 12, 13] K)) =
  (If ((↑n0 : Int) != (↑n1 : Int))
  (K Out.ret 26 [V.ts cs0 n0 none, V.ts cs1 n1 none, V.b false, V.undef, V.undef] h)
  (K Out.normal 26
 [V.ts cs0 n0 none, V.ts cs1 n1 none, V.b false, V.i IntKind.i64 (↑n0 : Int), V.i IntKind.i64 (0 : Int)] h)) := by kernel_rfl
theorem f75_1 (cs0 : List V) (n0 : Nat) (cs1 : List V) (n1 : Nat) (x13 : Int) (h : Heap) (K : Out → Nat → List V → Heap → Prop) : (codeP Try.Y (Try.Y.loc 75) 100 ((flat (loopB (post (flat (bodyOf Try.f75)))))) ⟨mk 26 (([0, 1, 12, 13] : List Nat).zip [V.ts cs0 n0 none, V.ts cs1 n1 none, V.i IntKind.i64 (↑n0 : Int), V.i IntKind.i64 x13]), [], h⟩ (VQ [0, 1, 4, 12, 13] K)) =
  (If (ltI x13 (↑n0 : Int))
  (((0 : Int) ≤ x13 ∧ x13 < (↑n0 : Int)) ∧
 ∃ (n : Int),
 ∃ (n_1 : Int),
 takeX 2 (List.drop (x13.toNat * (2 : Nat)) cs0) = some [V.i IntKind.u8 n, V.i IntKind.u8 n_1] ∧
 ((0 : Int) ≤ x13 ∧ x13 < (↑n1 : Int)) ∧
 ∃ (n_2 : Int),
 ∃ (n_3 : Int),
 takeX 2 (List.drop (x13.toNat * (2 : Nat)) cs1) =
 some [V.i IntKind.u8 n_2, V.i IntKind.u8 n_3] ∧
 If (!(n == n_2 && (n_1 == n_3 && true)))
 (K Out.ret 26
 [V.ts cs0 n0 none, V.ts cs1 n1 none, V.b false, V.i IntKind.i64 (↑n0 : Int), V.i IntKind.i64 x13]
 h)
 (K Out.normal 26
 [V.ts cs0 n0 none, V.ts cs1 n1 none, V.undef, V.i IntKind.i64 (↑n0 : Int),
 V.i IntKind.i64 (IntKind.i64.wrap (x13 + (1 : Int)))]
 h))
  (K (Out.exit 0) 26
 [V.ts cs0 n0 none, V.ts cs1 n1 none, V.undef, V.i IntKind.i64 (↑n0 : Int), V.i IntKind.i64 x13] h)) := by kernel_rfl
theorem f75_2  (h : Heap) (K : Out → Nat → List V → Heap → Prop) : (codeP Try.Y (Try.Y.loc 75) 100 (((post (flat (bodyOf Try.f75))).drop 1)) ⟨mk 26 (([] : List Nat).zip []), [], h⟩ (VQ [4] K)) =
  (K Out.ret 26 [V.b true] h) := by kernel_rfl
theorem f7_0 (cs0 : List V) (n0 : Nat) (cs1 : List V) (n1 : Nat) (s2 : List UInt8) (h : Heap) (K : Out → Nat → List V → Heap → Prop) : (codeP Try.Y (Try.Y.loc 7) 100 ((flat (bodyOf Try.f7))) ⟨(V.ts cs0 n0 none :: V.ts cs1 n1 none :: V.s s2 :: List.replicate 44 .undef), [], h⟩ (VQ [6] K)) =
  (∃ (b : Bool),
  (PCon Try.Y (12 : Nat) [] fun (v : V) => v = V.b b) ∧
 If (!b) (K Out.ret 47 [V.b false] h)
 (∃ (b : Bool),
 (PCon Try.Y (16 : Nat) [V.ts cs0 n0 none] fun (v : V) => v = V.b b) ∧
 If (!b) (K Out.ret 47 [V.b true] h)
 (∃ (b : Bool),
 (PCon Try.Y (16 : Nat) [V.ts cs1 n1 none] fun (v : V) => v = V.b b) ∧
 If (!b) (K Out.ret 47 [V.b true] h)
 (If (ltI (60 : Int) (↑s2.length : Int)) (K Out.ret 47 [V.b true] h)
 (∃ (b : Bool),
 (PCon Try.Y (18 : Nat) [V.ts cs0 n0 none, V.s s2] fun (v : V) => v = V.b b) ∧
 ∃ (b_1 : Bool),
 (PCon Try.Y (29 : Nat) [V.ts cs0 n0 none, V.s s2] fun (v : V) => v = V.b b_1) ∧
 If (b == b_1)
 (∃ (b : Bool),
 (PCon Try.Y (18 : Nat) [V.ts cs1 n1 none, V.s s2] fun (v : V) => v = V.b b) ∧
 ∃ (b_2 : Bool),
 (PCon Try.Y (29 : Nat) [V.ts cs1 n1 none, V.s s2] fun (v : V) => v = V.b b_2) ∧
 If (b == b_2)
 (∃ (b : Bool),
 (PCon Try.Y (28 : Nat) [V.ts cs0 n0 none, V.ts cs1 n1 none] fun (v : V) =>
 v = V.b b) ∧
 ∃ (b_3 : Bool),
 (PCon Try.Y (15 : Nat) [V.ts cs0 n0 none, V.ts cs1 n1 none] fun (v : V) =>
 v = V.b b_3) ∧
 K Out.ret 47 [V.b (b == b_3)] h)
 (K Out.ret 47 [V.b false] h))
 (K Out.ret 47 [V.b false] h)))))) := by kernel_rfl
end Go.Y

/- GlobMatches, as a call of the abstract machine. -/
namespace Go.Y
open Go.Proofs
set_option maxRecDepth 100000

theorem neq_len {α β : Type} {a : List α} {b : List β} (h : (((a.length : Nat) : Int) != ((b.length : Nat) : Int)) = false) : a.length = b.length := by
  simp at h; omega

theorem spans_eq (a b : List Span) (ha : a.length < 2 ^ 30) : PCon Try.Y 75 [lst encS a, lst encS b] (· = .b (decide (a = b))) := by
  refine pcon_of Try.Yok (fn := Try.f75) (by kernel_rfl) (by kernel_rfl) rfl ?_
  refine pre_rule Try.Yok (n := 26) (loc := Try.Y.loc 75) 100 [0, 1, 4, 12, 13] (by kernel_rfl) ?_
  refine Eq.mpr (f75_0 (row encS a) a.length (row encS b) b.length .empty _) ?_
  have no : ∀ (vs : List V) (h : Heap), a ≠ b → resV Try.Y Try.f75 ([0, 1, 4, 12, 13].zip vs) = some (.b false) → AtV [0, 1, 4, 12, 13] (FinS Try.Y Try.f75 fun v h => ∃ r, Frz h v r ∧ r = .b (decide (a = b))) .ret 26 vs h := fun vs h hne hv =>
    fin_at (.inr rfl) hv ⟨_, .b _, by simp [hne]⟩
  refine if_mk (fun hc => no _ _ (fun e => by subst e; simp at hc) rfl) (fun hc => ?_)
  have hlen := neq_len hc
  refine ⟨rfl, loop2 [0, 1, 12, 13] [0, 1, 4, 12, 13] rfl (by kernel_rfl) (fun m vs _ => ∃ i : Nat, vs = [lst encS a, lst encS b, .i .i64 a.length, .i .i64 (i : Nat)] ∧ i ≤ a.length ∧ m = a.length - i ∧ a.take i = b.take i) a.length mk_len ⟨0, rfl, by omega, by omega, rfl⟩ ?_⟩
  rintro m vs h ⟨i, rfl, hi, rfl, hp⟩
  refine all_rule Try.Yok (loc := Try.Y.loc 75) 100 [0, 1, 4, 12, 13] ?_
  refine Eq.mpr (f75_1 (row encS a) a.length (row encS b) b.length (i : Nat) h _) ?_
  refine if_lt_nat (fun hlt => ?_) (fun hge => ?_)
  · have hlt' : i < b.length := by omega
    rw [Int.toNat_natCast]
    refine ⟨bnd_nat hlt, _, _, row_get encS_len hlt, bnd_nat hlt', _, _, row_get encS_len hlt', if_mk (fun hd => ?_) (fun hd => ?_)⟩
    · refine no _ _ (fun e => ?_) rfl
      have : a[i] = b[i] := by simp only [e]
      rw [this] at hd; simp at hd
    · have he : a[i] = b[i] := by
        simp only [Bool.and_true, Bool.not_eq_false', Bool.and_eq_true, beq_iff_eq] at hd
        cases h1 : a[i]; cases h2 : b[i]
        rw [h1, h2] at hd
        simp only at hd
        rw [hd.1, hd.2]
      refine ⟨rfl, a.length - (i + 1), by omega, i + 1, ?_, by omega, rfl, take_more hp hlt hlt' he⟩
      rw [wrap_succ (by omega)]; rfl
  · refine roundW_exit [] (by kernel_rfl) rfl rfl ?_
    refine end_rule Try.Yok (loc := Try.Y.loc 75) 100 [4] ?_
    refine Eq.mpr (f75_2 h _) ?_
    exact finV1 (.inr rfl) rfl (.b _) (by simp [take_same hp hge (by omega)])

theorem gsame1_con (x y : Glob) (hx : x.sp.length < 2 ^ 30) : PCon Try.Y 74 [.agg (encG x), .agg (encG y)] (· = .b (decide (x = y))) := by
  refine pcon_of Try.Yok (fn := Try.f74) (by kernel_rfl) (by kernel_rfl) rfl (end_rule Try.Yok (loc := Try.Y.loc 74) 100 [4] ?_)
  refine Eq.mpr (f74_0 x.k x.b (row encS x.sp) x.sp.length y.k y.b (row encS y.sp) y.sp.length _ _) ?_
  refine if_mk (fun hk => if_mk (fun hb => ⟨_, spans_eq x.sp y.sp hx, finV1 (.inr rfl) rfl (.b _) ?_⟩) (fun hb => finV1 (.inr rfl) rfl (.b _) ?_)) (fun hk => finV1 (.inr rfl) rfl (.b _) ?_)
  · have hk : x.k = y.k := by simpa using hk
    have hb : x.b = y.b := by simpa using hb
    cases x; cases y; simp_all [V.plain]
  · have : x ≠ y := fun e => by subst e; simp at hb
    simp [this]
  · have : x ≠ y := fun e => by subst e; simp at hk
    simp [this]

theorem gequal_con (a b : List Glob) (h : Heap) (ha : okG a) : Con Try.Y 73 [lst encG a, lst encG b, .fn (.func 74) [] []] h fun v h' => v = .b (decide (a = b)) ∧ h' = h := by
  have hl := ha.1
  refine conz_of Try.Yok (fn := Try.f73) (by kernel_rfl) (by kernel_rfl) ?_
  refine pre_rule Try.Yok (n := 32) (loc := Try.Y.loc 73) 100 [1, 2, 6, 15, 16, 17] (by kernel_rfl) ?_
  refine Eq.mpr (f73_0 (row encG a) a.length (row encG b) b.length h _) ?_
  have no : ∀ (vs : List V), a ≠ b → resV Try.Y Try.f73 ([1, 2, 6, 15, 16, 17].zip vs) = some (.b false) → AtV [1, 2, 6, 15, 16, 17] (FinS Try.Y Try.f73 (AfterZ fun v h' => v = .b (decide (a = b)) ∧ h' = h)) .ret 32 vs h := fun vs hne hv =>
    fin_at (.inr rfl) hv (.now ⟨by simp [hne], rfl⟩)
  refine if_mk (fun hc => no _ (fun e => by subst e; simp at hc) rfl) (fun hc => ?_)
  have hlen := neq_len hc
  refine ⟨rfl, loop2 [1, 2, 15, 16, 17] [1, 2, 6, 15, 16, 17] rfl (by kernel_rfl) (fun m vs h' => ∃ i : Nat, vs = [lst encG b, .fn (.func 74) [] [], lst encG a, .i .i64 a.length, .i .i64 (i : Nat)] ∧ i ≤ a.length ∧ m = a.length - i ∧ a.take i = b.take i ∧ h' = h) a.length mk_len ⟨0, rfl, by omega, by omega, rfl, rfl⟩ ?_⟩
  rintro m vs h' ⟨i, rfl, hi, rfl, hp, rfl⟩
  refine all_rule Try.Yok (loc := Try.Y.loc 73) 100 [1, 2, 6, 15, 16, 17] ?_
  refine Eq.mpr (f73_1 (row encG a) a.length (row encG b) b.length (i : Nat) h' _) ?_
  refine if_lt_nat (fun hlt => ?_) (fun hge => ?_)
  · have hlt' : i < b.length := by omega
    rw [Int.toNat_natCast]
    refine ⟨bnd_nat hlt, _, _, _, _, _, row_get encG_len hlt, bnd_nat hlt', _, _, _, _, _, row_get encG_len hlt', _, gsame1_con a[i] b[i] (by have := ha.2 _ (List.getElem_mem hlt); omega), if_mk (fun hd => ?_) (fun hd => ?_)⟩
    · refine no _ (fun e => ?_) rfl
      have : a[i] = b[i] := by simp only [e]
      rw [this] at hd; simp at hd
    · have he : a[i] = b[i] := by simpa using hd
      refine ⟨rfl, a.length - (i + 1), by omega, i + 1, ?_, by omega, rfl, take_more hp hlt hlt' he, rfl⟩
      rw [wrap_succ (by omega)]; rfl
  · refine roundW_exit [] (by kernel_rfl) rfl rfl ?_
    refine end_rule Try.Yok (loc := Try.Y.loc 73) 100 [6] ?_
    refine Eq.mpr (f73_2 h' _) ?_
    exact finC (.inr rfl) rfl (.now ⟨by simp [take_same hp hge (by omega)]; rfl, rfl⟩)

theorem gsame_con (a b : List Glob) (ha : okG a) : PCon Try.Y 28 [lst encG a, lst encG b] (· = .b (decide (a = b))) := by
  refine pcon_of Try.Yok (fn := Try.f28) (by kernel_rfl) (by kernel_rfl) rfl (end_rule Try.Yok (loc := Try.Y.loc 28) 100 [4] ?_)
  refine Eq.mpr (f28_0 (row encG a) a.length (row encG b) b.length _ _) ?_
  refine (gequal_con a b _ ha).mono fun v h' ⟨e1, e2⟩ => ⟨_, e1, ?_⟩
  subst e2
  exact finV1 (.inr rfl) rfl (.b _) rfl

theorem globMatches_con (l o : List Glob) (s : List UInt8) : PCon Try.Y 7 [lst encG l, lst encG o, .s s] (· = .b true) := by
  refine pcon_of Try.Yok (fn := Try.f7) (by kernel_rfl) (by kernel_rfl) rfl (end_rule Try.Yok (loc := Try.Y.loc 7) 100 [6] ?_)
  refine Eq.mpr (f7_0 (row encG l) l.length (row encG o) o.length s _ _) ?_
  have yes : ∀ b : Bool, b = true → Fin Try.Y Try.f7 [6] (fun v h => ∃ r, Frz h v r ∧ r = .b true) .ret 47 [.b b] .empty := fun b hb => finV1 (.inr rfl) rfl (.b _) (by rw [hb])
  refine ⟨true, awake03, if_mk (fun h => by cases h) (fun _ => ⟨_, small_con l, if_mk (fun _ => yes _ rfl) (fun h1 => ⟨_, small_con o, if_mk (fun _ => yes _ rfl) (fun h2 => if_lt (fun _ => yes _ rfl) (fun h3 => ?_))⟩)⟩)⟩
  have ol := small_ok (show smallS l = true by simpa using h1)
  have oo := small_ok (show smallS o = true by simpa using h2)
  have hsl : s.length < 2 ^ 28 := by omega
  refine ⟨_, match_con l s ol hsl, _, rmatch_con l s ol hsl, if_mk (fun _ => ?_) (fun h => by simp at h)⟩
  refine ⟨_, match_con o s oo hsl, _, rmatch_con o s oo hsl, if_mk (fun _ => ?_) (fun h => by simp at h)⟩
  exact ⟨_, gsame_con l o ol, _, rsame_con l o (by have := ol.1; omega) (fun x hx => by have := ol.2 x hx; omega), yes _ (by simp)⟩
end Go.Y
