/- souffleurref03.Match, by its contract. -/
import Derived.Test.YtpddiafjmkjpmaaGGreedy
namespace Go.Y
open Go.Proofs
set_option maxRecDepth 100000

/-- A row of bools: the first k are known. -/
def rowK (f : Nat → Bool) (k n : Nat) : List V := (List.range n).map fun j => V.b (if j < k then f j else false)
theorem rowK_get (f : Nat → Bool) (k n j : Nat) (hj : j < n) : (rowK f k n)[j]? = some (.b (if j < k then f j else false)) := by simp [rowK, hj]
theorem rowK_length (f : Nat → Bool) (k n : Nat) : (rowK f k n).length = n := by simp [rowK]
theorem takeX_one {cs : List V} {j : Nat} {v : V} (h : cs[j]? = some v) : takeX 1 (cs.drop j) = some [v] := by
  have hj := (List.getElem?_eq_some_iff.1 h).1
  rw [List.drop_eq_getElem_cons hj]
  have : cs[j] = v := (List.getElem?_eq_some_iff.1 h).2
  simp [takeX, this]

theorem rowK_put (f : Nat → Bool) {k n : Nat} (hk : k < n) {b : Bool} (hb : b = f k) : splice (rowK f k n) k [.b b] = rowK f (k + 1) n := by
  apply List.ext_getElem?
  intro j
  rw [splice_get _ _ _ _ (by rw [rowK_length]; simp; omega)]
  by_cases hj : j < n
  · rw [rowK_get f k n j hj, rowK_get f (k + 1) n j hj]
    by_cases hjk : j = k
    · subst hjk
      simp [hb]
    · rw [if_neg (by simp; omega)]
      by_cases h1 : j < k
      · rw [if_pos h1, if_pos (by omega)]
      · rw [if_neg h1, if_neg (by omega)]
  · have e1 : (rowK f k n)[j]? = none := List.getElem?_eq_none (by rw [rowK_length]; omega)
    have e2 : (rowK f (k + 1) n)[j]? = none := List.getElem?_eq_none (by rw [rowK_length]; omega)
    rw [e1, e2, if_neg (by simp; omega)]
theorem rowK_keep (f : Nat → Bool) {k n : Nat} (hf : f k = false) : rowK f k n = rowK f (k + 1) n := by
  unfold rowK
  apply List.map_congr_left
  intro j _
  by_cases hj : j = k
  · subst hj; simp [hf]
  · by_cases h1 : j < k
    · rw [if_pos h1, if_pos (by omega)]
    · rw [if_neg h1, if_neg (by omega)]
theorem rowK_zero (f : Nat → Bool) (n : Nat) : (List.replicate n [V.b false]).flatten = rowK f 0 n := by
  apply List.ext_getElem?
  intro j
  by_cases hj : j < n
  · rw [rowK_get f 0 n j hj]
    have : (List.replicate n [V.b false]).flatten = List.replicate n (V.b false) := by
      induction n with
      | zero => rfl
      | succ n ih => rw [List.replicate_succ, List.flatten_cons]; simp [List.replicate_succ]
    rw [this]; simp [hj]
  · rw [List.getElem?_eq_none (by simp; omega), List.getElem?_eq_none (by rw [rowK_length]; omega)]

theorem hstore_row {h : Heap} {id : Nat} {f : Nat → Bool} {k n : Nat} (hg : h.get id = some (.arr (rowK f k n) true)) (hk : k < n) {b : Bool} (hb : b = f k) :
    hstore h id k [.b b] = some (h.set id (some (.arr (rowK f (k + 1) n) true))) := by
  simp only [hstore, hg]
  rw [if_pos (by rw [rowK_length]; simp; omega), rowK_put f hk hb]

abbrev bsl (id n : Nat) : V := .sl (some (id, 0)) n (some n) 1

def TabO (l : List Glob) (s : List UInt8) (m : Nat) (vs : List V) (h : Heap) : Prop :=
  ∃ (i id : Nat), vs = [lst encG l, .s s, bsl id (s.length + 1), .i .i64 (i : Nat), lst encG l] ∧ i ≤ l.length ∧ id < h.nx ∧ h.get id = some (.arr (rowK (tab l s i) (s.length + 1) (s.length + 1)) true) ∧ m = l.length - i
def TabN (l : List Glob) (s : List UInt8) (i id : Nat) (m : Nat) (vs : List V) (h : Heap) : Prop :=
  ∃ (k id2 : Nat), vs = [lst encG l, .s s, bsl id (s.length + 1), .i .i64 (i : Nat), bsl id2 (s.length + 1), .i .i64 (k : Nat), lst encG l] ∧ k ≤ s.length + 1 ∧ id2 < h.nx ∧ id ≠ id2 ∧
    h.get id = some (.arr (rowK (tab l s i) (s.length + 1) (s.length + 1)) true) ∧ h.get id2 = some (.arr (rowK (tab l s (i + 1)) k (s.length + 1)) true) ∧ m = s.length + 1 - k

theorem rmatch_con (l : List Glob) (s : List UInt8) (hs : okG l) (hsl : s.length < 2 ^ 28) : PCon Try.Y 29 [lst encG l, .s s] (· = .b (mayS l && M l s)) := by
  have hl := hs.1
  have hmost : ((most : Nat) : Int) = 1099511627776 := by decide
  have hw : IntKind.i64.wrap ((s.length : Int) + 1) = ((s.length + 1 : Nat) : Int) := wrap_succ (by omega)
  have alloc : (0 : Int) ≤ ((s.length + 1 : Nat) : Int) ∧ ((s.length + 1 : Nat) : Int) ≤ ((s.length + 1 : Nat) : Int) ∧ ((s.length + 1 : Nat) : Int) ≤ ((most : Nat) : Int) ∧ ((s.length + 1 : Nat) : Int) * ((1 : Nat) : Int) ≤ ((most : Nat) : Int) := by
    rw [hmost]; refine ⟨by omega, by omega, by omega, by omega⟩
  refine pcon_of Try.Yok (fn := Try.f29) (by kernel_rfl) (by kernel_rfl) rfl ?_
  refine pre_rule Try.Yok (n := 85) (loc := Try.Y.loc 29) 100 [0, 1, 4, 5, 6, 9] (by kernel_rfl) ?_
  refine Eq.mpr (f29_0 (row encG l) l.length s .empty _) ?_
  rw [hw, Int.toNat_natCast]
  refine ⟨_, rmay_con l hs, if_mk (fun hm => fin_at (.inr rfl) rfl ⟨_, .b _, ?_⟩) (fun hm => ?_)⟩
  · have : mayS l = false := by simpa using hm
    rw [this]; rfl
  have hmay : mayS l = true := by simpa using hm
  rw [hmay, Bool.true_and]
  have hz : (List.replicate (s.length + 1) [V.b false]).flatten = rowK (tab l s 0) 0 (s.length + 1) := rowK_zero _ _
  have hz0 : tab l s 0 0 = true := by rw [tab_00 l s 0 (by omega)]; rfl
  have h1 := hstore_row (h := Heap.empty.push (.arr (rowK (tab l s 0) 0 (s.length + 1)) true)) (id := Heap.empty.nx) (f := tab l s 0) (k := 0) (n := s.length + 1) (by simp) (by omega) (b := true) hz0.symm
  have hall : rowK (tab l s 0) 1 (s.length + 1) = rowK (tab l s 0) (s.length + 1) (s.length + 1) := by
    unfold rowK
    apply List.map_congr_left
    intro j hj
    have hj := List.mem_range.1 hj
    rw [if_pos hj]
    by_cases h0 : j < 1
    · rw [if_pos h0]
    · rw [if_neg h0, tab_00 l s j (by omega)]; simp; omega
  refine ⟨alloc, ⟨by omega, by omega⟩, rfl, _, by rw [hz]; exact h1, rfl, ?_⟩
  refine loop2 [0, 1, 5, 6, 9] [0, 1, 5, 6, 9] rfl (by kernel_rfl) (TabO l s) l.length mk_len ⟨0, _, rfl, by omega, ?_, ?_, by omega⟩ ?_
  · simp
  · rw [← hall]; simp
  rintro m vs h ⟨i, id, rfl, hi, hid, hg, rfl⟩
  refine pre_rule Try.Yok (n := 85) (loc := Try.Y.loc 29) 100 [0, 1, 5, 6, 9] (by kernel_rfl) ?_
  refine Eq.mpr (f29_1 (row encG l) l.length s id (s.length + 1) (s.length + 1) (i : Nat) h _) ?_
  refine if_lt_nat (fun hlt => ?_) (fun hge => ?_)
  · refine ⟨rfl, block2 (n := 85) [0, 1, 5, 6, 9] (by kernel_rfl) ?_⟩
    refine pre_rule Try.Yok (n := 85) (loc := Try.Y.loc 29) 100 [0, 1, 5, 6, 7, 8, 9] (by kernel_rfl) ?_
    refine Eq.mpr (f29_2 (row encG l) l.length s id (s.length + 1) (s.length + 1) (i : Nat) h _) ?_
    rw [hw, Int.toNat_natCast]
    refine ⟨alloc, rfl, ?_⟩
    refine loop2 [0, 1, 5, 6, 7, 8, 9] [0, 1, 5, 6, 7, 8, 9] rfl (by kernel_rfl) (TabN l s i id) (s.length + 1) mk_len ⟨0, h.nx, rfl, by omega, by simp, by omega, ?_, ?_, by omega⟩ ?_
    · show (h.push _).get id = _
      rw [Heap.get_push, if_neg (by omega)]; exact hg
    · show (h.push _).get h.nx = _
      rw [Heap.get_push, if_pos rfl, rowK_zero]
    have rc := row_cons encG_len l hlt
    rintro m vs h2 ⟨k, id2, rfl, hk, hid2, hne, hg1, hg2, rfl⟩
    refine all_rule Try.Yok (loc := Try.Y.loc 29) 100 [0, 1, 5, 6, 7, 8, 9] ?_
    refine Eq.mpr (f29_3 (row encG l) l.length s id (s.length + 1) (s.length + 1) (i : Nat) id2 (s.length + 1) (s.length + 1) (k : Nat) h2 _) ?_
    refine if_le (fun hkl => ?_) (fun hkg => ?_)
    · have hkl : k ≤ s.length := by omega
      have off : ∀ j : Nat, 0 + (((j : Nat) : Int)).toNat * 1 = j := fun j => by omega
      have bnd : ∀ j : Nat, j ≤ s.length → (0 : Int) ≤ (j : Nat) ∧ ((j : Nat) : Int) < ((s.length + 1 : Nat) : Int) := fun j hj => ⟨by omega, by omega⟩
      have read1 : ∀ j : Nat, j ≤ s.length → hcells h2 id j 1 = some [.b (tab l s i j)] := fun j hj => by
        simp only [hcells, hg1]
        have := rowK_get (tab l s i) (s.length + 1) (s.length + 1) j (by omega)
        rw [if_pos (by omega)] at this
        exact takeX_one this
      have read2 : ∀ j : Nat, j < k → hcells h2 id2 j 1 = some [.b (tab l s (i + 1) j)] := fun j hj => by
        simp only [hcells, hg2]
        have := rowK_get (tab l s (i + 1)) k (s.length + 1) j (by omega)
        rw [if_pos hj] at this
        exact takeX_one this
      have put : ∀ (b : Bool), b = tab l s (i + 1) k → ∃ h3, hstore h2 id2 k [.b b] = some h3 ∧ RoundW Try.Y 85 [0, 1, 5, 6, 7, 8, 9] [0, 1, 5, 6, 7, 8, 9] (TabN l s i id) (s.length + 1 - k)
          (loopId (post (flat (blockB (post (flat (loopB (post (flat (bodyOf Try.f29)))))))))) ((post (flat (blockB (post (flat (loopB (post (flat (bodyOf Try.f29))))))))).drop 1)
          (VQ [0, 1, 5, 6, 9] (ContW Try.Y 85 [0, 1, 5, 6, 9] (blockId (post (flat (loopB (post (flat (bodyOf Try.f29))))))) ((post (flat (loopB (post (flat (bodyOf Try.f29)))))).drop 1)
            (VQ [0, 1, 5, 6, 9] (RoundW Try.Y 85 [0, 1, 5, 6, 9] [0, 1, 5, 6, 9] (TabO l s) (l.length - i) (loopId (post (flat (bodyOf Try.f29)))) ((post (flat (bodyOf Try.f29))).drop 1) (FinS Try.Y Try.f29 fun v h => ∃ r, Frz h v r ∧ r = .b (M l s))))))
          .normal 85 [lst encG l, .s s, bsl id (s.length + 1), .i .i64 (i : Nat), bsl id2 (s.length + 1), .i .i64 (IntKind.i64.wrap ((k : Nat) + 1)), lst encG l] h3 := by
        intro b hb
        refine ⟨_, hstore_row hg2 (by omega) hb, rfl, s.length + 1 - (k + 1), by omega, k + 1, id2, ?_, by omega, by simpa using hid2, hne, ?_, by simp, rfl⟩
        · rw [wrap_succ (by omega)]; rfl
        · rw [Heap.get_set, if_neg hne]; exact hg1
      have prev : 0 < k → IntKind.i64.wrap (((k : Nat) : Int) - 1) = ((k - 1 : Nat) : Int) := fun h => by rw [wrap_ok (by omega) (by omega)]; omega
      refine ⟨bnd_nat hlt, l[i].k, by rw [Int.toNat_natCast, rc]; rfl, if_mk (fun h2k => ?_) (fun h2k => ?_)⟩
      · have hkd : l[i].k = 2 := by simpa using h2k
        refine ⟨bnd k hkl, rfl, _, by rw [off]; exact read1 k hkl, if_mk (fun hb => ?_) (fun hb => ?_)⟩
        · refine ⟨bnd k hkl, rfl, ?_⟩
          rw [off]
          refine put true ?_
          cases k with
          | zero => rw [tab_many0 hlt hkd, hb]
          | succ k => rw [tab_many hlt hkd (by omega), hb, Bool.true_or]
        · refine if_pos_nat (fun hpos => ?_) (fun hz => ?_)
          · rw [prev hpos]
            refine ⟨bnd (k - 1) (by omega), rfl, _, by rw [off]; exact read2 (k - 1) (by omega), bnd k hkl, rfl, ?_⟩
            rw [off]
            refine put _ ?_
            obtain ⟨k', rfl⟩ : ∃ k', k = k' + 1 := ⟨k - 1, by omega⟩
            rw [tab_many hlt hkd (by omega), hb, Bool.false_or]; rfl
          · refine ⟨bnd k hkl, rfl, ?_⟩
            rw [off]
            refine put _ ?_
            subst hz
            rw [tab_many0 hlt hkd, hb]
      · have hkd : l[i].k ≠ 2 := by simpa using h2k
        refine if_pos_nat (fun hpos => ?_) (fun hz => ?_)
        · rw [prev hpos]
          obtain ⟨k', rfl⟩ : ∃ k', k = k' + 1 := ⟨k - 1, by omega⟩
          have hsk : k' < s.length := by omega
          rw [show k' + 1 - 1 = k' by omega]
          refine ⟨bnd k' (by omega), rfl, _, by rw [off]; exact read1 k' (by omega), if_mk (fun hb => ?_) (fun hb => ?_)⟩
          · refine ⟨bnd_nat hlt, _, _, _, _, _, by rw [Int.toNat_natCast]; exact row_get encG_len hlt, s[k'], ⟨by omega, by simp [hsk]⟩, _, rfits_con l[i] _ (by have := hs.2 _ (List.getElem_mem hlt); omega), bnd (k' + 1) hkl, rfl, ?_⟩
            rw [off]
            refine put _ ?_
            rw [tab_one hlt hkd hsk, hb, Bool.true_and]
          · refine ⟨bnd (k' + 1) hkl, rfl, ?_⟩
            rw [off]
            refine put _ ?_
            rw [tab_one hlt hkd hsk, hb, Bool.false_and]
        · subst hz
          refine ⟨rfl, s.length + 1 - 1, by omega, 1, id2, ?_, by omega, hid2, hne, hg1, ?_, rfl⟩
          · rw [wrap_succ (by omega)]; rfl
          · rw [hg2, rowK_keep _ (tab_one0 hlt hkd)]
    · refine roundW_exit [0, 1, 6, 7, 9] (by kernel_rfl) rfl rfl ?_
      refine all_rule Try.Yok (loc := Try.Y.loc 29) 100 [0, 1, 5, 6, 9] ?_
      refine Eq.mpr (f29_4 (row encG l) l.length s (i : Nat) id2 (s.length + 1) (s.length + 1) h2 _) ?_
      refine ⟨rfl, [0, 1, 5, 6, 9], rfl, ?_⟩
      refine all_rule Try.Yok (loc := Try.Y.loc 29) 100 [0, 1, 5, 6, 9] ?_
      refine Eq.mpr (f29_5 (row encG l) l.length s (i : Nat) id2 (s.length + 1) (s.length + 1) h2 _) ?_
      refine ⟨rfl, l.length - (i + 1), by omega, i + 1, id2, ?_, by omega, hid2, ?_, rfl⟩
      · rw [wrap_succ (by omega)]; rfl
      · rw [hg2, show k = s.length + 1 by omega]
  · refine at_two fun vs2 ht => roundW_exit2 [1, 5] ht (by kernel_rfl) rfl rfl rfl ?_
    refine end_rule Try.Yok (loc := Try.Y.loc 29) 100 [4] ?_
    refine Eq.mpr (f29_6 s id (s.length + 1) (s.length + 1) h _) ?_
    have he : i = l.length := by omega
    subst he
    refine ⟨⟨by omega, by omega⟩, rfl, M l s, ?_, finV1 (.inr rfl) rfl (.b _) rfl⟩
    have := rowK_get (tab l s l.length) (s.length + 1) (s.length + 1) s.length (by omega)
    rw [if_pos (by omega), tab_all] at this
    rw [show 0 + (((s.length : Nat) : Int)).toNat * 1 = s.length by omega]
    simp only [hcells, hg]
    exact takeX_one this
end Go.Y
