/- Traces as lines: the document's, by contracts. -/
import Derived.Test.YtfnpgefoikffdaaDoorGTell2
namespace Go.Y
open Go.Proofs Go.Lib
set_option maxRecDepth 100000
set_option linter.unusedVariables false
set_option linter.unusedSimpArgs false

theorem rmayT_con (t : Trc) (hl : t.cs.length < 2 ^ 20) : PCon Tryd.Y 38 [.agg (trC t)] (· = .b (mayT t)) := by
  refine pcon_of Tryd.Yok (fn := Tryd.f38) (by kernel_rfl) (by kernel_rfl) rfl ?_
  refine pre_rule Tryd.Yok (n := 64) (loc := Tryd.Y.loc 38) 100 [1, 3, 12, 17] (by kernel_rfl) ?_
  refine Eq.mpr (f38_0 t.k t.n (row encCh t.cs) t.cs.length .empty _) ?_
  refine ⟨rfl, loop2 [1, 3, 12, 17] [1, 2, 3, 8, 12, 17] rfl (by kernel_rfl) (fun m vs _ => ∃ (i : Nat) (v w : V), vs = [.lb (trC t), .i .i64 (i : Nat), v, w] ∧ i ≤ t.cs.length ∧ m = t.cs.length - i ∧ (t.cs.take i).all oneS = true) t.cs.length mk_len ⟨0, _, _, rfl, by omega, by omega, by simp⟩ ?_⟩
  rintro m vs h ⟨i, v, w, rfl, hi, rfl, hp⟩
  refine all_rule Tryd.Yok (loc := Tryd.Y.loc 38) 100 [1, 2, 3, 8, 12, 17] ?_
  refine Eq.mpr (f38_1 t.k t.n (row encCh t.cs) t.cs.length (i : Nat) v w h _) ?_
  refine if_lt_nat (fun hlt => ?_) (fun hge => ?_)
  · refine ⟨bnd_nat hlt, _, _, _, getCh t.cs hlt, _, rone_con t.cs[i], if_mk (fun hc => ?_) (fun hc => ?_)⟩
    · have hc : oneS t.cs[i] = false := by simpa using hc
      have := all_no (p := oneS) hlt hc
      exact fin_at (.inr rfl) rfl ⟨_, .b _, by simp [mayT, this]⟩
    · have hc : oneS t.cs[i] = true := by simpa using hc
      exact ⟨rfl, t.cs.length - (i + 1), by omega, i + 1, _, _, by rw [wrap_succ (by omega)]; rfl, by omega, rfl, all_snoc hlt hp hc⟩
  · refine roundW_exit [1, 3, 8, 12, 17] (by kernel_rfl) rfl rfl ?_
    refine end_rule Tryd.Yok (loc := Tryd.Y.loc 38) 100 [2] ?_
    refine Eq.mpr (f38_2 t.k t.n (row encCh t.cs) t.cs.length (i : Nat) v w h _) ?_
    rw [List.take_of_length_le hge] at hp
    have h4 : leI (t.cs.length : Nat) 4000 = decide (t.cs.length ≤ 4000) := leI_nat t.cs.length 4000
    have hm : mayT t = (headB t.k t.n && leI (t.cs.length : Nat) 4000) := by rw [h4, mayT, hp, Bool.and_true]
    rw [hm]
    repeat' first
      | exact finV1 (.inr rfl) rfl (.b _) (by simp_all [headB, upTo])
      | refine if_mk (fun _ => ?_) (fun _ => ?_)

def REncI (t : Trc) (m : Nat) (vs : List V) (h : Heap) : Prop :=
  ∃ (i : Nat) (done : List UInt8), vs = [.lb (trC t), .s done, .i .i64 (i : Nat)] ∧ i ≤ t.cs.length ∧ m = t.cs.length - i ∧ done ++ encL (t.cs.drop i) = encT' t
def REncJ (t : Trc) (i : Nat) (hi : i < t.cs.length) (done : List UInt8) (m : Nat) (vs : List V) (h : Heap) : Prop :=
  ∃ n : Nat, vs = [.lb (trC t), .s done, .i .i64 (i : Nat), .i .i64 (i + n : Nat)] ∧ i + n ≤ t.cs.length ∧ m = t.cs.length - (i + n) ∧ ((t.cs.drop i).take n).all (eqC · t.cs[i]) = true

theorem rtenc_con {t : Trc} (ht : okTr t) (hm : mayT t = true) : PCon Tryd.Y 39 [.agg (trC t)] (· = .s (encT' t)) := by
  refine pcon_of Tryd.Yok (fn := Tryd.f39) (by kernel_rfl) (by kernel_rfl) rfl ?_
  refine pre_rule Tryd.Yok (n := 55) (loc := Tryd.Y.loc 39) 100 [1, 3, 4] (by kernel_rfl) ?_
  refine Eq.mpr (f39_0 t.k t.n (row encCh t.cs) t.cs.length .empty _) ?_
  have hlen := encT_le ht
  have h4 := ht.len
  have hf := firstS_len t.k ht.n
  have hh : headB t.k t.n = true := by simp only [mayT, Bool.and_eq_true] at hm; exact hm.1.1
  refine ⟨_, rfirst_con t.k ht.n hh, by simp; omega, ?_⟩
  refine ⟨rfl, loop2 [1, 3, 4] [1, 3, 4] rfl (by kernel_rfl) (REncI t) t.cs.length mk_len ⟨0, _, rfl, by omega, by omega, by simp [encT']⟩ ?_⟩
  rintro m vs h ⟨i, done, rfl, hi, rfl, hall⟩
  refine pre_rule Tryd.Yok (n := 55) (loc := Tryd.Y.loc 39) 100 [1, 3, 4] (by kernel_rfl) ?_
  refine Eq.mpr (f39_1 t.k t.n (row encCh t.cs) t.cs.length done (i : Nat) h _) ?_
  refine if_lt_nat (fun hlt => ?_) (fun hge => ?_)
  · refine ⟨rfl, last_rule (by kernel_rfl) ?_⟩
    refine pre_rule Tryd.Yok (n := 55) (loc := Tryd.Y.loc 39) 100 [1, 3, 4, 5] (by kernel_rfl) ?_
    refine Eq.mpr (f39_2 t.k t.n (row encCh t.cs) t.cs.length done (i : Nat) h _) ?_
    have hdr : t.cs.drop i = t.cs[i] :: t.cs.drop (i + 1) := List.drop_eq_getElem_cons hlt
    refine ⟨rfl, loop2 [1, 3, 4, 5] [1, 3, 4, 5] rfl (by kernel_rfl) (REncJ t i hlt done) (t.cs.length - i) mk_len ⟨0, rfl, by omega, by omega, by simp⟩ ?_⟩
    rintro m vs h ⟨n, rfl, hn, rfl, hrun⟩
    refine all_rule Tryd.Yok (loc := Tryd.Y.loc 39) 100 [1, 3, 4, 5] ?_
    refine Eq.mpr (f39_3 t.k t.n (row encCh t.cs) t.cs.length done (i + n : Nat) (i : Nat) h _) ?_
    have out : (∀ h : i + n < t.cs.length, eqC t.cs[i + n] t.cs[i] = false) → RoundW Tryd.Y 55 [1, 3, 4, 5] [1, 3, 4, 5] (REncJ t i hlt done) (t.cs.length - (i + n)) (loopId (post (flat (blockB (post (flat (loopB (post (flat (bodyOf Tryd.f39))))))))))
        (List.drop 1 (post (flat (blockB (post (flat (loopB (post (flat (bodyOf Tryd.f39))))))))))
        (VQ [1, 3, 4] (LastV (blockId (post (flat (loopB (post (flat (bodyOf Tryd.f39)))))))
          (RoundW Tryd.Y 55 [1, 3, 4] [1, 3, 4] (REncI t) (t.cs.length - i) (loopId (post (flat (bodyOf Tryd.f39)))) (List.drop 1 (post (flat (bodyOf Tryd.f39)))) (FinS Tryd.Y Tryd.f39 fun v h => ∃ r, Frz h v r ∧ r = .s (encT' t)))))
        (.exit 2) 55 [.lb (trC t), .s done, .i .i64 (i : Nat), .i .i64 (i + n : Nat)] h := by
      intro hx
      have n0 : n ≠ 0 := fun e => by
        subst e
        have := hx hlt
        simp only [Nat.add_zero, eqC_refl] at this
        cases this
      obtain ⟨k, rfl⟩ : ∃ k, n = k + 1 := ⟨n - 1, by omega⟩
      have hrl : runN t.cs[i] (t.cs.drop (i + 1)) = k := by
        refine runN_exit (by simp; omega) ?_ (fun h => ?_)
        · rw [hdr, List.take_succ_cons, List.all_cons, Bool.and_eq_true] at hrun
          exact hrun.2
        · simp only [List.length_drop] at h
          have := hx (by omega)
          rw [List.getElem_drop]
          have e : i + 1 + k = i + (k + 1) := by omega
          simpa only [e] using this
      have okc := ht.cs _ (List.getElem_mem hlt)
      have hle : done.length + (encL (t.cs.drop i)).length ≤ 300000 := by rw [← List.length_append, hall]; exact hlen
      rw [hdr, encL_cons, hrl] at hle hall
      have l1 := itoa_len (okI_nat (n := k + 1) (by omega))
      have l2 := lineS_len okc
      simp only [List.length_append, List.length_cons, List.length_nil] at hle
      refine roundW_exit [1, 3, 4, 5] (by kernel_rfl) rfl rfl ?_
      refine all_rule Tryd.Yok (loc := Tryd.Y.loc 39) 100 [1, 3, 4] ?_
      refine Eq.mpr (f39_4 t.k t.n (row encCh t.cs) t.cs.length done (i + (k + 1) : Nat) (i : Nat) h _) ?_
      have hw : IntKind.i64.wrap (((i + (k + 1) : Nat) : Int) - (i : Nat)) = ((k + 1 : Nat) : Int) := by rw [wrap_ok (by omega) (by omega)]; omega
      rw [hw]
      have hk : okI ((k + 1 : Nat) : Int) := okI_nat (by omega)
      refine ⟨_, num_con hk, by omega, by simp only [List.length_append, List.length_cons, List.length_nil]; omega, bnd_nat hlt, _, _, _, getCh t.cs hlt, _, rline_con okc, by simp only [List.length_append, List.length_cons, List.length_nil]; omega, by simp only [List.length_append, List.length_cons, List.length_nil]; omega, ?_⟩
      refine ⟨rfl, t.cs.length - (i + (k + 1)), by omega, i + (k + 1), _, rfl, by omega, rfl, ?_⟩
      rw [← hall, List.drop_drop, show i + 1 + k = i + (k + 1) by omega]
      simp
    refine if_lt_nat (fun hl2 => ?_) (fun hge => ?_)
    · refine ⟨bnd_nat hl2, _, _, _, getCh t.cs hl2, bnd_nat hlt, _, _, _, getCh t.cs hlt, ?_⟩
      refine if_mk (fun he => ?_) (fun he => out fun _ => he)
      refine ⟨rfl, t.cs.length - (i + (n + 1)), by omega, n + 1, by rw [wrap_succ (by omega)]; rfl, by omega, rfl, all_snoc (p := (eqC · t.cs[i])) (l := t.cs.drop i) (i := n) (by simp; omega) hrun ?_⟩
      rw [List.getElem_drop]; exact he
    · exact out fun h => by omega
  · refine at_pick rfl (roundW_exit [3] (by kernel_rfl) rfl rfl ?_)
    refine end_rule Tryd.Yok (loc := Tryd.Y.loc 39) 100 [2] ?_
    refine Eq.mpr (f39_5 done h _) ?_
    rw [List.drop_of_length_le hge, encL, List.append_nil] at hall
    exact finV1 (.inr rfl) rfl (.s _) (by rw [hall])

/-! ### the lines of a trace -/
def linesS (t : Trc) : List UInt8 := if mayT t then encT' t else []
theorem linesS_len {t : Trc} (h : okTr t) : (linesS t).length ≤ 300000 := by
  unfold linesS
  split
  · exact encT_le h
  · simp
theorem lines_con {t : Trc} (h : okTr t) : PCon Tryd.Y 17 [.agg (trC t)] (· = .s (linesS t)) := by
  refine tree_con Tryd.Yok (fn := Tryd.f17) (by kernel_rfl) (by kernel_rfl) rfl (fun K => f17_0 t.k t.n (row encCh t.cs) t.cs.length .empty K) rfl ?_
  have := tenc_con h
  unfold encR at this
  by_cases hm : mayT t = true
  · rw [if_pos hm] at this
    exact ⟨_, _, this, finV1 (.inr rfl) rfl (.s _) (by simp [linesS, hm])⟩
  · rw [if_neg hm] at this
    exact ⟨_, _, this, finV1 (.inr rfl) rfl (.s _) (by simp [linesS, hm])⟩
theorem rlines_con {t : Trc} (h : okTr t) : PCon Tryd.Y 21 [.agg (trC t)] (· = .s (linesS t)) := by
  refine tree_con Tryd.Yok (fn := Tryd.f21) (by kernel_rfl) (by kernel_rfl) rfl (fun K => f21_0 t.k t.n (row encCh t.cs) t.cs.length .empty K) rfl ?_
  refine ⟨_, rmayT_con t (by have := h.len; omega), if_mk (fun e => finV1 (.inr rfl) rfl (.s _) ?_) (fun e => ⟨_, rtenc_con h (by simpa using e), finV1 (.inr rfl) rfl (.s _) ?_⟩)⟩
  · simp only [Bool.not_eq_true'] at e; simp [linesS, e]
  · simp only [Bool.not_eq_false'] at e; simp [linesS, e]
end Go.Y

/- Lists of words, and lines of them, by contracts. -/
namespace Go.Y
open Go.Proofs Go.Lib
set_option maxRecDepth 100000
set_option linter.unusedVariables false
set_option linter.unusedSimpArgs false

abbrev te9 : TI := ⟨1, 16, .str, [.s []]⟩
theorem strs_all (l : List (List UInt8)) : allCells (l.map V.s) = true := by
  induction l with
  | nil => rfl
  | cons a l ih => simp only [List.map_cons, allCells, ih, Bool.and_true]; rfl
theorem row_strs (l : List (List UInt8)) : row encT l = l.map V.s := row_one _ l
theorem strs_frz (h : Heap) (l : List (List UInt8)) : FrzL h (l.map V.s) (l.map V.s) := by
  induction l with
  | nil => exact .nil
  | cons a l ih => exact .cons _ _ _ _ (.s _) ih

/-- A list of words in memory. -/
def StrL (h : Heap) (a : Option (Nat × Nat)) (l : Nat) (c : Option Nat) (k : Nat) (xs : List (List UInt8)) : Prop :=
  l = xs.length ∧ ((a = none ∧ xs = []) ∨ ∃ id, a = some (id, 0) ∧ k = 1 ∧ id < h.nx ∧ h.get id = some (.arr (xs.map V.s) true) ∧ (c = none ∨ c = some xs.length))

theorem StrL.frz {h : Heap} {a : Option (Nat × Nat)} {l : Nat} {c : Option Nat} {k : Nat} {xs : List (List UInt8)} (hL : StrL h a l c k xs) : Frz h (.sl a l c k) (lst encT xs) := by
  obtain ⟨rfl, ⟨rfl, rfl⟩ | ⟨id, rfl, rfl, hid, hg, hc⟩⟩ := hL
  · exact .sln _ _ _ (fun x hx => by cases hx)
  · rw [show lst encT xs = .ts (xs.map V.s) xs.length none by rw [lst, row_strs]]
    refine .sl id 0 xs.length c 1 _ true (xs.map V.s) _ none hg ?_ (fun x hx => by cases hx) (by omega) (strs_frz h xs)
    rw [List.drop_zero]; exact takeX_len (by simp)

theorem StrL.app {h : Heap} {a : Option (Nat × Nat)} {l : Nat} {c : Option Nat} {k : Nat} {xs : List (List UInt8)} (hL : StrL h a l c k xs) (ys : List (List UInt8)) (cap : Option Nat) (hb : xs.length + ys.length ≤ 2 ^ 20) :
    ∃ a' l' c' k' h', appendH Tryd.Y h 51 51 (.sl a l c k) (.ts (ys.map V.s) ys.length cap) = some (.sl a' l' c' k', h') ∧ StrL h' a' l' c' k' (xs ++ ys) ∧ h.nx ≤ h'.nx ∧ (∀ i, i < h.nx → h'.tagOf i = h.tagOf i) ∧
      (∀ j, j < h.nx → (∀ o, a ≠ some (j, o)) → h'.get j = h.get j) ∧ (∀ j o, a' = some (j, o) → a = some (j, o) ∨ h.nx ≤ j) := by
  have hk : Tryd.Y.kd 51 = some (.slice 9) := by kernel_rfl
  have hte : Tryd.Y.ty 9 = some te9 := by kernel_rfl
  have ht9 : Tryd.Y.tag 9 = none := by kernel_rfl
  have hmost : most = 1099511627776 := by decide
  have hsrc : source Tryd.Y ⟨[], [], h⟩ te9 51 (.ts (ys.map V.s) ys.length cap) = some (ys.length, ys.map V.s) := by
    have : takeX (ys.length * 1) (ys.map V.s) = some (ys.map V.s) := takeX_len (by simp)
    simp only [source, hk, elems, elemsS, this]; rfl
  have hall := strs_all ys
  have e1 : te9.size = 1 := rfl
  have e2 : te9.bytes = 16 := rfl
  obtain ⟨rfl, ⟨rfl, rfl⟩ | ⟨id, rfl, rfl, hid, hg, hc⟩⟩ := hL
  · by_cases h0 : ys = []
    · subst h0
      refine ⟨none, 0, some 0, 1, h, ?_, ⟨rfl, .inl ⟨rfl, rfl⟩⟩, Nat.le_refl _, fun _ _ => rfl, fun _ _ _ => rfl, fun j o e => by cases e⟩
      simp only [appendH, appendY, hk, hte, hsrc, hall, e1]; rfl
    · have hn : ys.length ≠ 0 := by simpa using h0
      have hb2 : ys.length * 16 ≤ most ∧ ys.length ≤ most := by simp at hb; omega
      refine ⟨some (h.nx, 0), ys.length, none, 1, h.pushT (Tryd.Y.tag 9) (.arr (ys.map V.s) true), ?_, ⟨by simp, .inr ⟨h.nx, rfl, rfl, by simp, by simp, .inl rfl⟩⟩, by simp, fun i hi => by rw [ht9]; rfl, fun j hj _ => by rw [Heap.get_pushT, if_neg (by omega)], fun j o e => by cases e; exact .inr (Nat.le_refl _)⟩
      simp only [appendH, appendY, hk, hte, hsrc, hall, e1, e2, hn, if_false, hb2, if_true, and_self]
      simp
  · by_cases h0 : ys = []
    · subst h0
      refine ⟨some (id, 0), xs.length, c, 1, h, ?_, ⟨by simp, .inr ⟨id, rfl, rfl, hid, by simpa using hg, by simpa using hc⟩⟩, Nat.le_refl _, fun _ _ => rfl, fun _ _ _ => rfl, fun j o e => .inl e⟩
      simp only [appendH, appendY, hk, hte, hsrc, hall, e1]
      simp
    · have hn : ys.length ≠ 0 := by simpa using h0
      have hb1 : ¬ ((xs.length + ys.length) * 16 > most ∨ xs.length + ys.length > most) := by omega
      have htk : takeX (xs.length * 1) ((xs.map V.s).drop 0) = some (xs.map V.s) := by rw [List.drop_zero]; exact takeX_len (by simp)
      rcases hc with rfl | rfl
      · have hne : ¬ (0 + (xs.length + ys.length) * 1 ≤ (xs.map V.s).length) := by simp; omega
        refine ⟨some (h.nx, 0), xs.length + ys.length, none, 1, (h.set id none).pushT (if (0 : Nat) = 0 ∧ h.tagOf id = some 9 then some 9 else none) (.arr (xs.map V.s ++ ys.map V.s) true), ?_, ⟨by simp, .inr ⟨h.nx, rfl, rfl, by simp, by simp, .inl rfl⟩⟩, by simp, ?_, fun j hj hne => ?_, fun j o e => by cases e; exact .inr (Nat.le_refl _)⟩
        · simp only [appendH, appendY, hk, hte, hsrc, hall, e1, e2, hn, if_false, hb1, hg, hne, htk]
          simp
        · intro i hi
          rw [Heap.pushT, tagOf_tagIf]
          split
          · rw [if_neg (by simp; omega)]; rfl
          · rfl
        · have : j ≠ id := fun e => hne 0 (by rw [e])
          rw [Heap.get_pushT, if_neg (by simp; omega), Heap.get_set, if_neg this]
      · have hle : ¬ xs.length + ys.length ≤ xs.length := by omega
        refine ⟨some (h.nx, 0), xs.length + ys.length, none, 1, h.push (.arr (xs.map V.s ++ ys.map V.s) true), ?_, ⟨by simp, .inr ⟨h.nx, rfl, rfl, by simp, by simp, .inl rfl⟩⟩, by simp, fun _ _ => rfl, fun j hj _ => by rw [Heap.get_push, if_neg (by omega)], fun j o e => by cases e; exact .inr (Nat.le_refl _)⟩
        simp only [appendH, appendY, hk, hte, hsrc, hall, e1, e2, hn, if_false, hb1, hle, cellsAt, hg, htk]
        simp
def sumL : List (List UInt8) → Nat
  | [] => 0
  | a :: l => a.length + 1 + sumL l
theorem join_len : ∀ l : List (List UInt8), (Lib.join l [32]).length ≤ sumL l
  | [] => by simp [Lib.join_nil, sumL]
  | a :: l => by
    have key : ∀ l : List (List UInt8), (Lib.joinTail [32] l).length = sumL l := by
      intro l
      induction l with
      | nil => rfl
      | cons b l ih =>
        have : Lib.joinTail [32] (b :: l) = [32] ++ b ++ Lib.joinTail [32] l := rfl
        rw [this, List.length_append, ih, sumL]; simp
    rw [Lib.join_cons, List.length_append, key, sumL]
    omega
def lnS (l : List (List UInt8)) : List UInt8 := Lib.join l [32] ++ [10]
theorem lnS_len (l : List (List UInt8)) : (lnS l).length ≤ sumL l + 1 := by
  have := join_len l
  simp [lnS]; omega
theorem line13 (l : List (List UInt8)) (hl : l.length ≤ 2 ^ 20) (hs : sumL l ≤ 2 ^ 40) : PCon Tryd.Y 13 [lst encT l] (· = .s (lnS l)) := by
  have hj := join_len l
  refine tree_con Tryd.Yok (fn := Tryd.f13) (by kernel_rfl) (by kernel_rfl) rfl (fun K => f13_0 (row encT l) l.length .empty K) rfl ?_
  have := join_con l none [32] (by omega) (by omega)
  rw [← row_strs] at this
  exact ⟨_, this, by simp; omega, finV1 (.inr rfl) rfl (.s _) rfl⟩
theorem line_f {h : Heap} {a : Option (Nat × Nat)} {l : Nat} {c : Option Nat} {k : Nat} {xs : List (List UInt8)} (hL : StrL h a l c k xs) (hl : xs.length ≤ 2 ^ 20) (hs : sumL xs ≤ 2 ^ 40) : FCon Tryd.Y 13 [.sl a l c k] h (.s (lnS xs)) :=
  ⟨_, .cons _ _ _ _ hL.frz .nil, line13 xs hl hs⟩
theorem line_t (h : Heap) (xs : List (List UInt8)) (c : Option Nat) (hl : xs.length ≤ 2 ^ 20) (hs : sumL xs ≤ 2 ^ 40) : FCon Tryd.Y 13 [.ts (xs.map V.s) xs.length c] h (.s (lnS xs)) :=
  ⟨[lst encT xs], .cons _ _ _ _ (by rw [lst, row_strs]; exact .ts _ _ _ _ (fun x hx => by cases hx)) .nil, line13 xs hl hs⟩

/-! ### numbers as words -/
theorem nums_con (l : List Int) (hl : l.length ≤ 2 ^ 18) (hok : ∀ x ∈ l, okI x) : PCon Tryd.Y 14 [lst encI l] (· = lst encT (l.map itoa)) := by
  refine pcon_of Tryd.Yok (fn := Tryd.f14) (by kernel_rfl) (by kernel_rfl) rfl ?_
  refine pre_rule Tryd.Yok (n := 19) (loc := Tryd.Y.loc 14) 100 [3, 6, 7, 8] (by kernel_rfl) ?_
  refine Eq.mpr (f14_0 (row encI l) l.length .empty _) ?_
  refine ⟨rfl, loop2 [3, 6, 7, 8] [3, 6, 7, 8] rfl (by kernel_rfl) (fun m vs h => ∃ (i : Nat) (a : Option (Nat × Nat)) (n : Nat) (c : Option Nat) (k : Nat), vs = [.sl a n c k, lst encI l, .i .i64 l.length, .i .i64 (i : Nat)] ∧ i ≤ l.length ∧ m = l.length - i ∧ StrL h a n c k ((l.take i).map itoa)) l.length mk_len ⟨0, none, 0, some 0, 0, rfl, by omega, by omega, rfl, .inl ⟨rfl, by simp⟩⟩ ?_⟩
  rintro m vs h ⟨i, a, n, c, k, rfl, hi, rfl, hL⟩
  refine all_rule Tryd.Yok (loc := Tryd.Y.loc 14) 100 [3, 6, 7, 8] ?_
  refine Eq.mpr (f14_1 (row encI l) l.length a n c k (i : Nat) h _) ?_
  refine if_lt_nat (fun hlt => ?_) (fun hge => ?_)
  · obtain ⟨a1, l1, c1, k1, h1, q1, q2, -⟩ := hL.app [itoa l[i]] (some 1) (by simp; omega)
    have ok := hok _ (List.getElem_mem hlt)
    refine ⟨bnd_nat hlt, _, getI l hlt, _, itoa_con ok.1 ok.2, _, _, _, _, _, q1, rfl, l.length - (i + 1), by omega, i + 1, a1, l1, c1, k1, by rw [wrap_succ (by omega)]; rfl, by omega, rfl, ?_⟩
    rw [List.take_succ_eq_append_getElem hlt, List.map_append]; exact q2
  · refine roundW_exit [3] (by kernel_rfl) rfl rfl ?_
    refine end_rule Tryd.Yok (loc := Tryd.Y.loc 14) 100 [2] ?_
    refine Eq.mpr (f14_2 a n c k h _) ?_
    rw [List.take_of_length_le hge] at hL
    exact ⟨.inr rfl, _, rfl, _, hL.frz, rfl⟩
end Go.Y
