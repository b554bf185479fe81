/- Print, by contracts. -/
import Derived.Test.YtpddiafjmkjpmaaGBuild
import Derived.Test.YtpddiafjmkjpmaaGA1
import Derived.Test.YtpddiafjmkjpmaaGClone
import Derived.Test.YtpddiafjmkjpmaaGLaw7
namespace Go.Y
open Go.Proofs
set_option maxRecDepth 100000

theorem idx_contains (l : List UInt8) (c : UInt8) : ∀ k : Nat, leI 0 (idxFrom l c k) = l.contains c := by
  induction l with
  | nil => intro k; rfl
  | cons b l ih =>
    intro k
    unfold idxFrom
    by_cases h : (b == c) = true
    · have : c = b := by simp at h; exact h.symm
      rw [if_pos h]; simp [leI, this]
    · have h2 : ¬ c = b := fun e => h (by simp [e])
      rw [if_neg h, ih, List.contains_cons]
      simp [h2]

theorem index_con (s : List UInt8) (c : Int) : PCon Try.Y 100 [.s s, .i .u8 c] (· = .i .i64 (idxFrom s c.toNat.toUInt8 0)) := by
  refine pcon_of Try.Yok (fn := Try.f100) (by kernel_rfl) (by kernel_rfl) rfl (end_rule Try.Yok (loc := Try.Y.loc 100) 100 [4] ?_)
  refine Eq.mpr (f100_0 s c _ _) ?_
  refine ⟨_, ?_, finV1 (.inr rfl) rfl (.i _ _) rfl⟩
  refine pcon_of Try.Yok (fn := Try.f119) (by kernel_rfl) (by kernel_rfl) rfl (end_rule Try.Yok (loc := Try.Y.loc 119) 100 [4] ?_)
  exact Eq.mpr (f119_0 s c _ _) (finV1 (.inr rfl) rfl (.i _ _) rfl)

theorem told_con (n : Int) (m : List UInt8) : PCon Try.Y 66 [.i .u8 n, .s m] (· = .s (toldS (b8 n) m)) := by
  refine pcon_of Try.Yok (fn := Try.f66) (by kernel_rfl) (by kernel_rfl) rfl (end_rule Try.Yok (loc := Try.Y.loc 66) 100 [4] ?_)
  refine Eq.mpr (f66_0 n m _ _) ?_
  refine ⟨_, index_con m n, ?_⟩
  rw [idx_contains]
  unfold toldS
  refine if_mk (fun h => ⟨_, rfl, finV1 (.inr rfl) rfl (.s _) ?_⟩) (fun h => ⟨_, rfl, finV1 (.inr rfl) rfl (.s _) ?_⟩)
  · have h' : m.contains (b8 n) = true := h
    rw [if_pos h']; rfl
  · have h' : ¬ m.contains (b8 n) = true := by rw [show m.contains (b8 n) = false from h]; simp
    rw [if_neg h']; rfl

theorem told_len (c : UInt8) (m : List UInt8) : (toldS c m).length ≤ 2 := by unfold toldS; split <;> simp
theorem span_len (x : Span) : (spanS x).length ≤ 5 := by
  unfold spanS
  have h1 := told_len (b8 x.lo) [93, 45, 92]
  have h2 := told_len (b8 x.hi) [93, 45, 92]
  rw [List.length_append]
  split
  · rw [List.length_cons]; omega
  · simp; omega
theorem items_le (l : List Span) : (itemsS l).length ≤ 5 * l.length := by
  induction l with
  | nil => simp [itemsS]
  | cons x l ih =>
    have hi : itemsS (x :: l) = spanS x ++ itemsS l := by simp [itemsS]
    have := span_len x
    rw [hi, List.length_append, List.length_cons]; omega
theorem items_snoc (l : List Span) (x : Span) : itemsS (l ++ [x]) = itemsS l ++ spanS x := by simp [itemsS]

/-- A builder that is new. -/
theorem Bd.new (h : Heap) : Bd (h.pushT (Try.Y.tag 92) (.arr [.p none, .sl none 0 (some 0) 0] true)) h.nx [] := by
  have ht : Try.Y.tag 92 = some 92 := by kernel_rfl
  refine ⟨⟨none, none, 0, some 0, 0, by simp, .inl rfl, IsL.nil _ _ _ _, (fun j o e => nomatch e), fun _ => rfl⟩, ?_, by simp⟩
  rw [ht]
  show ((h.push _).tagIf h.nx (some 92)).tagOf h.nx = some 92
  rw [tagOf_tagIf]; simp

def ItemsI (l : List Span) (m : Nat) (vs : List V) (h : Heap) : Prop :=
  ∃ (id i : Nat), vs = [.p (some (id, 0)), lst encS l, .i .i64 l.length, .i .i64 (i : Nat)] ∧ i ≤ l.length ∧ Bd h id (itemsS (l.take i)) ∧ m = l.length - i

theorem items_con (l : List Span) (hl : l.length < 2 ^ 20) : PCon Try.Y 65 [lst encS l] (· = .s (itemsS l)) := by
  refine pcon_of Try.Yok (fn := Try.f65) (by kernel_rfl) (by kernel_rfl) rfl ?_
  refine pre_rule Try.Yok (n := 28) (loc := Try.Y.loc 65) 100 [3, 6, 7, 8] (by kernel_rfl) ?_
  refine Eq.mpr (f65_0 (row encS l) l.length .empty _) ?_
  refine ⟨rfl, loop2 [3, 6, 7, 8] [3, 6, 7, 8] rfl (by kernel_rfl) (ItemsI l) l.length mk_len ⟨_, 0, rfl, by omega, Bd.new _, by omega⟩ ?_⟩
  rintro m vs h ⟨id, i, rfl, hi, hb, rfl⟩
  refine all_rule Try.Yok (loc := Try.Y.loc 65) 100 [3, 6, 7, 8] ?_
  refine Eq.mpr (f65_1 (row encS l) l.length id (i : Nat) h _) ?_
  have hle := items_le (l.take i)
  have hle2 : (l.take i).length ≤ l.length := by simp; omega
  refine if_lt_nat (fun hlt => ?_) (fun hge => ?_)
  · rw [Int.toNat_natCast]
    have next : ∀ h', Bd h' id (itemsS (l.take i) ++ spanS l[i]) → RoundW Try.Y 28 [3, 6, 7, 8] [3, 6, 7, 8] (ItemsI l) (l.length - i) (loopId (post (flat (bodyOf Try.f65)))) ((post (flat (bodyOf Try.f65))).drop 1) (FinS Try.Y Try.f65 fun v h => ∃ r, Frz h v r ∧ r = .s (itemsS l))
        .normal 28 [.p (some (id, 0)), lst encS l, .i .i64 l.length, .i .i64 (IntKind.i64.wrap ((i : Nat) + 1))] h' := by
      intro h' hb'
      refine ⟨rfl, l.length - (i + 1), by omega, id, i + 1, ?_, by omega, ?_, rfl⟩
      · rw [wrap_succ (by omega)]; rfl
      · rw [List.take_succ_eq_append_getElem hlt, items_snoc]; exact hb'
    have h1 := told_len (b8 l[i].lo) [93, 45, 92]
    have h2 := told_len (b8 l[i].hi) [93, 45, 92]
    refine ⟨bnd_nat hlt, _, _, row_get encS_len hlt, _, told_con l[i].lo _, ?_⟩
    refine (wstr_con hb (toldS (b8 l[i].lo) [93, 45, 92]) (by omega)).mono fun v h3 ⟨e1, b1⟩ => ⟨_, .inl ⟨e1, if_mk (fun hne => ?_) (fun hne => ?_)⟩⟩
    · have hne' : l[i].hi ≠ l[i].lo := by simpa using hne
      refine ⟨_, told_con l[i].hi _, ?_, ?_⟩
      · show 1 + (toldS (b8 l[i].hi) [93, 45, 92]).length ≤ _; omega
      refine (wstr_con b1 (45 :: toldS (b8 l[i].hi) [93, 45, 92]) (by rw [List.length_append, List.length_cons]; omega)).mono fun v h4 ⟨e2, b2⟩ => ⟨_, .inl ⟨e2, next _ ?_⟩⟩
      unfold spanS
      rw [if_pos hne', ← List.append_assoc]; exact b2
    · have heq : ¬ l[i].hi ≠ l[i].lo := by simpa using hne
      refine next _ ?_
      unfold spanS
      rw [if_neg heq, List.append_nil]; exact b1
  · refine roundW_exit [3] (by kernel_rfl) rfl rfl ?_
    refine end_rule Try.Yok (loc := Try.Y.loc 65) 100 [2] ?_
    refine Eq.mpr (f65_2 id h _) ?_
    rw [List.take_of_length_le hge] at hb hle
    refine (bstr_con hb (by omega)).mono fun v h' e => ⟨_, e, finV1 (.inr rfl) rfl (.s _) rfl⟩

/-! ### Print -/
def printR (l : List Glob) : V := if mayS l = true then (if 200 < (printS l).length then .tup [.s [], .i .i64 2] else .tup [.s (printS l), .i .i64 0]) else .tup [.s [], .i .i64 5]

theorem print_snoc (l : List Glob) (g : Glob) : printS (l ++ [g]) = printS l ++ printG g := by simp [printS]
theorem print_take (l : List Glob) (i : Nat) : (printS (l.take i)).length ≤ (printS l).length := by
  have : printS l = printS (l.take i) ++ printS (l.drop i) := by
    show l.flatMap printG = (l.take i).flatMap printG ++ (l.drop i).flatMap printG
    rw [← List.flatMap_append, List.take_append_drop]
  rw [this, List.length_append]; omega

def PrintI (l : List Glob) (m : Nat) (vs : List V) (h : Heap) : Prop :=
  ∃ (id i : Nat), vs = [.p (some (id, 0)), lst encG l, .i .i64 l.length, .i .i64 (i : Nat)] ∧ i ≤ l.length ∧ Bd h id (printS (l.take i)) ∧ (printS (l.take i)).length ≤ 200 ∧ m = l.length - i

theorem gprint_con (l : List Glob) (hs : okG l) (h40 : ∀ g ∈ l, g.sp.length ≤ 40) : PCon Try.Y 25 [lst encG l] (· = printR l) := by
  have hl := hs.1
  refine pcon_of Try.Yok (fn := Try.f25) (by kernel_rfl) (by kernel_rfl) rfl ?_
  refine pre_rule Try.Yok (n := 40) (loc := Try.Y.loc 25) 100 [2, 3, 4, 10, 11, 12] (by kernel_rfl) ?_
  refine Eq.mpr (f25_0 (row encG l) l.length .empty _) ?_
  unfold printR
  refine ⟨_, gmay_con l hs, if_mk (fun hm => ?_) (fun hm => ?_)⟩
  · have : mayS l = false := by simpa using hm
    exact fin_at (.inr rfl) rfl ⟨_, .tup _ _ (.cons _ _ _ _ (.s _) (.cons _ _ _ _ (.i _ _) .nil)), by rw [this]; rfl⟩
  have hmay : mayS l = true := by simpa using hm
  rw [if_pos hmay]
  have hone : ∀ g ∈ l, oneS g = true := by rw [mayS, List.all_eq_true] at hmay; exact hmay
  refine ⟨rfl, loop2 [4, 10, 11, 12] [2, 3, 4, 10, 11, 12] rfl (by kernel_rfl) (PrintI l) l.length mk_len ⟨_, 0, rfl, by omega, Bd.new _, by simp [printS], by omega⟩ ?_⟩
  rintro m vs h ⟨id, i, rfl, hi, hb, h200, rfl⟩
  refine all_rule Try.Yok (loc := Try.Y.loc 25) 100 [2, 3, 4, 10, 11, 12] ?_
  refine Eq.mpr (f25_1 (row encG l) l.length id (i : Nat) h _) ?_
  generalize hK : RoundW Try.Y 40 [2, 3, 4, 10, 11, 12] [4, 10, 11, 12] (PrintI l) (l.length - i) (loopId (post (flat (bodyOf Try.f25)))) ((post (flat (bodyOf Try.f25))).drop 1) (FinS Try.Y Try.f25 fun v h => ∃ r, Frz h v r ∧ r = if 200 < (printS l).length then .tup [.s [], .i .i64 2] else .tup [.s (printS l), .i .i64 0]) = K
  refine if_lt_nat (fun hlt => ?_) (fun hge => ?_)
  · -- behind a piece
    have next : ∀ h', Bd h' id (printS (l.take i) ++ printG l[i]) → ∃ n : Int, RCon Try.Y 67 [.p (some (id, 0))] h' (.i .i64 n) ∧ If (ltI 200 n) (K .ret 40 [.s [], .i .i64 2, .p (some (id, 0)), lst encG l, .i .i64 l.length, .i .i64 (i : Nat)] h')
        (K .normal 40 [.undef, .undef, .p (some (id, 0)), lst encG l, .i .i64 l.length, .i .i64 (IntKind.i64.wrap ((i : Nat) + 1))] h') := by
      intro h' hb'
      have hsn : printS (l.take (i + 1)) = printS (l.take i) ++ printG l[i] := by rw [List.take_succ_eq_append_getElem hlt, print_snoc]
      rw [← hsn] at hb'
      refine ⟨_, blen_con hb', if_lt (fun hgt => ?_) (fun hle => ?_)⟩
      · have := print_take l (i + 1)
        subst hK
        exact fin_at (.inr rfl) rfl ⟨_, .tup _ _ (.cons _ _ _ _ (.s _) (.cons _ _ _ _ (.i _ _) .nil)), by rw [if_pos (by omega)]⟩
      · subst hK
        refine ⟨rfl, l.length - (i + 1), by omega, id, i + 1, ?_, by omega, hb', by omega, rfl⟩
        rw [wrap_succ (by omega)]; rfl
    rw [Int.toNat_natCast]
    refine ⟨bnd_nat hlt, _, _, _, _, _, row_get encG_len hlt, if_mk (fun h1 => ?_) (fun h1 => if_mk (fun h2 => ?_) (fun h2 => if_mk (fun h3 => ?_) (fun h3 => ?_)))⟩
    · have h1 : l[i].k = 1 := by simpa using h1
      refine (wbyte_con hb 63 (by omega)).mono fun v h' ⟨e, b⟩ => .inl ⟨e, next _ ?_⟩
      rw [show printG l[i] = [63] by unfold printG; rw [if_pos h1]]; exact b
    · have h1 : l[i].k ≠ 1 := by simpa using h1
      have h2 : l[i].k = 2 := by simpa using h2
      refine (wbyte_con hb 42 (by omega)).mono fun v h' ⟨e, b⟩ => .inl ⟨e, next _ ?_⟩
      rw [show printG l[i] = [42] by unfold printG; rw [if_neg h1, if_pos h2]]; exact b
    · have h1 : l[i].k ≠ 1 := by simpa using h1
      have h2 : l[i].k ≠ 2 := by simpa using h2
      have h3 : l[i].k = 3 := by simpa using h3
      have hsp := h40 _ (List.getElem_mem hlt)
      have hil := items_le l[i].sp
      refine ⟨_, items_con l[i].sp (by omega), ?_, ?_, ?_⟩
      · show 1 + _ ≤ _; omega
      · rw [List.length_append]; show 1 + _ + 1 ≤ _; omega
      refine (wstr_con hb _ ?_).mono fun v h' ⟨e, b⟩ => ⟨_, .inl ⟨e, next _ ?_⟩⟩
      · rw [List.length_append, List.length_append]; show _ + (1 + _ + 1) < _; omega
      · rw [show printG l[i] = 91 :: (itemsS l[i].sp ++ [93]) by unfold printG; rw [if_neg h1, if_neg h2, if_pos h3]]
        exact b
    · have h1 : l[i].k ≠ 1 := by simpa using h1
      have h2 : l[i].k ≠ 2 := by simpa using h2
      have h3 : l[i].k ≠ 3 := by simpa using h3
      have htl := told_len (b8 l[i].b) [42, 63, 91, 92]
      refine ⟨_, told_con l[i].b _, ?_⟩
      refine (wstr_con hb (toldS (b8 l[i].b) [42, 63, 91, 92]) (by omega)).mono fun v h' ⟨e, b⟩ => ⟨_, .inl ⟨e, next _ ?_⟩⟩
      rw [show printG l[i] = toldS (b8 l[i].b) [42, 63, 91, 92] by unfold printG; rw [if_neg h1, if_neg h2, if_neg h3]]
      exact b
  · subst hK
    refine roundW_exit [4] (by kernel_rfl) rfl rfl ?_
    refine end_rule Try.Yok (loc := Try.Y.loc 25) 100 [2, 3] ?_
    refine Eq.mpr (f25_2 id h _) ?_
    rw [List.take_of_length_le hge] at hb h200
    refine (bstr_con hb (by omega)).mono fun v h' e => ⟨_, e, finV2 (.inr rfl) rfl (.s _) (.i _ _) ?_⟩
    rw [if_neg (by omega)]
end Go.Y
