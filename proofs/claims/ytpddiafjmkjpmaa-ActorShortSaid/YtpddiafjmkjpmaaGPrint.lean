/- Print, by contracts. -/
import Derived.Test.YtpddiafjmkjpmaaGTable
import Derived.Test.YtpddiafjmkjpmaaGB2
import Derived.Test.YtpddiafjmkjpmaaGClone
import Derived.Test.YtpddiafjmkjpmaaGTab29
import Derived.Test.YtpddiafjmkjpmaaGRef03b
import Derived.Test.YtpddiafjmkjpmaaGC2
namespace Go.Y
open Go.Proofs
set_option maxRecDepth 100000

theorem idx_contains (l : List UInt8) (c : UInt8) : ∀ k : Nat, leI 0 (idxFrom l c k) = l.contains c := by
  induction l with
  | nil => intro k; rfl
  | cons b l ih =>
    intro k
    unfold idxFrom
    by_cases h : (b == c) = true
    · have : c = b := by simp at h; exact h.symm
      rw [if_pos h]; simp [leI, this]
    · have h2 : ¬ c = b := fun e => h (by simp [e])
      rw [if_neg h, ih, List.contains_cons]
      simp [h2]

theorem index_con (s : List UInt8) (c : Int) : PCon Try.Y 100 [.s s, .i .u8 c] (· = .i .i64 (idxFrom s c.toNat.toUInt8 0)) := by
  refine pcon_of Try.Yok (fn := Try.f100) (by kernel_rfl) (by kernel_rfl) rfl (end_rule Try.Yok (loc := Try.Y.loc 100) 100 [4] ?_)
  refine Eq.mpr (f100_0 s c _ _) ?_
  refine ⟨_, ?_, finV1 (.inr rfl) rfl (.i _ _) rfl⟩
  refine pcon_of Try.Yok (fn := Try.f119) (by kernel_rfl) (by kernel_rfl) rfl (end_rule Try.Yok (loc := Try.Y.loc 119) 100 [4] ?_)
  exact Eq.mpr (f119_0 s c _ _) (finV1 (.inr rfl) rfl (.i _ _) rfl)

theorem told_con (n : Int) (m : List UInt8) : PCon Try.Y 66 [.i .u8 n, .s m] (· = .s (toldS (b8 n) m)) := by
  refine pcon_of Try.Yok (fn := Try.f66) (by kernel_rfl) (by kernel_rfl) rfl (end_rule Try.Yok (loc := Try.Y.loc 66) 100 [4] ?_)
  refine Eq.mpr (f66_0 n m _ _) ?_
  refine ⟨_, index_con m n, ?_⟩
  rw [idx_contains]
  unfold toldS
  refine if_mk (fun h => ⟨_, rfl, finV1 (.inr rfl) rfl (.s _) ?_⟩) (fun h => ⟨_, rfl, finV1 (.inr rfl) rfl (.s _) ?_⟩)
  · have h' : m.contains (b8 n) = true := h
    rw [if_pos h']; rfl
  · have h' : ¬ m.contains (b8 n) = true := by rw [show m.contains (b8 n) = false from h]; simp
    rw [if_neg h']; rfl

theorem told_len (c : UInt8) (m : List UInt8) : (toldS c m).length ≤ 2 := by unfold toldS; split <;> simp
theorem span_len (x : Span) : (spanS x).length ≤ 5 := by
  unfold spanS
  have h1 := told_len (b8 x.lo) [93, 45, 92]
  have h2 := told_len (b8 x.hi) [93, 45, 92]
  rw [List.length_append]
  split
  · rw [List.length_cons]; omega
  · simp; omega
theorem items_le (l : List Span) : (itemsS l).length ≤ 5 * l.length := by
  induction l with
  | nil => simp [itemsS]
  | cons x l ih =>
    have hi : itemsS (x :: l) = spanS x ++ itemsS l := by simp [itemsS]
    have := span_len x
    rw [hi, List.length_append, List.length_cons]; omega
theorem items_snoc (l : List Span) (x : Span) : itemsS (l ++ [x]) = itemsS l ++ spanS x := by simp [itemsS]

/-- A builder that is new. -/
theorem Bd.new (h : Heap) : Bd (h.pushT (Try.Y.tag 92) (.arr [.p none, .sl none 0 (some 0) 0] true)) h.nx [] := by
  have ht : Try.Y.tag 92 = some 92 := by kernel_rfl
  refine ⟨⟨none, none, 0, some 0, 0, by simp, .inl rfl, IsL.nil _ _ _ _, (fun j o e => nomatch e), fun _ => rfl⟩, ?_, by simp⟩
  rw [ht]
  show ((h.push _).tagIf h.nx (some 92)).tagOf h.nx = some 92
  rw [tagOf_tagIf]; simp

def ItemsI (l : List Span) (m : Nat) (vs : List V) (h : Heap) : Prop :=
  ∃ (id i : Nat), vs = [.p (some (id, 0)), lst encS l, .i .i64 l.length, .i .i64 (i : Nat)] ∧ i ≤ l.length ∧ Bd h id (itemsS (l.take i)) ∧ m = l.length - i

theorem items_con (l : List Span) (hl : l.length < 2 ^ 20) : PCon Try.Y 65 [lst encS l] (· = .s (itemsS l)) := by
  refine pcon_of Try.Yok (fn := Try.f65) (by kernel_rfl) (by kernel_rfl) rfl ?_
  refine pre_rule Try.Yok (n := 28) (loc := Try.Y.loc 65) 100 [3, 6, 7, 8] (by kernel_rfl) ?_
  refine Eq.mpr (f65_0 (row encS l) l.length .empty _) ?_
  refine ⟨rfl, loop2 [3, 6, 7, 8] [3, 6, 7, 8] rfl (by kernel_rfl) (ItemsI l) l.length mk_len ⟨_, 0, rfl, by omega, Bd.new _, by omega⟩ ?_⟩
  rintro m vs h ⟨id, i, rfl, hi, hb, rfl⟩
  refine all_rule Try.Yok (loc := Try.Y.loc 65) 100 [3, 6, 7, 8] ?_
  refine Eq.mpr (f65_1 (row encS l) l.length id (i : Nat) h _) ?_
  have hle := items_le (l.take i)
  have hle2 : (l.take i).length ≤ l.length := by simp; omega
  refine if_lt_nat (fun hlt => ?_) (fun hge => ?_)
  · rw [Int.toNat_natCast]
    have next : ∀ h', Bd h' id (itemsS (l.take i) ++ spanS l[i]) → RoundW Try.Y 28 [3, 6, 7, 8] [3, 6, 7, 8] (ItemsI l) (l.length - i) (loopId (post (flat (bodyOf Try.f65)))) ((post (flat (bodyOf Try.f65))).drop 1) (FinS Try.Y Try.f65 fun v h => ∃ r, Frz h v r ∧ r = .s (itemsS l))
        .normal 28 [.p (some (id, 0)), lst encS l, .i .i64 l.length, .i .i64 (IntKind.i64.wrap ((i : Nat) + 1))] h' := by
      intro h' hb'
      refine ⟨rfl, l.length - (i + 1), by omega, id, i + 1, ?_, by omega, ?_, rfl⟩
      · rw [wrap_succ (by omega)]; rfl
      · rw [List.take_succ_eq_append_getElem hlt, items_snoc]; exact hb'
    have h1 := told_len (b8 l[i].lo) [93, 45, 92]
    have h2 := told_len (b8 l[i].hi) [93, 45, 92]
    refine ⟨bnd_nat hlt, _, _, row_get encS_len hlt, _, told_con l[i].lo _, ?_⟩
    refine (wstr_con hb (toldS (b8 l[i].lo) [93, 45, 92]) (by omega)).mono fun v h3 ⟨e1, b1⟩ => ⟨_, .inl ⟨e1, if_mk (fun hne => ?_) (fun hne => ?_)⟩⟩
    · have hne' : l[i].hi ≠ l[i].lo := by simpa using hne
      refine ⟨_, told_con l[i].hi _, ?_, ?_⟩
      · show 1 + (toldS (b8 l[i].hi) [93, 45, 92]).length ≤ _; omega
      refine (wstr_con b1 (45 :: toldS (b8 l[i].hi) [93, 45, 92]) (by rw [List.length_append, List.length_cons]; omega)).mono fun v h4 ⟨e2, b2⟩ => ⟨_, .inl ⟨e2, next _ ?_⟩⟩
      unfold spanS
      rw [if_pos hne', ← List.append_assoc]; exact b2
    · have heq : ¬ l[i].hi ≠ l[i].lo := by simpa using hne
      refine next _ ?_
      unfold spanS
      rw [if_neg heq, List.append_nil]; exact b1
  · refine roundW_exit [3] (by kernel_rfl) rfl rfl ?_
    refine end_rule Try.Yok (loc := Try.Y.loc 65) 100 [2] ?_
    refine Eq.mpr (f65_2 id h _) ?_
    rw [List.take_of_length_le hge] at hb hle
    refine (bstr_con hb (by omega)).mono fun v h' e => ⟨_, e, finV1 (.inr rfl) rfl (.s _) rfl⟩

/-! ### Print -/
def printR (l : List Glob) : V := if mayS l = true then (if 200 < (printS l).length then .tup [.s [], .i .i64 2] else .tup [.s (printS l), .i .i64 0]) else .tup [.s [], .i .i64 5]

theorem print_snoc (l : List Glob) (g : Glob) : printS (l ++ [g]) = printS l ++ printG g := by simp [printS]
theorem print_take (l : List Glob) (i : Nat) : (printS (l.take i)).length ≤ (printS l).length := by
  have : printS l = printS (l.take i) ++ printS (l.drop i) := by
    show l.flatMap printG = (l.take i).flatMap printG ++ (l.drop i).flatMap printG
    rw [← List.flatMap_append, List.take_append_drop]
  rw [this, List.length_append]; omega

def PrintI (l : List Glob) (m : Nat) (vs : List V) (h : Heap) : Prop :=
  ∃ (id i : Nat), vs = [.p (some (id, 0)), lst encG l, .i .i64 l.length, .i .i64 (i : Nat)] ∧ i ≤ l.length ∧ Bd h id (printS (l.take i)) ∧ (printS (l.take i)).length ≤ 200 ∧ m = l.length - i

theorem gprint_con (l : List Glob) (hs : okG l) (h40 : ∀ g ∈ l, g.sp.length ≤ 40) : PCon Try.Y 25 [lst encG l] (· = printR l) := by
  have hl := hs.1
  refine pcon_of Try.Yok (fn := Try.f25) (by kernel_rfl) (by kernel_rfl) rfl ?_
  refine pre_rule Try.Yok (n := 40) (loc := Try.Y.loc 25) 100 [2, 3, 4, 10, 11, 12] (by kernel_rfl) ?_
  refine Eq.mpr (f25_0 (row encG l) l.length .empty _) ?_
  unfold printR
  refine ⟨_, gmay_con l hs, if_mk (fun hm => ?_) (fun hm => ?_)⟩
  · have : mayS l = false := by simpa using hm
    exact fin_at (.inr rfl) rfl ⟨_, .tup _ _ (.cons _ _ _ _ (.s _) (.cons _ _ _ _ (.i _ _) .nil)), by rw [this]; rfl⟩
  have hmay : mayS l = true := by simpa using hm
  rw [if_pos hmay]
  have hone : ∀ g ∈ l, oneS g = true := by rw [mayS, List.all_eq_true] at hmay; exact hmay
  refine ⟨rfl, loop2 [4, 10, 11, 12] [2, 3, 4, 10, 11, 12] rfl (by kernel_rfl) (PrintI l) l.length mk_len ⟨_, 0, rfl, by omega, Bd.new _, by simp [printS], by omega⟩ ?_⟩
  rintro m vs h ⟨id, i, rfl, hi, hb, h200, rfl⟩
  refine all_rule Try.Yok (loc := Try.Y.loc 25) 100 [2, 3, 4, 10, 11, 12] ?_
  refine Eq.mpr (f25_1 (row encG l) l.length id (i : Nat) h _) ?_
  generalize hK : RoundW Try.Y 40 [2, 3, 4, 10, 11, 12] [4, 10, 11, 12] (PrintI l) (l.length - i) (loopId (post (flat (bodyOf Try.f25)))) ((post (flat (bodyOf Try.f25))).drop 1) (FinS Try.Y Try.f25 fun v h => ∃ r, Frz h v r ∧ r = if 200 < (printS l).length then .tup [.s [], .i .i64 2] else .tup [.s (printS l), .i .i64 0]) = K
  refine if_lt_nat (fun hlt => ?_) (fun hge => ?_)
  · -- behind a piece
    have next : ∀ h', Bd h' id (printS (l.take i) ++ printG l[i]) → ∃ n : Int, RCon Try.Y 67 [.p (some (id, 0))] h' (.i .i64 n) ∧ If (ltI 200 n) (K .ret 40 [.s [], .i .i64 2, .p (some (id, 0)), lst encG l, .i .i64 l.length, .i .i64 (i : Nat)] h')
        (K .normal 40 [.undef, .undef, .p (some (id, 0)), lst encG l, .i .i64 l.length, .i .i64 (IntKind.i64.wrap ((i : Nat) + 1))] h') := by
      intro h' hb'
      have hsn : printS (l.take (i + 1)) = printS (l.take i) ++ printG l[i] := by rw [List.take_succ_eq_append_getElem hlt, print_snoc]
      rw [← hsn] at hb'
      refine ⟨_, blen_con hb', if_lt (fun hgt => ?_) (fun hle => ?_)⟩
      · have := print_take l (i + 1)
        subst hK
        exact fin_at (.inr rfl) rfl ⟨_, .tup _ _ (.cons _ _ _ _ (.s _) (.cons _ _ _ _ (.i _ _) .nil)), by rw [if_pos (by omega)]⟩
      · subst hK
        refine ⟨rfl, l.length - (i + 1), by omega, id, i + 1, ?_, by omega, hb', by omega, rfl⟩
        rw [wrap_succ (by omega)]; rfl
    rw [Int.toNat_natCast]
    refine ⟨bnd_nat hlt, _, _, _, _, _, row_get encG_len hlt, if_mk (fun h1 => ?_) (fun h1 => if_mk (fun h2 => ?_) (fun h2 => if_mk (fun h3 => ?_) (fun h3 => ?_)))⟩
    · have h1 : l[i].k = 1 := by simpa using h1
      refine (wbyte_con hb 63 (by omega)).mono fun v h' ⟨e, b⟩ => .inl ⟨e, next _ ?_⟩
      rw [show printG l[i] = [63] by unfold printG; rw [if_pos h1]]; exact b
    · have h1 : l[i].k ≠ 1 := by simpa using h1
      have h2 : l[i].k = 2 := by simpa using h2
      refine (wbyte_con hb 42 (by omega)).mono fun v h' ⟨e, b⟩ => .inl ⟨e, next _ ?_⟩
      rw [show printG l[i] = [42] by unfold printG; rw [if_neg h1, if_pos h2]]; exact b
    · have h1 : l[i].k ≠ 1 := by simpa using h1
      have h2 : l[i].k ≠ 2 := by simpa using h2
      have h3 : l[i].k = 3 := by simpa using h3
      have hsp := h40 _ (List.getElem_mem hlt)
      have hil := items_le l[i].sp
      refine ⟨_, items_con l[i].sp (by omega), ?_, ?_, ?_⟩
      · show 1 + _ ≤ _; omega
      · rw [List.length_append]; show 1 + _ + 1 ≤ _; omega
      refine (wstr_con hb _ ?_).mono fun v h' ⟨e, b⟩ => ⟨_, .inl ⟨e, next _ ?_⟩⟩
      · rw [List.length_append, List.length_append]; show _ + (1 + _ + 1) < _; omega
      · rw [show printG l[i] = 91 :: (itemsS l[i].sp ++ [93]) by unfold printG; rw [if_neg h1, if_neg h2, if_pos h3]]
        exact b
    · have h1 : l[i].k ≠ 1 := by simpa using h1
      have h2 : l[i].k ≠ 2 := by simpa using h2
      have h3 : l[i].k ≠ 3 := by simpa using h3
      have htl := told_len (b8 l[i].b) [42, 63, 91, 92]
      refine ⟨_, told_con l[i].b _, ?_⟩
      refine (wstr_con hb (toldS (b8 l[i].b) [42, 63, 91, 92]) (by omega)).mono fun v h' ⟨e, b⟩ => ⟨_, .inl ⟨e, next _ ?_⟩⟩
      rw [show printG l[i] = toldS (b8 l[i].b) [42, 63, 91, 92] by unfold printG; rw [if_neg h1, if_neg h2, if_neg h3]]
      exact b
  · subst hK
    refine roundW_exit [4] (by kernel_rfl) rfl rfl ?_
    refine end_rule Try.Yok (loc := Try.Y.loc 25) 100 [2, 3] ?_
    refine Eq.mpr (f25_2 id h _) ?_
    rw [List.take_of_length_le hge] at hb h200
    refine (bstr_con hb (by omega)).mono fun v h' e => ⟨_, e, finV2 (.inr rfl) rfl (.s _) (.i _ _) ?_⟩
    rw [if_neg (by omega)]
end Go.Y

/- Arrive, Write, Room and what a side must be, by contracts. -/
namespace Go.Y
open Go.Proofs
set_option maxRecDepth 100000

theorem leaf_con {Y : YP} (hY : YOK Y) {f : FuncId} {fn : Func} (hf : Y.P.funcs[f]? = some fn) (hb : fn.body.isSome = true) {args : List V} (hc : coldAll args = true) {P : V → Prop} {slots : List Nat} {env' : List V} {m : Nat} {vs : List V}
    (tree : ∀ K, codeP Y (Y.loc f) 100 (flat (bodyOf fn)) ⟨env', [], .empty⟩ (VQ slots K) = K .ret m vs .empty) (he : args ++ List.replicate (fn.ntmps - args.length) .undef = env')
    (hfin : Fin Y fn slots (fun v h => ∃ r, Frz h v r ∧ P r) .ret m vs .empty) : PCon Y f args P := by
  refine pcon_of hY hf hb hc ?_
  rw [he]
  refine end_rule hY (loc := Y.loc f) 100 slots ?_
  rw [tree]
  exact hfin

/-! ### Arrive -/
theorem rowI_take1 (l : List Int) : List.take ((l.length - 1) * 1) (List.drop (1 * 1) (row encI l)) = row encI (l.drop 1) := by
  rw [rowI, rowI, ← List.map_drop, List.take_of_length_le (by simp)]

def side00 : Side := ⟨false, false, false, 0, 0, [], [], [], [], [], []⟩
def arriveS (s : Side) : Side × Int := match s.fly, s.ages with
  | b :: f, _ :: ag => ({ s with ready := s.ready ++ [b], fly := f, ages := ag }, 0)
  | _, _ => (side00, 10)

theorem frz_00 (h : Heap) : Frz h (.agg side0) (.agg (sideC side00)) :=
  frz_sideL (s := side00) (.sln _ _ _ (fun x hx => by cases hx)) (.sln _ _ _ (fun x hx => by cases hx))

theorem arrive_con (s : Side) (hl : s.ages.length < 2 ^ 30) (hr : s.ready.length < 2 ^ 30) : PCon Try.Y 21 [.agg (sideC s)] (· = .tup [.agg (sideC (arriveS s).1), .i .i64 (arriveS s).2]) := by
  refine pcon_of Try.Yok (fn := Try.f21) (by kernel_rfl) (by kernel_rfl) rfl (end_rule Try.Yok (loc := Try.Y.loc 21) 100 [2, 3] ?_)
  refine Eq.mpr (f21_0 s.on s.shut s.eof s.place s.clock s.typed (row encT s.lines) s.lines.length s.fly (row encI s.ages) s.ages.length s.ready s.buffer .empty _) ?_
  have no : arriveS s = (side00, 10) → Fin Try.Y Try.f21 [2, 3] (fun v h => ∃ r, Frz h v r ∧ r = .tup [.agg (sideC (arriveS s).1), .i .i64 (arriveS s).2]) .ret 31 [.lb side0, .i .i64 10] .empty := by
    intro e
    rw [e]
    exact finV2 (.inr rfl) rfl (frz_00 _) (.i _ _) rfl
  cases hf : s.fly with
  | nil => exact if_mk (fun _ => no (by simp [arriveS, hf])) (fun h => by simp at h)
  | cons b f =>
    refine if_mk (fun h => by simp at h) (fun _ => ?_)
    cases ha : s.ages with
    | nil => exact if_mk (fun _ => no (by simp [arriveS, hf, ha])) (fun h => by simp at h)
    | cons a ag =>
      refine if_mk (fun h => by simp at h; omega) (fun _ => ?_)
      have har : arriveS s = ({ s with ready := s.ready ++ [b], fly := f, ages := ag }, 0) := by simp [arriveS, hf, ha]
      have hag : List.take (((a :: ag).length - 1) * 1) (List.drop (1 * 1) (row encI (a :: ag))) = row encI ag := rowI_take1 (a :: ag)
      have hlen : (a :: ag).length - 1 = ag.length := by simp
      refine ⟨⟨by omega, by simp; omega⟩, ?_, ⟨by omega, by simp; omega⟩, ⟨by omega, by simp; omega⟩, ?_⟩
      · simp; omega
      · rw [har]
        have fin : ∀ (f' r' : List UInt8) (x : V) (h : Heap), f' = f → r' = s.ready ++ [b] → Frz h x (lst encI ag) → Fin Try.Y Try.f21 [2, 3] (fun v h => ∃ r, Frz h v r ∧ r = .tup [.agg (sideC { s with ready := s.ready ++ [b], fly := f, ages := ag }), .i .i64 0]) .ret 31
            [.lb (sideL { s with ready := r', fly := f' } (lst encT s.lines) x), .i .i64 0] h := by
          rintro f' r' x h rfl rfl hx
          exact finV2 (.inr rfl) rfl (frz_sideL (frz_ts _ _ _ _) hx) (.i _ _) rfl
        by_cases h0 : ag = []
        · refine .inr ⟨[], 0, some 0, ?_, fin (List.take ((b :: f).length - 1) (List.drop 1 (b :: f))) (s.ready ++ List.take (1 - 0) (List.drop 0 (b :: f))) (.ts [] 0 (some 0)) .empty (by simp) (by simp) (by rw [h0]; exact frz_ts _ _ _ _)⟩
          rw [h0]; exact clone54e none
        · refine .inl (?_ : Con Try.Y 54 [.ts (List.take (((a :: ag).length - 1) * 1) (List.drop (1 * 1) (row encI (a :: ag)))) ((a :: ag).length - 1) none] .empty _)
          rw [hag, hlen]
          refine (clone54n ag none .empty h0 (by rw [ha] at hl; simp at hl; omega)).mono fun v h' ⟨e1, e2⟩ => ⟨_, _, _, _, e1, ?_⟩
          have hg : h'.get Heap.empty.nx = some (.arr (row encI ag) true) := by rw [e2]; simp
          exact fin (List.take ((b :: f).length - 1) (List.drop 1 (b :: f))) (s.ready ++ List.take (1 - 0) (List.drop 0 (b :: f))) _ _ (by simp) (by simp) (frz_obj hg)

/-! ### Room -/
def roomS (s : Side) (cap : Int) : Int := IntKind.i64.wrap (IntKind.i64.wrap (cap - s.fly.length) - s.ready.length)
theorem room_con (s : Side) (cap : Int) (cs : List V) (n : Nat) : PCon Try.Y 52 [.agg (sideC s), .agg [.i .i64 cap, .ts cs n none]] (· = .i .i64 (roomS s cap)) :=
  leaf_con Try.Yok (fn := Try.f52) (by kernel_rfl) (by kernel_rfl) rfl (fun K => f52_0 s.on s.shut s.eof s.place s.clock s.typed (row encT s.lines) s.lines.length s.fly (row encI s.ages) s.ages.length s.ready s.buffer cap cs n .empty K) rfl
    (finV1 (.inr rfl) rfl (.i _ _) rfl)
theorem rroom_con (s : Side) (cap : Int) (cs : List V) (n : Nat) : PCon Try.Y 62 [.agg (sideC s), .agg [.i .i64 cap, .ts cs n none]] (· = .i .i64 (roomS s cap)) :=
  leaf_con Try.Yok (fn := Try.f62) (by kernel_rfl) (by kernel_rfl) rfl (fun K => f62_0 s.on s.shut s.eof s.place s.clock s.typed (row encT s.lines) s.lines.length s.fly (row encI s.ages) s.ages.length s.ready s.buffer cap cs n .empty K) rfl
    (finV1 (.inr rfl) rfl (.i _ _) rfl)

/-! ### Write -/
def writeS (s : Side) (cap : Int) (t : List UInt8) : Side × Bool := if roomS s cap < (t.length : Nat) then (s, false) else ({ s with fly := s.fly ++ t, ages := s.ages ++ List.replicate t.length 0 }, true)

/-- Zeros behind a list. -/
theorem zeros_src (h : Heap) (m : Nat) (hm : m < 2 ^ 29) : source Try.Y ⟨[], [], h⟩ ⟨1, 8, .int .i64, [.i .i64 0]⟩ 3 (.i .i64 (m : Nat)) = some (m, row encI (List.replicate m 0)) := by
  have hk : Try.Y.kd 3 = some (.int .i64) := by kernel_rfl
  have hmost : most = 1099511627776 := by decide
  have e : (List.replicate m [V.i IntKind.i64 0]).flatten = row encI (List.replicate m 0) := by rw [row, List.map_replicate]
  simp only [source, hk]
  rw [if_pos ⟨by omega, by omega, by simp; omega⟩, Int.toNat_natCast, e]
theorem zeros_app {h : Heap} {id : Nat} {l : List Int} {m : Nat} (hg : h.get id = some (.arr (row encI l) true)) (hm : m < 2 ^ 29) (h0 : m ≠ 0) (hl : l.length < 2 ^ 29) :
    ∃ h', appendH Try.Y h 41 3 (.sl (some (id, 0)) l.length none 1) (.i .i64 (m : Nat)) = some (.sl (some (h.nx, 0)) (l.length + m) none 1, h') ∧ h'.get h.nx = some (.arr (row encI (l ++ List.replicate m 0)) true) := by
  have hk : Try.Y.kd 41 = some (.slice 3) := by kernel_rfl
  have hte : Try.Y.ty 3 = some ⟨1, 8, .int .i64, [.i .i64 0]⟩ := by kernel_rfl
  have hmost : most = 1099511627776 := by decide
  have hlen := rowI_len l
  have hb : ¬ ((l.length + m) * 8 > most ∨ l.length + m > most) := by omega
  have hne : ¬ (0 + (l.length + m) * 1 ≤ (row encI l).length) := by omega
  have htk : takeX (l.length * 1) ((row encI l).drop 0) = some (row encI l) := by rw [List.drop_zero]; exact takeX_len (by omega)
  refine ⟨(h.set id none).pushT (if 0 = 0 ∧ h.tagOf id = some 3 then some 3 else none) (.arr (row encI l ++ row encI (List.replicate m 0)) true), ?_, ?_⟩
  · simp only [appendH, appendY, hk, hte, zeros_src h m hm, if_false, h0, ne_eq, not_true_eq_false, hb, hg, hne, Bool.true_or, if_true, htk]
    rw [if_neg (by simp [rowI_all])]
  · rw [Heap.get_pushT, if_pos (by simp), row_append]
theorem zeros_app0 {h : Heap} {m : Nat} (hm : m < 2 ^ 29) (h0 : m ≠ 0) :
    ∃ h', appendH Try.Y h 41 3 (.ts [] 0 (some 0)) (.i .i64 (m : Nat)) = some (.sl (some (h.nx, 0)) m none 1, h') ∧ h'.get h.nx = some (.arr (row encI (List.replicate m 0)) true) := by
  have hk : Try.Y.kd 41 = some (.slice 3) := by kernel_rfl
  have hte : Try.Y.ty 3 = some ⟨1, 8, .int .i64, [.i .i64 0]⟩ := by kernel_rfl
  have hmost : most = 1099511627776 := by decide
  have hb : ¬ ((0 + m) * 8 > most ∨ 0 + m > most) := by omega
  have hle : ¬ (0 + m ≤ 0) := by omega
  refine ⟨h.push (.arr (row encI (List.replicate m 0)) true), ?_, by simp⟩
  simp only [appendH, appendY, hk, hte, zeros_src h m hm, if_false, h0, hb, hle]
  rw [if_neg (by simp [rowI_all])]
  simp [takeX]

theorem write_con (s : Side) (cap : Int) (cs : List V) (n : Nat) (t : List UInt8) (hl : s.ages.length < 2 ^ 29) (hf : s.fly.length < 2 ^ 30) (ht : t.length < 2 ^ 29) (h0 : t ≠ []) :
    PCon Try.Y 22 [.agg (sideC s), .agg [.i .i64 cap, .ts cs n none], .s t] (· = .tup [.agg (sideC (writeS s cap t).1), .b (writeS s cap t).2]) := by
  refine pcon_of Try.Yok (fn := Try.f22) (by kernel_rfl) (by kernel_rfl) rfl (end_rule Try.Yok (loc := Try.Y.loc 22) 100 [6, 7] ?_)
  refine Eq.mpr (f22_0 s.on s.shut s.eof s.place s.clock s.typed (row encT s.lines) s.lines.length s.fly (row encI s.ages) s.ages.length s.ready s.buffer cap cs n t .empty _) ?_
  refine ⟨_, room_con s cap cs n, if_lt (fun hlt => ?_) (fun hge => ⟨by omega, ?_⟩)⟩
  · have : writeS s cap t = (s, false) := by unfold writeS; rw [if_pos hlt]
    rw [this]
    exact finV2 (.inr rfl) rfl (frz_sideL (frz_ts _ _ _ _) (frz_ts _ _ _ _)) (.b _) rfl
  · have : writeS s cap t = ({ s with fly := s.fly ++ t, ages := s.ages ++ List.replicate t.length 0 }, true) := by unfold writeS; rw [if_neg (by omega)]
    rw [this]
    have fin : ∀ (x : V) (h : Heap), Frz h x (lst encI (s.ages ++ List.replicate t.length 0)) → Fin Try.Y Try.f22 [6, 7] (fun v h => ∃ r, Frz h v r ∧ r = .tup [.agg (sideC { s with fly := s.fly ++ t, ages := s.ages ++ List.replicate t.length 0 }), .b true]) .ret 28
        [.lb (sideL { s with fly := s.fly ++ t } (lst encT s.lines) x), .b true] h := by
      intro x h hx
      exact finV2 (.inr rfl) rfl (frz_sideL (s := { s with fly := s.fly ++ t }) (frz_ts _ _ _ _) hx) (.b _) rfl
    have h0' : t.length ≠ 0 := by simpa using h0
    by_cases ha : s.ages = []
    · obtain ⟨h', q1, q2⟩ := zeros_app0 (h := .empty) ht h0'
      refine .inr ⟨[], 0, some 0, by rw [ha]; exact clone54e none, .inl ⟨_, _, _, _, h', q1, fin _ _ ?_⟩⟩
      have := frz_obj q2
      rw [List.length_replicate] at this
      rw [ha]; exact this
    · refine .inl ((clone54n s.ages none .empty ha (by omega)).mono fun v h' ⟨e1, e2⟩ => ?_)
      have hg : h'.get Heap.empty.nx = some (.arr (row encI s.ages) true) := by rw [e2]; simp
      obtain ⟨h2, q1, q2⟩ := zeros_app hg ht h0' hl
      refine ⟨_, _, _, _, e1, _, _, _, _, h2, q1, fin _ _ ?_⟩
      have := frz_obj q2
      rw [List.length_append, List.length_replicate] at this
      exact this

/-! ### lines -/
def lineS (s : List UInt8) : Bool := decide (s.length ≤ 16) && !s.contains 10
theorem line_con (s : List UInt8) : PCon Try.Y 56 [.s s] (· = .b (lineS s)) := by
  refine pcon_of Try.Yok (fn := Try.f56) (by kernel_rfl) (by kernel_rfl) rfl (end_rule Try.Yok (loc := Try.Y.loc 56) 100 [2] ?_)
  refine Eq.mpr (f56_0 s _ _) ?_
  refine if_le (fun hle => ⟨_, index_con s 10, finV1 (.inr rfl) rfl (.b _) ?_⟩) (fun hgt => finV1 (.inr rfl) rfl (.b _) ?_)
  · have := idx_contains s 10 0
    have h16 : s.length ≤ 16 := by omega
    have hc : (10 : Int).toNat.toUInt8 = (10 : UInt8) := rfl
    rw [hc]
    unfold lineS
    rw [← this, show decide (s.length ≤ 16) = true by simp [h16], Bool.true_and]
    simp only [ltI, leI]
    by_cases hx : idxFrom s 10 0 < 0
    · have : ¬ 0 ≤ idxFrom s 10 0 := by omega
      simp [hx, this]
    · have : 0 ≤ idxFrom s 10 0 := by omega
      simp [hx, this]
  · have h16 : ¬ s.length ≤ 16 := by omega
    simp [lineS, h16]
theorem notline_con (s : List UInt8) : PCon Try.Y 58 [.s s] (· = .b (!lineS s)) := by
  refine pcon_of Try.Yok (fn := Try.f58) (by kernel_rfl) (by kernel_rfl) rfl (end_rule Try.Yok (loc := Try.Y.loc 58) 100 [2] ?_)
  exact Eq.mpr (f58_0 s _ _) ⟨_, line_con s, finV1 (.inr rfl) rfl (.b _) rfl⟩

theorem indexLn  (l : List (List UInt8)) (p : (List UInt8) → Bool) (h : Heap) (hl : l.length < 2 ^ 30) (hp : ∀ x ∈ l, PCon Try.Y 58 (encT x) (· = .b (p x))) :
    Con Try.Y 101 [lst encT l, .fn (.func 58) [] []] h fun v h' => ∃ n : Int, v = .i .i64 n ∧ leI 0 n = l.any p ∧ h' = h := by
  refine conz_of Try.Yok (fn := Try.f101) (by kernel_rfl) (by kernel_rfl) ?_
  refine pre_rule Try.Yok (n := 19) (loc := Try.Y.loc 101) 100 [0, 1, 7, 8] (by kernel_rfl) ?_
  refine Eq.mpr (f101s_0 (row encT l) l.length  h _) ?_
  refine ⟨rfl, loop2 [0, 1, 7, 8] [0, 1, 4, 7, 8] rfl (by kernel_rfl) (fun m vs h' => ∃ i : Nat, vs = [lst encT l, .fn (.func 58) [] [], .i .i64 l.length, .i .i64 (i : Nat)] ∧ i ≤ l.length ∧ (l.take i).any p = false ∧ m = l.length - i ∧ h' = h) l.length mk_len ⟨0, rfl, by omega, rfl, by omega, rfl⟩ ?_⟩
  rintro m vs h' ⟨i, rfl, hi, hno, rfl, rfl⟩
  refine all_rule Try.Yok (loc := Try.Y.loc 101) 100 [0, 1, 4, 7, 8] ?_
  refine Eq.mpr (f101s_1 (row encT l) l.length  (i : Nat) h' _) ?_
  refine if_lt_nat (fun hlt => ?_) (fun hge => ?_)
  · have hget : takeX 1 (List.drop ((i : Int).toNat * 1) (row encT l)) = some (encT l[i]) := by rw [Int.toNat_natCast]; exact row_get (f := encT) (k := 1) (fun _ => rfl) hlt
    refine ⟨bnd_nat hlt, _, hget, p l[i], hp l[i] (List.getElem_mem hlt), if_mk (fun hc => ?_) (fun hc => ?_)⟩
    · refine fin_at (.inr rfl) rfl (.now ⟨(i : Nat), rfl, ?_, rfl⟩)
      have : l.any p = true := List.any_eq_true.2 ⟨l[i], List.getElem_mem hlt, hc⟩
      rw [this]; simp [leI]
    · refine ⟨rfl, l.length - (i + 1), by omega, i + 1, ?_, by omega, ?_, rfl, rfl⟩
      · rw [wrap_succ (by omega)]; rfl
      · rw [List.take_succ_eq_append_getElem hlt, List.any_append, hno]; simp [hc]
  · refine roundW_exit [] (by kernel_rfl) rfl rfl ?_
    refine end_rule Try.Yok (loc := Try.Y.loc 101) 100 [4] ?_
    refine Eq.mpr (f101s_2 h' _) ?_
    rw [List.take_of_length_le hge] at hno
    exact finC (.inr rfl) rfl (.now ⟨-1, rfl, by rw [hno]; rfl, rfl⟩)

theorem containsLn  (l : List (List UInt8)) (p : (List UInt8) → Bool) (h : Heap) (hl : l.length < 2 ^ 30) (hp : ∀ x ∈ l, PCon Try.Y 58 (encT x) (· = .b (p x))) :
    Con Try.Y 57 [lst encT l, .fn (.func 58) [] []] h fun v h' => v = .b (l.any p) ∧ h' = h := by
  refine conz_of Try.Yok (fn := Try.f57) (by kernel_rfl) (by kernel_rfl) (end_rule Try.Yok (loc := Try.Y.loc 57) 100 [4] ?_)
  refine Eq.mpr (f57s_0 (row encT l) l.length  h _) ?_
  refine (indexLn  l p h hl hp).mono fun v h' ⟨n, e1, e2, e3⟩ => ⟨n, e1, ?_⟩
  subst e3
  rw [e2]
  exact finC (.inr rfl) rfl (.now ⟨rfl, rfl⟩)

end Go.Y
