/- souffleurref03.Items, by its contract. -/
import Derived.Test.YtpddiafjmkjpmaaGPrint
import Derived.Test.YtpddiafjmkjpmaaGA1
namespace Go.Y
open Go.Proofs
set_option maxRecDepth 100000

theorem b8_lit {n : Int} (hn : byteR n) (c : UInt8) : (n == ((c.toNat : Nat) : Int)) = decide (b8 n = c) := by
  have h1 : (n == ((c.toNat : Nat) : Int)) = ((((b8 n).toNat : Nat) : Int) == ((c.toNat : Nat) : Int)) := by rw [b8_nat hn]
  rw [h1, u8_eq]
  rfl

theorem within_con (n : Int) (hn : byteR n) : PCon Try.Y 107 [.i .u8 n] (· = .s (toldS (b8 n) [93, 45, 92])) := by
  refine pcon_of Try.Yok (fn := Try.f107) (by kernel_rfl) (by kernel_rfl) rfl (end_rule Try.Yok (loc := Try.Y.loc 107) 100 [2] ?_)
  refine Eq.mpr (f107_0 n _ _) ?_
  rw [show (93 : Int) = (((93 : UInt8).toNat : Nat) : Int) by decide, show (45 : Int) = (((45 : UInt8).toNat : Nat) : Int) by decide, show (92 : Int) = (((92 : UInt8).toNat : Nat) : Int) by decide, b8_lit hn, b8_lit hn, b8_lit hn]
  unfold toldS
  have yes : b8 n = 93 ∨ b8 n = 45 ∨ b8 n = 92 → ∃ l : List UInt8, some (Q.val (.s [UInt8.ofNat n.toNat])) = some (Q.val (.s l)) ∧ ([92] : List UInt8).length + l.length ≤ 1152921504606846976 ∧ Fin Try.Y Try.f107 [2] (fun v h => ∃ r, Frz h v r ∧ r = .s (if ([93, 45, 92] : List UInt8).contains (b8 n) then [92, b8 n] else [b8 n])) .ret 20 [.s ([92] ++ l)] .empty := by
    intro hc
    refine ⟨_, rfl, by simp, finV1 (.inr rfl) rfl (.s _) ?_⟩
    have : ([93, 45, 92] : List UInt8).contains (b8 n) = true := by simpa using hc
    rw [if_pos this]; rfl
  refine if_dec (fun h1 => yes (.inl h1)) (fun h1 => if_dec (fun h2 => yes (.inr (.inl h2))) (fun h2 => if_dec (fun h3 => yes (.inr (.inr h3))) (fun h3 => ⟨_, rfl, finV1 (.inr rfl) rfl (.s _) ?_⟩)))
  have : ¬ ([93, 45, 92] : List UInt8).contains (b8 n) = true := by simp [h1, h2, h3]
  rw [if_neg this]; rfl

def RItemsI (l : List Span) (m : Nat) (vs : List V) (_ : Heap) : Prop :=
  ∃ i : Nat, vs = [lst encS l, .s (itemsS (l.take i)), .i .i64 (i : Nat)] ∧ i ≤ l.length ∧ m = l.length - i

theorem ritems_con (l : List Span) (hl : l.length < 2 ^ 20) (hw : ∀ x ∈ l, wfSpan x) : PCon Try.Y 72 [lst encS l] (· = .s (itemsS l)) := by
  refine pcon_of Try.Yok (fn := Try.f72) (by kernel_rfl) (by kernel_rfl) rfl ?_
  refine pre_rule Try.Yok (n := 40) (loc := Try.Y.loc 72) 100 [0, 3, 4] (by kernel_rfl) ?_
  refine Eq.mpr (f72_0 (row encS l) l.length .empty _) ?_
  refine ⟨rfl, loop2 [0, 3, 4] [0, 3, 4] rfl (by kernel_rfl) (RItemsI l) l.length mk_len ⟨0, rfl, by omega, by omega⟩ ?_⟩
  rintro m vs h ⟨i, rfl, hi, rfl⟩
  refine all_rule Try.Yok (loc := Try.Y.loc 72) 100 [0, 3, 4] ?_
  refine Eq.mpr (f72_1 (row encS l) l.length (itemsS (l.take i)) (i : Nat) h _) ?_
  have hle := items_le (l.take i)
  have hle2 : (l.take i).length ≤ l.length := by simp; omega
  refine if_lt_nat (fun hlt => ?_) (fun hge => ?_)
  · have rc := row_cons encS_len l hlt
    rw [Int.toNat_natCast, rc]
    have wf := hw _ (List.getElem_mem hlt)
    have next : ∀ t, t = itemsS (l.take i) ++ spanS l[i] → RoundW Try.Y 40 [0, 3, 4] [0, 3, 4] (RItemsI l) (l.length - i) (loopId (post (flat (bodyOf Try.f72)))) ((post (flat (bodyOf Try.f72))).drop 1) (FinS Try.Y Try.f72 fun v h => ∃ r, Frz h v r ∧ r = .s (itemsS l))
        .normal 40 [lst encS l, .s t, .i .i64 (IntKind.i64.wrap ((i : Nat) + 1))] h := by
      intro t ht
      refine ⟨rfl, l.length - (i + 1), by omega, i + 1, ?_, by omega, rfl⟩
      rw [wrap_succ (by omega), List.take_succ_eq_append_getElem hlt, items_snoc, ht]; rfl
    have h1 := told_len (b8 l[i].lo) [93, 45, 92]
    have h2 := told_len (b8 l[i].hi) [93, 45, 92]
    refine ⟨bnd_nat hlt, l[i].lo, rfl, _, within_con l[i].lo wf.1, by omega, bnd_nat hlt, l[i].hi, rfl, bnd_nat hlt, l[i].lo, rfl, if_mk (fun hne => ?_) (fun hne => next _ ?_)⟩
    · have hne' : l[i].hi ≠ l[i].lo := by simpa using hne
      refine ⟨?_, bnd_nat hlt, l[i].hi, rfl, _, within_con l[i].hi wf.2, ?_, next _ ?_⟩
      · rw [List.length_append]; show _ + 1 ≤ _; omega
      · rw [List.length_append, List.length_append]; show _ + 1 + _ ≤ _; omega
      · unfold spanS
        rw [if_pos hne', List.append_assoc, List.append_assoc]; rfl
    · have heq : ¬ l[i].hi ≠ l[i].lo := by simpa using hne
      unfold spanS
      rw [if_neg heq, List.append_nil]
  · refine roundW_exit [3] (by kernel_rfl) rfl rfl ?_
    refine end_rule Try.Yok (loc := Try.Y.loc 72) 100 [2] ?_
    refine Eq.mpr (f72_2 (itemsS (l.take i)) h _) ?_
    exact finV1 (.inr rfl) rfl (.s _) (by rw [List.take_of_length_le hge])
end Go.Y

/- souffleurref03.Print, by its contract. -/
namespace Go.Y
open Go.Proofs
set_option maxRecDepth 100000

theorem if_yes {b : Bool} {P Q : Prop} (hb : b = true) (hp : P) : If b P Q := if_mk (fun _ => hp) (fun h => by rw [hb] at h; cases h)
theorem if_no {b : Bool} {P Q : Prop} (hb : b = false) (hp : Q) : If b P Q := if_mk (fun h => by rw [hb] at h; cases h) (fun _ => hp)

theorem printG_len {g : Glob} (h : g.sp.length ≤ 40) : (printG g).length ≤ 202 := by
  unfold printG
  have h1 := told_len (b8 g.b) [42, 63, 91, 92]
  have h2 := items_le g.sp
  split
  · simp
  · split
    · simp
    · split
      · rw [List.length_cons, List.length_append, List.length_singleton]; omega
      · omega
theorem printS_len : ∀ {l : List Glob}, (∀ g ∈ l, g.sp.length ≤ 40) → (printS l).length ≤ 202 * l.length
  | [], _ => by simp [printS]
  | g :: l, h => by
    have h1 := printG_len (h g (by simp))
    have h2 := printS_len (l := l) (fun x hx => h x (by simp [hx]))
    rw [print_cons, List.length_append, List.length_cons]; omega

def RPrintI (l : List Glob) (m : Nat) (vs : List V) (_ : Heap) : Prop :=
  ∃ i : Nat, vs = [lst encG l, .s (printS (l.take i)), .i .i64 (i : Nat)] ∧ i ≤ l.length ∧ m = l.length - i

theorem rprint_con (l : List Glob) (hs : okG l) (h40 : ∀ g ∈ l, g.sp.length ≤ 40) (hw : ∀ g ∈ l, wfGlob g) (hmay : mayS l = true) : PCon Try.Y 27 [lst encG l] (· = .s (printS l)) := by
  have hl := hs.1
  have hone : ∀ g ∈ l, oneS g = true := by rw [mayS, List.all_eq_true] at hmay; exact hmay
  refine pcon_of Try.Yok (fn := Try.f27) (by kernel_rfl) (by kernel_rfl) rfl ?_
  refine pre_rule Try.Yok (n := 66) (loc := Try.Y.loc 27) 100 [0, 3, 4] (by kernel_rfl) ?_
  refine Eq.mpr (f27_0 (row encG l) l.length .empty _) ?_
  refine ⟨rfl, loop2 [0, 3, 4] [0, 3, 4] rfl (by kernel_rfl) (RPrintI l) l.length mk_len ⟨0, rfl, by omega, by omega⟩ ?_⟩
  rintro m vs h ⟨i, rfl, hi, rfl⟩
  refine all_rule Try.Yok (loc := Try.Y.loc 27) 100 [0, 3, 4] ?_
  refine Eq.mpr (f27_1 (row encG l) l.length (printS (l.take i)) (i : Nat) h _) ?_
  have hle : (printS (l.take i)).length ≤ 202 * (l.take i).length := printS_len fun g hg => h40 g (List.mem_of_mem_take hg)
  have hle2 : (l.take i).length ≤ l.length := by simp; omega
  have hlb : l.length < 2 ^ 30 := by omega
  generalize hK : RoundW Try.Y 66 [0, 3, 4] [0, 3, 4] (RPrintI l) (l.length - i) (loopId (post (flat (bodyOf Try.f27)))) ((post (flat (bodyOf Try.f27))).drop 1) (FinS Try.Y Try.f27 fun v h => ∃ r, Frz h v r ∧ r = .s (printS l)) = K
  refine if_lt_nat (fun hlt => ?_) (fun hge => ?_)
  · rw [Int.toNat_natCast]
    have g40 := h40 _ (List.getElem_mem hlt)
    have gw := hw _ (List.getElem_mem hlt)
    have g1 := hone _ (List.getElem_mem hlt)
    have next : ∀ t, t = printS (l.take i) ++ printG l[i] → K .normal 66 [lst encG l, .s t, .i .i64 (IntKind.i64.wrap ((i : Nat) + 1))] h := by
      intro t ht
      subst hK
      refine ⟨rfl, l.length - (i + 1), by omega, i + 1, ?_, by omega, rfl⟩
      rw [wrap_succ (by omega), List.take_succ_eq_append_getElem hlt, print_snoc, ht]; rfl
    refine ⟨bnd_nat hlt, _, _, _, _, _, row_get encG_len hlt, ?_⟩
    have hil := items_le l[i].sp
    by_cases h1 : l[i].k = 1
    · refine if_yes (by rw [h1]; rfl) ⟨by show _ + 1 ≤ _; omega, if_no (by rw [h1]; rfl) (if_no (by rw [h1]; rfl) (if_no (by rw [h1]; rfl) (next _ ?_)))⟩
      rw [show printG l[i] = [63] by unfold printG; rw [if_pos h1]]
    by_cases h2 : l[i].k = 2
    · refine if_no (by rw [h2]; rfl) (if_yes (by rw [h2]; rfl) ⟨by show _ + 1 ≤ _; omega, if_no (by rw [h2]; rfl) (if_no (by rw [h2]; rfl) (next _ ?_))⟩)
      rw [show printG l[i] = [42] by unfold printG; rw [if_neg h1, if_pos h2]]
    by_cases h3 : l[i].k = 3
    · refine if_no (by rw [h3]; rfl) (if_no (by rw [h3]; rfl) (if_yes (by rw [h3]; rfl) ⟨by show _ + 1 ≤ _; omega, _, ritems_con l[i].sp (by omega) gw.2, ?_, ?_, if_no (by rw [h3]; rfl) (next _ ?_)⟩))
      · rw [List.length_append]; show _ + 1 + _ ≤ _; omega
      · rw [List.length_append, List.length_append]; show _ + 1 + _ + 1 ≤ _; omega
      · rw [show printG l[i] = 91 :: (itemsS l[i].sp ++ [93]) by unfold printG; rw [if_neg h1, if_neg h2, if_pos h3]]
        simp
    · have h0 : l[i].k = 0 := by
        by_cases h0 : l[i].k = 0
        · exact h0
        · simp [oneS, h0, h1, h2, h3] at g1
      refine if_no (by rw [h0]; rfl) (if_no (by rw [h0]; rfl) (if_no (by rw [h0]; rfl) (if_yes (by rw [h0]; rfl) ?_)))
      have hp : printG l[i] = toldS (b8 l[i].b) [42, 63, 91, 92] := by unfold printG; rw [if_neg h1, if_neg h2, if_neg h3]
      rw [show (42 : Int) = (((42 : UInt8).toNat : Nat) : Int) by decide, show (63 : Int) = (((63 : UInt8).toNat : Nat) : Int) by decide, show (91 : Int) = (((91 : UInt8).toNat : Nat) : Int) by decide, show (92 : Int) = (((92 : UInt8).toNat : Nat) : Int) by decide, b8_lit gw.1, b8_lit gw.1, b8_lit gw.1, b8_lit gw.1]
      have yes : ([42, 63, 91, 92] : List UInt8).contains (b8 l[i].b) = true → (printS (l.take i)).length + 1 ≤ 1152921504606846976 ∧ ∃ t : List UInt8, some (Q.val (.s [UInt8.ofNat l[i].b.toNat])) = some (Q.val (.s t)) ∧ (printS (l.take i) ++ [92]).length + t.length ≤ 1152921504606846976 ∧ K .normal 66 [lst encG l, .s (printS (l.take i) ++ [92] ++ t), .i .i64 (IntKind.i64.wrap ((i : Nat) + 1))] h := by
        intro hc
        refine ⟨by omega, _, rfl, by rw [List.length_append]; show _ + 1 + 1 ≤ _; omega, next _ ?_⟩
        rw [hp]; unfold toldS; rw [if_pos hc, List.append_assoc]; rfl
      refine if_dec (fun q => yes (by simp [q])) (fun q1 => if_dec (fun q => yes (by simp [q])) (fun q2 => if_dec (fun q => yes (by simp [q])) (fun q3 => if_dec (fun q => yes (by simp [q])) (fun q4 => ⟨_, rfl, by show _ + 1 ≤ _; omega, next _ ?_⟩))))
      have : ¬ ([42, 63, 91, 92] : List UInt8).contains (b8 l[i].b) = true := by simp [q1, q2, q3, q4]
      rw [hp]; unfold toldS; rw [if_neg this]; rfl
  · subst hK
    refine roundW_exit [3] (by kernel_rfl) rfl rfl ?_
    refine end_rule Try.Yok (loc := Try.Y.loc 27) 100 [2] ?_
    refine Eq.mpr (f27_2 (printS (l.take i)) h _) ?_
    exact finV1 (.inr rfl) rfl (.s _) (by rw [List.take_of_length_le hge])
end Go.Y
