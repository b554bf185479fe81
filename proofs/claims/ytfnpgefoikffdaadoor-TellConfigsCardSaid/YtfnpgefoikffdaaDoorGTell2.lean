/- Traces as lines: names of faults, lines of choices. -/
import Derived.Test.YtfnpgefoikffdaaDoorTD6
namespace Go.Y
open Go.Proofs Go.Lib
set_option maxRecDepth 100000
set_option linter.unusedVariables false
set_option linter.unusedSimpArgs false

def hasI (l : List Int) (x : Int) : Bool := l.any fun y => x == y
def idxI (l : List Int) (x : Int) : Int := if hasI l x then (l.findIdx (fun y => x == y) : Nat) else -1
theorem idxI_ok (l : List Int) (x : Int) : leI 0 (idxI l x) = hasI l x := by
  unfold idxI
  by_cases h : hasI l x = true
  · rw [if_pos h, h]; simp [leI]
  · have h : hasI l x = false := by simpa using h
    rw [h]; rfl

theorem index45 (l : List Int) (x : Int) (hl : l.length < 2 ^ 20) : PCon Tryd.Y 45 [lst encI l, .i .i64 x] (· = .i .i64 (idxI l x)) := by
  refine pcon_of Tryd.Yok (fn := Tryd.f45) (by kernel_rfl) (by kernel_rfl) rfl ?_
  refine pre_rule Tryd.Yok (n := 19) (loc := Tryd.Y.loc 45) 100 [0, 1, 7, 8] (by kernel_rfl) ?_
  refine Eq.mpr (f45_0 (row encI l) l.length x .empty _) ?_
  refine ⟨rfl, loop2 [0, 1, 7, 8] [0, 1, 4, 7, 8] rfl (by kernel_rfl) (fun m vs _ => ∃ i : Nat, vs = [lst encI l, .i .i64 x, .i .i64 l.length, .i .i64 (i : Nat)] ∧ i ≤ l.length ∧ hasI (l.take i) x = false ∧ m = l.length - i) l.length mk_len ⟨0, rfl, by omega, by simp [hasI], by omega⟩ ?_⟩
  rintro m vs h ⟨i, rfl, hi, hno, rfl⟩
  refine all_rule Tryd.Yok (loc := Tryd.Y.loc 45) 100 [0, 1, 4, 7, 8] ?_
  refine Eq.mpr (f45_1 (row encI l) l.length x (i : Nat) h _) ?_
  refine if_lt_nat (fun hlt => ?_) (fun hge => ?_)
  · refine ⟨bnd_nat hlt, _, getI l hlt, if_mk (fun hc => ?_) (fun hc => ?_)⟩
    · refine fin_at (.inr rfl) rfl ⟨_, .i _ _, ?_⟩
      have h1 : hasI l x = true := List.any_eq_true.2 ⟨l[i], List.getElem_mem hlt, hc⟩
      have h2 : l.findIdx (fun y => x == y) = i := (List.findIdx_eq hlt).2 ⟨hc, fun j hj => by
        have := List.any_eq_false.1 hno l[j] (List.mem_take_iff_getElem.2 ⟨j, by omega, rfl⟩)
        simpa using this⟩
      unfold idxI
      rw [if_pos h1, h2]
    · refine ⟨rfl, l.length - (i + 1), by omega, i + 1, by rw [wrap_succ (by omega)]; rfl, by omega, ?_, rfl⟩
      unfold hasI at hno ⊢
      rw [List.take_succ_eq_append_getElem hlt, List.any_append, hno]; simp only [List.any_cons, List.any_nil, hc, Bool.or_false]
  · refine roundW_exit [] (by kernel_rfl) rfl rfl ?_
    refine end_rule Tryd.Yok (loc := Tryd.Y.loc 45) 100 [4] ?_
    refine Eq.mpr (f45_2 h _) ?_
    rw [List.take_of_length_le hge] at hno
    exact finV1 (.inr rfl) rfl (.i _ _) (by unfold idxI; rw [hno]; rfl)

theorem contains32 (l : List Int) (x : Int) (hl : l.length < 2 ^ 20) : PCon Tryd.Y 32 [lst encI l, .i .i64 x] (· = .b (hasI l x)) :=
  tree_con Tryd.Yok (fn := Tryd.f32) (by kernel_rfl) (by kernel_rfl) rfl (fun K => f32_0 (row encI l) l.length x .empty K) rfl ⟨_, index45 l x hl, finV1 (.inr rfl) rfl (.b _) (by rw [idxI_ok])⟩


/-! ### names of faults -/
def nameS (k : Int) : List UInt8 :=
  if k = 1 then [100, 101, 97, 100, 108, 111, 99, 107] else if k = 2 then [111, 117, 116, 112, 117, 116] else if k = 3 then [101, 111, 102] else if k = 4 then [101, 114, 114, 111, 114] else [110, 111, 110, 101]
theorem nameS_len (k : Int) : (nameS k).length ≤ 8 := by
  unfold nameS
  repeat' split
  all_goals simp
theorem four (k : Int) : hasI [1, 2, 3, 4] k = true → k = 1 ∨ k = 2 ∨ k = 3 ∨ k = 4 := by
  simp [hasI]
theorem name_con (k : Int) : PCon Tryd.Y 15 [.i .i64 k] (· = .s (nameS k)) := by
  refine tree_con Tryd.Yok (fn := Tryd.f15) (by kernel_rfl) (by kernel_rfl) rfl (fun K => f15_0 k .empty K) rfl ?_
  have hc : PCon Tryd.Y 32 [.ts [.i .i64 1, .i .i64 2, .i .i64 3, .i .i64 4] 4 (some 4), .i .i64 k] (· = .b (hasI [1, 2, 3, 4] k)) :=
    (contains32 [1, 2, 3, 4] k (by simp)).wk (.one _ _ _ _ (.inr (.inr ⟨_, _, _, rfl, rfl⟩)) (.one _ _ _ _ (.inl rfl) .nil))
  refine ⟨_, hc, if_mk (fun h => ?_) (fun h => ?_)⟩
  · refine ⟨⟨by omega, by decide⟩, _, rfl, finV1 (.inr rfl) rfl (.s _) ?_⟩
    have h : hasI [1, 2, 3, 4] k = false := by simpa using h
    simp [hasI] at h
    simp [nameS, h]
  · have h : hasI [1, 2, 3, 4] k = true := by simpa using h
    rcases four k h with rfl | rfl | rfl | rfl
    all_goals exact ⟨⟨by omega, by decide⟩, _, rfl, finV1 (.inr rfl) rfl (.s _) rfl⟩
theorem rname_con (k : Int) : PCon Tryd.Y 20 [.i .i64 k] (· = .s (nameS k)) := by
  refine tree_con Tryd.Yok (fn := Tryd.f20) (by kernel_rfl) (by kernel_rfl) rfl (fun K => f20_0 k .empty K) rfl ?_
  refine if_lt (fun h => finV1 (.inr rfl) rfl (.s _) ?_) (fun h => if_lt (fun h2 => finV1 (.inr rfl) rfl (.s _) ?_) (fun h2 => ?_))
  · simp [nameS, show k ≠ 1 by omega, show k ≠ 2 by omega, show k ≠ 3 by omega, show k ≠ 4 by omega]
  · simp [nameS, show k ≠ 1 by omega, show k ≠ 2 by omega, show k ≠ 3 by omega, show k ≠ 4 by omega]
  · obtain rfl | rfl | rfl | rfl : k = 1 ∨ k = 2 ∨ k = 3 ∨ k = 4 := by omega
    all_goals exact ⟨⟨by decide, by decide⟩, _, rfl, finV1 (.inr rfl) rfl (.s _) rfl⟩

/-! ### first lines -/
def firstS (k n : Int) : List UInt8 := if k == 1 then [102, 97, 117, 108, 116, 32] ++ nameS n else if k == 2 then [114, 117, 108, 101, 32] ++ itoa n else [119, 97, 108, 107]
theorem firstS_len (k : Int) {n : Int} (h : okI n) : (firstS k n).length ≤ 30 := by
  have := itoa_len h
  have := nameS_len n
  unfold firstS
  repeat' split
  all_goals simp
  all_goals omega
theorem first_con (t : Trc) (h : okI t.n) : PCon Tryd.Y 48 [.agg (trC t)] (· = .s (firstS t.k t.n)) := by
  refine tree_con Tryd.Yok (fn := Tryd.f48) (by kernel_rfl) (by kernel_rfl) rfl (fun K => f48_0 t.k t.n (row encCh t.cs) t.cs.length .empty K) rfl ?_
  have h1 := itoa_len h
  have h2 := nameS_len t.n
  refine if_mk (fun e => ⟨_, name_con t.n, by simp; omega, finV1 (.inr rfl) rfl (.s _) ?_⟩) (fun e => if_mk (fun e2 => ⟨_, itoa_con h.1 h.2, by simp; omega, finV1 (.inr rfl) rfl (.s _) ?_⟩) (fun e2 => finV1 (.inr rfl) rfl (.s _) ?_))
  · simp [firstS, e]
  · simp [firstS, e, e2]
  · simp [firstS, e, e2]
theorem num_con {n : Int} (h : okI n) : PCon Tryd.Y 54 [.i .i64 n] (· = .s (itoa n)) :=
  tree_con Tryd.Yok (fn := Tryd.f54) (by kernel_rfl) (by kernel_rfl) rfl (fun K => f54_0 n .empty K) rfl ⟨_, print_con h, finV1 (.inr rfl) rfl (.s _) rfl⟩
theorem rfirst_con (k : Int) {n : Int} (h : okI n) (hh : headB k n = true) : PCon Tryd.Y 53 [.i .i64 k, .i .i64 n] (· = .s (firstS k n)) := by
  refine tree_con Tryd.Yok (fn := Tryd.f53) (by kernel_rfl) (by kernel_rfl) rfl (fun K => f53_0 k n .empty K) rfl ?_
  have h1 := itoa_len h
  refine if_mk (fun e => finV1 (.inr rfl) rfl (.s _) ?_) (fun e => if_mk (fun e2 => ?_) (fun e2 => ⟨_, num_con h, by simp; omega, finV1 (.inr rfl) rfl (.s _) ?_⟩))
  · have : k = 0 := by simpa using e
    subst this; rfl
  · have : k = 1 := by simpa using e2
    subst this
    have hn : 1 ≤ n ∧ n ≤ 4 := by simpa [headB, leI] using hh
    obtain rfl | rfl | rfl | rfl : n = 1 ∨ n = 2 ∨ n = 3 ∨ n = 4 := by omega
    all_goals exact ⟨⟨by decide, by decide⟩, _, rfl, by decide, finV1 (.inr rfl) rfl (.s _) rfl⟩
  · have e3 : k = 2 := by
      simp only [headB, e, e2, Bool.false_eq_true, if_false] at hh
      by_cases h2 : (k == 2) = true
      · simpa using h2
      · simp [h2] at hh
    subst e3; rfl

/-! ### lines of choices -/
def lineS (c : Cho) : List UInt8 :=
  if c.k == 1 then [115, 99, 114, 105, 112, 116] else if c.k == 2 then [116, 105, 99, 107] else if c.k == 3 then [101, 100, 103, 101, 32] ++ itoa c.p ++ [32] ++ itoa c.n else
  if c.k == 4 then [97, 114, 114, 105, 118, 101, 32] ++ itoa c.p else if c.k == 6 then [116, 105, 109, 101, 111, 117, 116] else if c.n == 0 then [101, 110, 100, 32] ++ itoa c.p else [114, 101, 97, 100, 32] ++ itoa c.p ++ [32] ++ itoa c.n
theorem lineS_len {c : Cho} (h : okCh c) : (lineS c).length ≤ 50 := by
  have := itoa_len h.2.1
  have := itoa_len h.2.2
  unfold lineS
  repeat' split
  all_goals simp
  all_goals omega
def lineR (c : Cho) : V := if oneS c then .tup [.s (lineS c), .b true] else .tup [.s [], .b false]
theorem line_con {c : Cho} (h : okCh c) : PCon Tryd.Y 49 [.agg (encCh c)] (· = lineR c) := by
  refine tree_con Tryd.Yok (fn := Tryd.f49) (by kernel_rfl) (by kernel_rfl) rfl (fun K => f49_0 c.k c.p c.n .empty K) rfl ?_
  have h1 := itoa_len h.2.1
  have h2 := itoa_len h.2.2
  refine ⟨_, one_con c, if_mk (fun e => finV2 (.inr rfl) rfl (.s _) (.b _) ?_) (fun e => ⟨_, itoa_con h.2.1.1 h.2.1.2, _, itoa_con h.2.2.1 h.2.2.2, ?_⟩)⟩
  · have e : oneS c = false := by simpa using e
    simp [lineR, e]
  have e : oneS c = true := by simpa using e
  unfold lineR
  rw [if_pos e]
  repeat' first
    | exact finV2 (.inr rfl) rfl (.s _) (.b _) (by simp only [lineS]; simp [*])
    | refine if_mk (fun _ => ?_) (fun _ => ?_)
    | refine And.intro (by simp; omega) ?_
theorem rline_con {c : Cho} (h : okCh c) : PCon Tryd.Y 55 [.agg (encCh c)] (· = .s (lineS c)) := by
  refine tree_con Tryd.Yok (fn := Tryd.f55) (by kernel_rfl) (by kernel_rfl) rfl (fun K => f55_0 c.k c.p c.n .empty K) rfl ?_
  have h1 := itoa_len h.2.1
  have h2 := itoa_len h.2.2
  have n63 : c.k = 6 → c.k ≠ 3 ∧ c.k ≠ 4 := fun h => by omega
  have n43 : c.k = 4 → c.k ≠ 3 := fun h => by omega
  repeat' first
    | exact finV1 (.inr rfl) rfl (.s _) (by simp_all [lineS])
    | refine if_mk (fun _ => ?_) (fun _ => ?_)
    | refine And.intro (by simp; omega) ?_
    | refine ⟨_, num_con h.2.1, ?_⟩
    | refine ⟨_, num_con h.2.2, ?_⟩
end Go.Y

/- Traces as lines: what a trace is told as, by contracts. -/
namespace Go.Y
open Go.Proofs Go.Lib
set_option maxRecDepth 100000
set_option linter.unusedVariables false
set_option linter.unusedSimpArgs false

/-- A builder that is new. -/
theorem Bd.new (h : Heap) : Bd (h.pushT (Tryd.Y.tag 86) (.arr [.p none, .sl none 0 (some 0) 0] true)) h.nx [] := by
  have ht : Tryd.Y.tag 86 = some 86 := by kernel_rfl
  refine ⟨⟨none, none, 0, some 0, 0, by simp, .inl rfl, IsL.nil _ _ _ _, (fun j o e => nomatch e), fun _ => rfl⟩, ?_, by simp⟩
  rw [ht]
  show ((h.push _).tagIf h.nx (some 86)).tagOf h.nx = some 86
  rw [tagOf_tagIf]; simp

def eqC (a b : Cho) : Bool := a.k == b.k && (a.p == b.p && (a.n == b.n && true))
theorem eqC_refl (a : Cho) : eqC a a = true := by simp [eqC]
def runN (c : Cho) (r : List Cho) : Nat := (r.takeWhile (eqC · c)).length
theorem runN_le (c : Cho) (r : List Cho) : runN c r ≤ r.length := (List.takeWhile_prefix _).length_le
theorem runN_exit {c : Cho} : ∀ {r : List Cho} {k : Nat}, k ≤ r.length → (r.take k).all (eqC · c) = true → (∀ h : k < r.length, eqC r[k] c = false) → runN c r = k
  | [], k, hk, _, _ => by simp at hk; subst hk; rfl
  | x :: r, 0, _, _, hx => by
    have := hx (by simp)
    simp at this
    simp [runN, List.takeWhile_cons, this]
  | x :: r, k + 1, hk, hall, hx => by
    simp only [List.take_succ_cons, List.all_cons, Bool.and_eq_true] at hall
    have ih := runN_exit (c := c) (r := r) (k := k) (by simpa using hk) hall.2 (fun h => hx (by simpa using h))
    unfold runN at ih ⊢
    rw [List.takeWhile_cons, if_pos hall.1, List.length_cons, ih]

def encL : List Cho → List UInt8
  | [] => []
  | c :: r => itoa ((runN c r + 1 : Nat) : Int) ++ [32] ++ lineS c ++ [10] ++ encL (r.drop (runN c r))
termination_by l => l.length
decreasing_by simp; omega
theorem encL_cons (c : Cho) (r : List Cho) : encL (c :: r) = itoa ((runN c r + 1 : Nat) : Int) ++ [32] ++ lineS c ++ [10] ++ encL (r.drop (runN c r)) := by rw [encL]
theorem okI_nat {n : Nat} (h : n ≤ 2 ^ 40) : okI (n : Int) := ⟨by omega, by omega⟩
theorem encL_len : ∀ (k : Nat) (l : List Cho), l.length ≤ k → k ≤ 2 ^ 30 → (∀ c ∈ l, okCh c) → (encL l).length ≤ 72 * l.length
  | _, [], _, _, _ => by simp [encL]
  | 0, _ :: _, h, _, _ => by simp at h
  | k + 1, c :: r, h, hk, hok => by
    rw [encL_cons]
    simp only [List.length_cons] at h
    have h1 := runN_le c r
    have ih := encL_len k (r.drop (runN c r)) (by simp; omega) (by omega) (fun x hx => hok x (List.mem_cons_of_mem _ (List.mem_of_mem_drop hx)))
    have h2 := itoa_len (okI_nat (n := runN c r + 1) (by omega))
    have h3 := lineS_len (hok c (by simp))
    simp only [List.length_append, List.length_cons, List.length_nil, List.length_drop] at ih ⊢
    omega

structure okTr (t : Trc) : Prop where
  n : okI t.n
  cs : ∀ c ∈ t.cs, okCh c
  len : t.cs.length ≤ 4000
def encT' (t : Trc) : List UInt8 := firstS t.k t.n ++ [10] ++ encL t.cs
theorem encT_le {t : Trc} (h : okTr t) : (encT' t).length ≤ 300000 := by
  have h1 := firstS_len t.k h.n
  have h2 := encL_len t.cs.length t.cs (Nat.le_refl _) (by have := h.len; omega) h.cs
  have := h.len
  simp only [encT', List.length_append, List.length_cons, List.length_nil]
  omega

theorem chs_slice (l : List Cho) (i : Nat) (hi : i ≤ l.length) : V.ts (List.take ((l.length - ((i : Nat) : Int).toNat) * 3) (List.drop (((i : Nat) : Int).toNat * 3) (row encCh l))) (l.length - ((i : Nat) : Int).toNat) none = lst encCh (l.drop i) := by
  rw [Int.toNat_natCast, row_drop encCh_len, List.take_of_length_le (by rw [row_length encCh_len]; simp)]
  simp
theorem getCh (l : List Cho) {i : Nat} (h : i < l.length) : takeX 3 (List.drop (((i : Nat) : Int).toNat * 3) (row encCh l)) = some (encCh l[i]) := by
  rw [Int.toNat_natCast]; exact row_get (f := encCh) (k := 3) encCh_len h
theorem getCh0 (c : Cho) (r : List Cho) : takeX 3 (row encCh (c :: r)) = some (encCh c) := by
  have := row_get (f := encCh) (k := 3) encCh_len (l := c :: r) (i := 0) (by simp)
  simpa using this

def encR (t : Trc) : V := if mayT t then .tup [.s (encT' t), .i .i64 0] else .tup [.s [], .i .i64 5]

def EncI (all : List UInt8) (m : Nat) (vs : List V) (h : Heap) : Prop :=
  ∃ (id : Nat) (l : List Cho) (done : List UInt8), vs = [.p (some (id, 0)), lst encCh l] ∧ m = l.length ∧ Bd h id done ∧ done ++ encL l = all ∧ (∀ c ∈ l, okCh c ∧ oneS c = true) ∧ l.length ≤ 4000
def EncJ (id : Nat) (c : Cho) (r : List Cho) (done : List UInt8) (m : Nat) (vs : List V) (h : Heap) : Prop :=
  ∃ n : Nat, vs = [.p (some (id, 0)), lst encCh (c :: r), .i .i64 (n + 1 : Nat)] ∧ n ≤ r.length ∧ m = r.length - n ∧ (r.take n).all (eqC · c) = true ∧ Bd h id done

theorem tenc_con {t : Trc} (ht : okTr t) : PCon Tryd.Y 34 [.agg (trC t)] (· = encR t) := by
  refine pcon_of Tryd.Yok (fn := Tryd.f34) (by kernel_rfl) (by kernel_rfl) rfl ?_
  refine pre_rule Tryd.Yok (n := 55) (loc := Tryd.Y.loc 34) 100 [2, 3, 4, 5] (by kernel_rfl) ?_
  refine Eq.mpr (f34_0 t.k t.n (row encCh t.cs) t.cs.length .empty _) ?_
  have hlen := encT_le ht
  have h4 := ht.len
  refine ⟨_, mayT_con t (by omega), if_mk (fun e => fin_at (.inr rfl) rfl ⟨_, .tup _ _ (.cons _ _ _ _ (.s _) (.cons _ _ _ _ (.i _ _) .nil)), ?_⟩) (fun e => ⟨_, first_con t ht.n, by have := firstS_len t.k ht.n; simp; omega, ?_⟩)⟩
  · have e : mayT t = false := by simpa using e
    simp [encR, e]
  have e : mayT t = true := by simpa using e
  have hf := firstS_len t.k ht.n
  have hone : t.cs.all oneS = true := by simp only [mayT, Bool.and_eq_true] at e; exact e.2
  unfold encR
  rw [if_pos e]
  refine (wstr_con (Bd.new _) _ (by simp; omega)).mono fun v h1 ⟨e1, b1⟩ => ⟨_, .inl ⟨e1, ?_⟩⟩
  refine ⟨rfl, loop2 [4, 5] [4, 5] rfl (by kernel_rfl) (EncI (encT' t)) t.cs.length mk_len ⟨_, t.cs, _, rfl, rfl, b1, rfl, fun c hc => ⟨ht.cs c hc, List.all_eq_true.1 hone c hc⟩, ht.len⟩ ?_⟩
  rintro m vs h ⟨id, l, done, rfl, rfl, hb, hall, hok, hl4⟩
  refine pre_rule Tryd.Yok (n := 55) (loc := Tryd.Y.loc 34) 100 [4, 5] (by kernel_rfl) ?_
  refine Eq.mpr (f34_1 (row encCh l) l.length id h _) ?_
  refine if_pos_nat (fun hpos => ?_) (fun h0 => ?_)
  · obtain ⟨c, r, rfl⟩ : ∃ c r, l = c :: r := by
      cases l with
      | nil => simp at hpos
      | cons c r => exact ⟨c, r, rfl⟩
    refine ⟨rfl, last_rule (by kernel_rfl) ?_⟩
    refine pre_rule Tryd.Yok (n := 55) (loc := Tryd.Y.loc 34) 100 [4, 5, 6] (by kernel_rfl) ?_
    refine Eq.mpr (f34_2 (row encCh (c :: r)) (c :: r).length id h _) ?_
    refine ⟨rfl, loop2 [4, 5, 6] [4, 5, 6] rfl (by kernel_rfl) (EncJ id c r done) r.length mk_len ⟨0, rfl, by omega, by omega, by simp, hb⟩ ?_⟩
    rintro m vs h ⟨n, rfl, hn, rfl, hall2, hb⟩
    refine all_rule Tryd.Yok (loc := Tryd.Y.loc 34) 100 [4, 5, 6] ?_
    refine Eq.mpr (f34_3 (row encCh (c :: r)) (c :: r).length id (n + 1 : Nat) h _) ?_
    have out : (∀ h : n < r.length, eqC r[n] c = false) → RoundW Tryd.Y 55 [4, 5, 6] [4, 5, 6] (EncJ id c r done) (r.length - n) (loopId (post (flat (blockB (post (flat (loopB (post (flat (bodyOf Tryd.f34))))))))))
        (List.drop 1 (post (flat (blockB (post (flat (loopB (post (flat (bodyOf Tryd.f34))))))))))
        (VQ [4, 5] (LastV (blockId (post (flat (loopB (post (flat (bodyOf Tryd.f34)))))))
          (RoundW Tryd.Y 55 [4, 5] [4, 5] (EncI (encT' t)) (c :: r).length (loopId (post (flat (bodyOf Tryd.f34)))) (List.drop 1 (post (flat (bodyOf Tryd.f34)))) (FinS Tryd.Y Tryd.f34 fun v h => ∃ r, Frz h v r ∧ r = .tup [.s (encT' t), .i .i64 0]))))
        (.exit 2) 55 [.p (some (id, 0)), lst encCh (c :: r), .i .i64 (n + 1 : Nat)] h := by
      intro hx
      have hrun : runN c r = n := runN_exit hn hall2 hx
      obtain ⟨okc, onec⟩ := hok c (by simp)
      have hle : done.length + (encL (c :: r)).length ≤ 300000 := by rw [← List.length_append, hall]; exact hlen
      rw [encL_cons, hrun] at hle hall
      have l1 := itoa_len (okI_nat (n := n + 1) (by simp at hl4; omega))
      have l2 := lineS_len okc
      simp only [List.length_append, List.length_cons, List.length_nil] at hle hl4
      refine roundW_exit [4, 5, 6] (by kernel_rfl) rfl rfl ?_
      refine all_rule Tryd.Yok (loc := Tryd.Y.loc 34) 100 [4, 5] ?_
      refine Eq.mpr (f34_4 (row encCh (c :: r)) (c :: r).length id (n + 1 : Nat) h _) ?_
      have hline : PCon Tryd.Y 49 [.agg (encCh c)] (· = .tup [.s (lineS c), .b true]) := by
        have := line_con okc
        rwa [lineR, if_pos onec] at this
      refine ⟨bnd_nat (i := 0) (by simp), _, _, _, getCh0 c r, _, _, hline, _, itoa_con (okI_nat (n := n + 1) (by omega)).1 (okI_nat (n := n + 1) (by omega)).2, by simp only [List.length_append, List.length_cons, List.length_nil]; omega, by simp only [List.length_append, List.length_cons, List.length_nil]; omega, by simp only [List.length_append, List.length_cons, List.length_nil]; omega, ?_⟩
      refine (wstr_con hb _ (by simp only [List.length_append, List.length_cons, List.length_nil]; omega)).mono fun v h' ⟨e2, b2⟩ => ⟨_, .inl ⟨e2, ⟨by omega, by simp only [List.length_cons]; omega⟩, ?_⟩⟩
      rw [chs_slice (c :: r) (n + 1) (by simp; omega)]
      refine ⟨rfl, ((c :: r).drop (n + 1)).length, by simp; omega, id, (c :: r).drop (n + 1), _, rfl, rfl, b2, ?_, fun x hx => hok x (List.mem_of_mem_drop hx), by simp; omega⟩
      rw [← hall]; simp
    refine if_lt_nat (fun hlt => ?_) (fun hge => ?_)
    · have hlt' : n < r.length := by simpa using hlt
      refine ⟨bnd_nat hlt, _, _, _, getCh (c :: r) hlt, bnd_nat (i := 0) (by simp), _, _, _, getCh0 c r, ?_⟩
      have ge : (c :: r)[n + 1] = r[n] := by simp
      rw [ge]
      refine if_mk (fun he => ?_) (fun he => out fun _ => he)
      refine ⟨rfl, r.length - (n + 1), by omega, n + 1, by rw [wrap_succ (by simp at hl4; omega)]; rfl, by omega, rfl, all_snoc (p := (eqC · c)) hlt' hall2 he, hb⟩
    · exact out fun h => by simp at hge; omega
  · have : l = [] := List.eq_nil_of_length_eq_zero h0
    subst this
    refine at_pick rfl (roundW_exit [4] (by kernel_rfl) rfl rfl ?_)
    refine end_rule Tryd.Yok (loc := Tryd.Y.loc 34) 100 [2, 3] ?_
    refine Eq.mpr (f34_5 id h _) ?_
    rw [encL, List.append_nil] at hall
    subst hall
    exact (bstr_con hb (by omega)).mono fun v h' e => ⟨_, e, finV2 (.inr rfl) rfl (.s _) (.i _ _) rfl⟩
end Go.Y
