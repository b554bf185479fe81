/- Expressions as they lie in memory; the words of a set. Plain. -/
import Derived.Test.YteennilbmmlikaaGreatDoorEConc
import Derived.Test.YteennilbmmlikaaGreatDoorYRow
namespace Go.Y

mutual
def encRe : Re → List V
  | .mk k s l lo hi n => [.i .i64 k, .i .u64 s.1, .i .u64 s.2.1, .i .u64 s.2.2.1, .i .u64 s.2.2.2, .ts (rowRe l) l.length none, .i .i64 lo, .i .i64 hi, .i .i64 n]
def rowRe : List Re → List V
  | [] => []
  | r :: l => encRe r ++ rowRe l
end
theorem rowRe_eq : ∀ l : List Re, rowRe l = row encRe l
  | [] => by rw [rowRe]; rfl
  | r :: l => by rw [rowRe, rowRe_eq l]; rfl
theorem encRe_mk (k : Int) (s : S4) (l : List Re) (lo hi n : Int) : encRe (.mk k s l lo hi n) = [.i .i64 k, .i .u64 s.1, .i .u64 s.2.1, .i .u64 s.2.2.1, .i .u64 s.2.2.2, lst encRe l, .i .i64 lo, .i .i64 hi, .i .i64 n] := by
  rw [encRe, rowRe_eq]
theorem encRe_len (r : Re) : (encRe r).length = 9 := by
  obtain ⟨k, s, l, lo, hi, n⟩ := r
  rw [encRe_mk]; rfl
theorem encRe_cold (r : Re) : colds1 (encRe r) = true := by
  obtain ⟨k, s, l, lo, hi, n⟩ := r
  rw [encRe_mk]; rfl
theorem encRe_cells (r : Re) : allCells (encRe r) = true := by
  obtain ⟨k, s, l, lo, hi, n⟩ := r
  rw [encRe_mk]; rfl
def zeroRe : Re := .mk 0 (0, 0, 0, 0) [] 0 0 0

def wordP (p : Nat → Bool) (k m : Nat) : Nat := (List.range m).foldl (fun (n : Nat) b => if p (64 * k + b) then n + 2 ^ b else n) 0
theorem wordP_succ (p : Nat → Bool) (k m : Nat) : wordP p k (m + 1) = if p (64 * k + m) then wordP p k m + 2 ^ m else wordP p k m := by
  simp only [wordP, List.range_succ, List.foldl_append, List.foldl_cons, List.foldl_nil]
theorem wordP_lt (p : Nat → Bool) (k : Nat) : ∀ m, wordP p k m < 2 ^ m
  | 0 => by simp [wordP]
  | m + 1 => by
    rw [wordP_succ, Nat.pow_succ]
    have := wordP_lt p k m
    split <;> omega
theorem wordS_eq (p : Nat → Bool) (k : Nat) : wordS p k = (wordP p k 64 : Nat) := rfl
theorem wordP_zero {p : Nat → Bool} {k : Nat} : ∀ {m : Nat}, (∀ b, b < m → p (64 * k + b) = false) → wordP p k m = 0
  | 0, _ => rfl
  | m + 1, h => by rw [wordP_succ, h m (by omega), wordP_zero fun b hb => h b (by omega)]; rfl
theorem wordP_one {p : Nat → Bool} {k b : Nat} (hb : p (64 * k + b) = true) : ∀ {m : Nat}, b < m → (∀ x, x < m → x ≠ b → p (64 * k + x) = false) → wordP p k m = 2 ^ b
  | m + 1, h, hx => by
    rw [wordP_succ]
    by_cases e : m = b
    · subst e
      rw [if_pos hb, wordP_zero fun x hx2 => hx x (by omega) (by omega)]; omega
    · rw [hx m (by omega) e, wordP_one hb (by omega) fun x h1 h2 => hx x (by omega) h2]; rfl

theorem u64_wrap {n : Nat} (h : n < 2 ^ 64) : IntKind.u64.wrap (n : Int) = (n : Int) := by
  simp only [IntKind.wrap, IntKind.signed, IntKind.bits]
  have : ((n : Int)) % 2 ^ 64 = n := by omega
  simpa using this
theorem shl_bit {b : Nat} (hb : b < 64) : IntKind.u64.wrap (1 * 2 ^ min b IntKind.u64.bits) = ((2 ^ b : Nat) : Int) := by
  have e : min b IntKind.u64.bits = b := Nat.min_eq_left (by have : IntKind.u64.bits = 64 := rfl; omega)
  rw [e, Int.one_mul, show ((2 : Int) ^ b) = ((2 ^ b : Nat) : Int) by norm_cast]
  exact u64_wrap (Nat.pow_lt_pow_right (by decide) hb)
theorem or_bit {n b : Nat} (h : n < 2 ^ b) (hb : b < 64) : IntKind.u64.wrap (((BitVec.ofInt IntKind.u64.bits (n : Int) ||| BitVec.ofInt IntKind.u64.bits (IntKind.u64.wrap (1 * 2 ^ min b IntKind.u64.bits))).toNat : Nat) : Int) = ((n + 2 ^ b : Nat) : Int) := by
  have h2 : 2 ^ b < 2 ^ 64 := Nat.pow_lt_pow_right (by decide) hb
  have h3 : 2 ^ b * 2 ≤ 2 ^ 64 := by rw [← Nat.pow_succ]; exact Nat.pow_le_pow_right (by decide) hb
  rw [shl_bit hb]
  have e1 : ∀ m : Nat, m < 2 ^ 64 → (BitVec.ofInt IntKind.u64.bits (m : Int)).toNat = m := by
    intro m hm
    show (BitVec.ofInt 64 (m : Int)).toNat = m
    rw [BitVec.toNat_ofInt]; omega
  rw [BitVec.toNat_or, e1 n (by omega), e1 _ h2]
  have e2 : n ||| 2 ^ b = n + 2 ^ b := by
    have := Nat.two_pow_add_eq_or_of_lt h 1
    rw [Nat.mul_one] at this
    rw [Nat.or_comm, ← this, Nat.add_comm]
  rw [e2]
  exact u64_wrap (by omega)
theorem tdiv64 (c : Nat) : Int.tdiv (c : Int) 64 = ((c / 64 : Nat) : Int) := by rw [Int.tdiv_eq_ediv_of_nonneg (by omega)]; omega
theorem tmod64 (c : Nat) : Int.tmod (c : Int) 64 = ((c % 64 : Nat) : Int) := by rw [Int.tmod_eq_emod_of_nonneg (by omega)]; omega

def wordsTo (p : Nat → Bool) (c : Nat) : List V := [.i .u64 (wordP p 0 (min 64 c) : Nat), .i .u64 (wordP p 1 (min 64 (c - 64)) : Nat), .i .u64 (wordP p 2 (min 64 (c - 128)) : Nat), .i .u64 (wordP p 3 (min 64 (c - 192)) : Nat)]
theorem words_get (p : Nat → Bool) {c : Nat} (h : c < 256) : takeX 1 ((wordsTo p c).drop (0 + c / 64 * 1)) = some [.i .u64 (wordP p (c / 64) (c % 64) : Nat)] := by
  have : c / 64 = 0 ∨ c / 64 = 1 ∨ c / 64 = 2 ∨ c / 64 = 3 := by omega
  rcases this with e | e | e | e
  · rw [e, show c % 64 = min 64 c by omega]; rfl
  · rw [e, show c % 64 = min 64 (c - 64) by omega]; rfl
  · rw [e, show c % 64 = min 64 (c - 128) by omega]; rfl
  · rw [e, show c % 64 = min 64 (c - 192) by omega]; rfl
theorem words_no (p : Nat → Bool) {c : Nat} (h : c < 256) (hp : p c = false) : wordsTo p (c + 1) = wordsTo p c := by
  have key : ∀ k, k < 4 → wordP p k (min 64 (c + 1 - 64 * k)) = wordP p k (min 64 (c - 64 * k)) := by
    intro k hk
    by_cases e : c / 64 = k
    · rw [show min 64 (c + 1 - 64 * k) = c % 64 + 1 by omega, show min 64 (c - 64 * k) = c % 64 by omega, wordP_succ, show 64 * k + c % 64 = c by omega, hp]; rfl
    · rw [show min 64 (c + 1 - 64 * k) = min 64 (c - 64 * k) by omega]
  have k0 := key 0 (by omega); have k1 := key 1 (by omega); have k2 := key 2 (by omega); have k3 := key 3 (by omega)
  simp only [Nat.mul_zero, Nat.sub_zero, Nat.mul_one, show 64 * 2 = 128 by rfl, show 64 * 3 = 192 by rfl] at k0 k1 k2 k3
  simp only [wordsTo, k0, k1, k2, k3]
theorem words_yes (p : Nat → Bool) {c : Nat} (h : c < 256) (hp : p c = true) : splice (wordsTo p c) (0 + c / 64 * 1) [.i .u64 ((wordP p (c / 64) (c % 64) + 2 ^ (c % 64) : Nat) : Int)] = wordsTo p (c + 1) := by
  have hot : ∀ k, c / 64 = k → wordP p k (min 64 (c + 1 - 64 * k)) = wordP p (c / 64) (c % 64) + 2 ^ (c % 64) := by
    intro k e
    rw [show min 64 (c + 1 - 64 * k) = c % 64 + 1 by omega, wordP_succ, show 64 * k + c % 64 = c by omega, if_pos hp, e]
  have cold : ∀ k, c / 64 ≠ k → wordP p k (min 64 (c + 1 - 64 * k)) = wordP p k (min 64 (c - 64 * k)) := by
    intro k e
    rw [show min 64 (c + 1 - 64 * k) = min 64 (c - 64 * k) by omega]
  have hot0 := hot 0; have hot1 := hot 1; have hot2 := hot 2; have hot3 := hot 3
  have cold0 := cold 0; have cold1 := cold 1; have cold2 := cold 2; have cold3 := cold 3
  simp only [Nat.mul_zero, Nat.sub_zero, Nat.mul_one, show 64 * 2 = 128 by rfl, show 64 * 3 = 192 by rfl] at hot0 hot1 hot2 hot3 cold0 cold1 cold2 cold3
  have : c / 64 = 0 ∨ c / 64 = 1 ∨ c / 64 = 2 ∨ c / 64 = 3 := by omega
  rcases this with e | e | e | e
  · simp only [wordsTo, hot0 e, cold1 (by omega), cold2 (by omega), cold3 (by omega)]; rw [e]; rfl
  · simp only [wordsTo, cold0 (by omega), hot1 e, cold2 (by omega), cold3 (by omega)]; rw [e]; rfl
  · simp only [wordsTo, cold0 (by omega), cold1 (by omega), hot2 e, cold3 (by omega)]; rw [e]; rfl
  · simp only [wordsTo, cold0 (by omega), cold1 (by omega), cold2 (by omega), hot3 e]; rw [e]; rfl
end Go.Y

/- What a text is read as, within a group of a longer one. Plain. -/
namespace Go.Y

def Re.un : Re → Re
  | .mk k s l lo hi _ => .mk k s (uns l) lo hi 0
where
  uns : List Re → List Re
    | [] => []
    | r :: l => r.un :: uns l
theorem uns_map : ∀ l : List Re, Re.un.uns l = l.map Re.un
  | [] => rfl
  | r :: l => by simp [Re.un.uns, uns_map l]
theorem un_kind : ∀ r : Re, r.un.kind = r.kind
  | .mk _ _ _ _ _ _ => rfl
theorem un_sev (k : Int) : ∀ l m : List Re, l.map Re.un = m.map Re.un → (sevS k l).un = (sevS k m).un
  | [], [], _ => rfl
  | [r], [r'], h => by simpa [sevS] using h
  | r :: r2 :: l, q :: q2 :: m, h => by
    simp only [sevS, Re.un, uns_map]; rw [h]
  | [], _ :: _, h => by simp at h
  | _ :: _, [], h => by simp at h
  | [_], _ :: _ :: _, h => by simp at h
  | _ :: _ :: _, [_], h => by simp at h

section
variable (a pre post : List UInt8)
abbrev big : List UInt8 := pre ++ (a ++ 41 :: post)
theorem big_get {i : Nat} (h : i ≤ a.length) : (big a pre post)[pre.length + i]? = (a[i]?).or (some 41) := by
  rw [List.getElem?_append_right (by omega), Nat.add_sub_cancel_left]
  by_cases h1 : i < a.length
  · rw [List.getElem?_append_left h1, List.getElem?_eq_getElem h1]; rfl
  · have : i = a.length := by omega
    subst this
    simp
theorem big_some {i : Nat} {c : UInt8} (h : a[i]? = some c) : (big a pre post)[pre.length + i]? = some c := by
  have := (List.getElem?_eq_some_iff.1 h).1
  rw [big_get a pre post (by omega), h]; rfl
theorem lt_of_some {a : List UInt8} {i : Nat} {c : UInt8} (h : a[i]? = some c) : i < a.length := (List.getElem?_eq_some_iff.1 h).1

theorem end_loc {i j : Nat} {x : Int} (h : endS a i = .ok (x, j)) : endS (big a pre post) (pre.length + i) = .ok (x, pre.length + j) ∧ j ≤ a.length := by
  unfold endS at h
  cases h1 : a[i]? with
  | none => simp [h1] at h
  | some c =>
    have l1 := lt_of_some h1
    simp only [h1] at h
    unfold endS
    simp only [big_some a pre post h1]
    by_cases h2 : c = 93 ∨ c = 45
    · rw [if_pos h2] at h; cases h
    · rw [if_neg h2] at h ⊢
      by_cases h3 : c = 92
      · rw [if_pos h3] at h ⊢
        cases h4 : a[i + 1]? with
        | none => simp [h4] at h
        | some d =>
          have l2 := lt_of_some h4
          simp only [h4] at h
          rw [Nat.add_assoc, big_some a pre post h4]
          injection h with h; injection h with e1 e2; subst e1 e2
          exact ⟨rfl, by omega⟩
      · rw [if_neg h3] at h ⊢
        injection h with h; injection h with e1 e2; subst e1 e2
        exact ⟨rfl, by omega⟩

theorem big_is {i : Nat} {c : UInt8} (h : i ≤ a.length) (hc : c ≠ 41) : (big a pre post)[pre.length + i]? = some c ↔ a[i]? = some c := by
  rw [big_get a pre post h]
  cases a[i]? with
  | none => simp [Ne.symm hc]
  | some d => simp

theorem item_loc {i j : Nat} {x : Span} (h : itemS a i = .ok (x, j)) : itemS (big a pre post) (pre.length + i) = .ok (x, pre.length + j) ∧ j ≤ a.length := by
  unfold itemS at h
  cases h1 : endS a i with
  | error e => simp [h1] at h
  | ok y =>
    obtain ⟨lo, k⟩ := y
    simp only [h1] at h
    obtain ⟨g1, l1⟩ := end_loc a pre post h1
    unfold itemS
    simp only [g1]
    by_cases h2 : a[k]? = some 45
    · rw [if_pos h2] at h; rw [if_pos (big_some a pre post h2)]
      cases h3 : endS a (k + 1) with
      | error e => simp [h3] at h
      | ok z =>
        obtain ⟨hi, m⟩ := z
        simp only [h3] at h
        obtain ⟨g2, l2⟩ := end_loc a pre post h3
        rw [Nat.add_assoc, g2]
        by_cases h4 : hi < lo
        · simp only [if_pos h4] at h; cases h
        · simp only [if_neg h4] at h ⊢
          injection h with h; injection h with e1 e2; subst e1 e2
          exact ⟨rfl, l2⟩
    · rw [if_neg h2] at h; rw [if_neg (fun g => h2 ((big_is a pre post l1 (by decide)).1 g))]
      injection h with h; injection h with e1 e2; subst e1 e2
      exact ⟨rfl, l1⟩

theorem set_loc : ∀ {n n' i j : Nat} {out l : List Span}, n ≤ n' → i ≤ a.length → setS n a i out = .ok (l, j) → setS n' (big a pre post) (pre.length + i) out = .ok (l, pre.length + j) ∧ j ≤ a.length
  | 0, _, _, _, _, _, _, _, h => by simp [setS] at h
  | n + 1, 0, _, _, _, _, hn, _, _ => by omega
  | n + 1, n' + 1, i, j, out, l, hn, hi, h => by
    unfold setS at h ⊢
    by_cases h1 : out ≠ [] ∧ a[i]? = some 93
    · rw [if_pos h1] at h; rw [if_pos ⟨h1.1, big_some a pre post h1.2⟩]
      have := lt_of_some h1.2
      injection h with h; injection h with e1 e2; subst e1 e2
      exact ⟨rfl, by omega⟩
    · rw [if_neg h1] at h; rw [if_neg (fun g => h1 ⟨g.1, (big_is a pre post hi (by decide)).1 g.2⟩)]
      cases h2 : itemS a i with
      | error e => simp [h2] at h
      | ok y =>
        obtain ⟨x, k⟩ := y
        simp only [h2] at h
        obtain ⟨g, l1⟩ := item_loc a pre post h2
        rw [g]
        exact set_loc (by omega) l1 h

theorem digit_loc {i j : Nat} {least x : Int} (h : digitS a i least = .ok (x, j)) : digitS (big a pre post) (pre.length + i) least = .ok (x, pre.length + j) ∧ j ≤ a.length := by
  unfold digitS at h
  cases h1 : a[i]? with
  | none => simp [h1] at h
  | some c =>
    have l1 := lt_of_some h1
    simp only [h1] at h
    unfold digitS
    simp only [big_some a pre post h1]
    split at h
    · next h2 =>
      rw [if_pos h2]
      injection h with h; injection h with e1 e2; subst e1 e2
      exact ⟨rfl, by omega⟩
    · cases h

theorem braces_loc {i j : Nat} {lo hi : Int} (h : bracesS a i = .ok (lo, hi, j)) : bracesS (big a pre post) (pre.length + i) = .ok (lo, hi, pre.length + j) ∧ j ≤ a.length := by
  unfold bracesS at h
  cases h1 : digitS a i 0 with
  | error e => simp [h1] at h
  | ok y =>
    obtain ⟨low, k⟩ := y
    simp only [h1] at h
    obtain ⟨g1, l1⟩ := digit_loc a pre post h1
    unfold bracesS
    simp only [g1]
    by_cases h2 : a[k]? = some 44
    · have := lt_of_some h2
      rw [if_pos h2] at h; rw [if_pos (big_some a pre post h2), Nat.add_assoc]
      by_cases h3 : a[k + 1]? = some 125
      · have := lt_of_some h3
        rw [if_pos h3] at h; rw [if_pos (big_some a pre post h3)]
        injection h with h; injection h with e1 h; injection h with e2 e3; subst e1 e2 e3
        exact ⟨rfl, by omega⟩
      · rw [if_neg h3] at h; rw [if_neg (fun g => h3 ((big_is a pre post (by omega) (by decide)).1 g))]
        cases h4 : digitS a (k + 1) low with
        | error e => simp [h4] at h
        | ok z =>
          obtain ⟨high, m⟩ := z
          simp only [h4] at h
          obtain ⟨g2, l2⟩ := digit_loc a pre post h4
          simp only [g2]
          split at h
          · next h5 =>
            have := lt_of_some h5
            rw [if_pos (big_some a pre post h5)]
            injection h with h; injection h with e1 h; injection h with e2 e3; subst e1 e2 e3
            exact ⟨rfl, by omega⟩
          · cases h
    · rw [if_neg h2] at h; rw [if_neg (fun g => h2 ((big_is a pre post l1 (by decide)).1 g))]
      split at h
      · next h5 =>
        have := lt_of_some h5
        rw [if_pos (big_some a pre post h5)]
        injection h with h; injection h with e1 h; injection h with e2 e3; subst e1 e2 e3
        exact ⟨rfl, by omega⟩
      · cases h

theorem class_loc {i j : Nat} {x : S4} (hi : i ≤ a.length) (h : classS a i = .ok (x, j)) : classS (big a pre post) (pre.length + i) = .ok (x, pre.length + j) ∧ j ≤ a.length := by
  unfold classS at h
  simp only at h
  have e : ∀ c : UInt8, c ≠ 41 → ((big a pre post)[pre.length + i]? = some c) = (a[i]? = some c) := fun c hc => propext (big_is a pre post hi hc)
  have len : (big a pre post).length = pre.length + a.length + post.length + 1 := by simp; omega
  unfold classS
  simp only [e 94 (by decide)]
  by_cases h1 : a[i]? = some 94
  · have := lt_of_some h1
    simp only [if_pos h1] at h ⊢
    cases h2 : setS (a.length + 1) a (i + 1) [] with
    | error e => simp [h2] at h
    | ok y =>
      obtain ⟨l, k⟩ := y
      simp only [h2] at h
      obtain ⟨g, l1⟩ := set_loc a pre post (n' := (big a pre post).length + 1) (by omega) (by omega) h2
      rw [Nat.add_assoc, g]
      injection h with h; injection h with e1 e2; subst e1 e2
      exact ⟨rfl, l1⟩
  · simp only [if_neg h1] at h ⊢
    cases h2 : setS (a.length + 1) a i [] with
    | error e => simp [h2] at h
    | ok y =>
      obtain ⟨l, k⟩ := y
      simp only [h2] at h
      obtain ⟨g, l1⟩ := set_loc a pre post (n' := (big a pre post).length + 1) (by omega) hi h2
      rw [g]
      injection h with h; injection h with e1 e2; subst e1 e2
      exact ⟨rfl, l1⟩
end
end Go.Y

/- What a text is read as, within a group of a longer one: the whole of it. Plain. -/
namespace Go.Y

theorem digit_le {a : List UInt8} {i j : Nat} {l x : Int} (h : digitS a i l = .ok (x, j)) : i ≤ j := by
  unfold digitS at h
  split at h
  · split at h
    · injection h with h; injection h with e1 e2; omega
    · cases h
  · cases h
theorem braces_le {a : List UInt8} {i j : Nat} {lo hi : Int} (h : bracesS a i = .ok (lo, hi, j)) : i ≤ j := by
  unfold bracesS at h
  split at h
  · cases h
  · next h1 =>
    have l1 := digit_le h1
    split at h
    · split at h
      · injection h with h; injection h with e1 h; injection h with e2 e3; omega
      · split at h
        · cases h
        · next h2 =>
          have l2 := digit_le h2
          split at h
          · injection h with h; injection h with e1 h; injection h with e2 e3; omega
          · cases h
    · split at h
      · injection h with h; injection h with e1 h; injection h with e2 e3; omega
      · cases h
theorem class_le {a : List UInt8} {i j : Nat} {x : S4} (h : classS a i = .ok (x, j)) : i ≤ j := by
  unfold classS at h
  simp only at h
  split at h
  · cases h
  · next h1 =>
    have l1 := (setS_ok h1)
    injection h with h; injection h with e1 e2
    split at l1 <;> omega

section
variable (a pre post : List UInt8)
abbrev Loc (i g' : Nat) (X : PR Re) (Y : PR Re) : Prop := ∀ r j g1, X = .ok (r, j, g1) → ∃ r' g1', Y = .ok (r', pre.length + j, g1') ∧ r'.un = r.un ∧ j ≤ a.length ∧ i ≤ j

theorem loc_all : ∀ n n' : Nat, n ≤ n' → ∀ d d' i g g' : Nat, i ≤ a.length → d' + (a.length - i) < 64 →
    Loc a pre i g' (altE n d a i g) (altE n' d' (big a pre post) (pre.length + i) g')
    ∧ (∀ l l' : List Re, l'.map Re.un = l.map Re.un → Loc a pre i g' (altsE n d a i g l) (altsE n' d' (big a pre post) (pre.length + i) g' l'))
    ∧ (∀ l l' : List Re, l'.map Re.un = l.map Re.un → Loc a pre i g' (rowE n d a i g l) (rowE n' d' (big a pre post) (pre.length + i) g' l'))
    ∧ Loc a pre i g' (pieceE n d a i g) (pieceE n' d' (big a pre post) (pre.length + i) g')
    ∧ Loc a pre i g' (atomE n d a i g) (atomE n' d' (big a pre post) (pre.length + i) g')
  | 0, _, _, _, _, _, _, _, _, _ => by
    refine ⟨?_, fun l l' _ => ?_, fun l l' _ => ?_, ?_, ?_⟩ <;> intro r j g1 h
    · unfold altE at h; cases h
    · unfold altsE at h; cases h
    · unfold rowE at h; cases h
    · unfold pieceE at h; cases h
    · unfold atomE at h; cases h
  | n + 1, 0, hn, _, _, _, _, _, _, _ => by omega
  | n + 1, n' + 1, hn, d, d', i, g, g', hi, hd => by
    have IH := loc_all n n' (by omega)
    refine ⟨?_, fun l l' hl => ?_, fun l l' hl => ?_, ?_, ?_⟩ <;> intro r j g1 h
    · unfold altE at h ⊢
      cases h1 : rowE n d a i g [] with
      | error e => simp [h1] at h
      | ok y =>
        obtain ⟨r1, i1, g2⟩ := y
        simp only [h1] at h
        obtain ⟨r1', g2', e1, e2, l1, l2⟩ := (IH d d' i g g' hi hd).2.2.1 [] [] rfl _ _ _ h1
        simp only [e1]
        obtain ⟨r', g1', e3, e4, l3, l4⟩ := (IH d d' i1 g2 g2' l1 (by omega)).2.1 [r1] [r1'] (by simp [e2]) _ _ _ h
        exact ⟨r', g1', e3, e4, l3, by omega⟩
    · unfold altsE at h ⊢
      by_cases h0 : a[i]? = some 124
      · have := lt_of_some h0
        rw [if_pos h0] at h; rw [if_pos (big_some a pre post h0)]
        cases h1 : rowE n d a (i + 1) g [] with
        | error e => simp [h1] at h
        | ok y =>
          obtain ⟨r1, i1, g2⟩ := y
          simp only [h1] at h
          obtain ⟨r1', g2', e1, e2, l1, l2⟩ := (IH d d' (i + 1) g g' (by omega) (by omega)).2.2.1 [] [] rfl _ _ _ h1
          rw [Nat.add_assoc, e1]
          obtain ⟨r', g1', e3, e4, l3, l4⟩ := (IH d d' i1 g2 g2' l1 (by omega)).2.1 (l ++ [r1]) (l' ++ [r1']) (by simp [e2, hl]) _ _ _ h
          exact ⟨r', g1', e3, e4, l3, by omega⟩
      · rw [if_neg h0] at h; rw [if_neg (fun g => h0 ((big_is a pre post hi (by decide)).1 g))]
        injection h with h; injection h with e1 h; injection h with e2 e3; subst e1 e2 e3
        exact ⟨_, _, rfl, un_sev 5 _ _ hl, hi, Nat.le_refl _⟩
    · unfold rowE at h ⊢
      cases h0 : a[i]? with
      | none =>
        simp only [h0] at h
        injection h with h; injection h with e1 h; injection h with e2 e3; subst e1 e2 e3
        have h1 : (big a pre post)[pre.length + i]? = some 41 := by rw [big_get a pre post hi, h0]; rfl
        simp only [h1]
        exact ⟨_, _, rfl, un_sev 4 _ _ hl, hi, Nat.le_refl _⟩
      | some c =>
        have := lt_of_some h0
        simp only [h0] at h
        simp only [big_some a pre post h0]
        by_cases hc : c = 124 ∨ c = 41
        · rw [if_pos hc] at h ⊢
          injection h with h; injection h with e1 h; injection h with e2 e3; subst e1 e2 e3
          exact ⟨_, _, rfl, un_sev 4 _ _ hl, hi, Nat.le_refl _⟩
        · rw [if_neg hc] at h ⊢
          cases h1 : pieceE n d a i g with
          | error e => simp [h1] at h
          | ok y =>
            obtain ⟨r1, i1, g2⟩ := y
            simp only [h1] at h
            obtain ⟨r1', g2', e1, e2, l1, l2⟩ := (IH d d' i g g' hi hd).2.2.2.1 _ _ _ h1
            simp only [e1]
            obtain ⟨r', g1', e3, e4, l3, l4⟩ := (IH d d' i1 g2 g2' l1 (by omega)).2.2.1 (l ++ [r1]) (l' ++ [r1']) (by simp [e2, hl]) _ _ _ h
            exact ⟨r', g1', e3, e4, l3, by omega⟩
    · unfold pieceE at h ⊢
      cases h1 : atomE n d a i g with
      | error e => simp [h1] at h
      | ok y =>
        obtain ⟨r1, i1, g2⟩ := y
        simp only [h1] at h
        obtain ⟨r1', g2', e1, e2, l1, l2⟩ := (IH d d' i g g' hi hd).2.2.2.2 _ _ _ h1
        simp only [e1]
        have ek : r1'.kind = r1.kind := by rw [← un_kind r1', e2, un_kind]
        cases h0 : a[i1]? with
        | none =>
          simp only [h0] at h
          injection h with h; injection h with e3 h; injection h with e4 e5; subst e3 e4 e5
          have h2 : (big a pre post)[pre.length + i1]? = some 41 := by rw [big_get a pre post l1, h0]; rfl
          simp only [h2]
          exact ⟨_, _, rfl, e2, l1, l2⟩
        | some c =>
          have := lt_of_some h0
          simp only [h0] at h
          simp only [big_some a pre post h0, ek]
          have un6 : ∀ lo hi : Int, (Re.mk 6 (0, 0, 0, 0) [r1'] lo hi 0).un = (Re.mk 6 (0, 0, 0, 0) [r1] lo hi 0).un := fun lo hi => by simp [Re.un, Re.un.uns, e2]
          by_cases hr : isRep c = true
          · rw [if_pos hr] at h ⊢
            by_cases hk : r1.kind = 2 ∨ r1.kind = 3
            · rw [if_pos hk] at h; cases h
            · rw [if_neg hk] at h ⊢
              by_cases c1 : c = 42
              · rw [if_pos c1] at h ⊢
                injection h with h; injection h with e3 h; injection h with e4 e5; subst e3 e4 e5
                exact ⟨_, _, rfl, un6 _ _, by omega, by omega⟩
              rw [if_neg c1] at h ⊢
              by_cases c2 : c = 43
              · rw [if_pos c2] at h ⊢
                injection h with h; injection h with e3 h; injection h with e4 e5; subst e3 e4 e5
                exact ⟨_, _, rfl, un6 _ _, by omega, by omega⟩
              rw [if_neg c2] at h ⊢
              by_cases c3 : c = 63
              · rw [if_pos c3] at h ⊢
                injection h with h; injection h with e3 h; injection h with e4 e5; subst e3 e4 e5
                exact ⟨_, _, rfl, un6 _ _, by omega, by omega⟩
              rw [if_neg c3] at h ⊢
              cases hb : bracesS a (i1 + 1) with
              | error e => simp [hb] at h
              | ok z =>
                obtain ⟨lo, hi, m⟩ := z
                simp only [hb] at h
                obtain ⟨g3, l3⟩ := braces_loc a pre post hb
                have := braces_le hb
                rw [Nat.add_assoc, g3]
                injection h with h; injection h with e3 h; injection h with e4 e5; subst e3 e4 e5
                exact ⟨_, _, rfl, un6 _ _, by omega, by omega⟩
          · rw [if_neg hr] at h ⊢
            injection h with h; injection h with e3 h; injection h with e4 e5; subst e3 e4 e5
            exact ⟨_, _, rfl, e2, l1, l2⟩
    · unfold atomE at h ⊢
      cases h0 : a[i]? with
      | none => simp [h0] at h
      | some c =>
        have := lt_of_some h0
        simp only [h0] at h
        simp only [big_some a pre post h0]
        by_cases hr : isRep c = true
        · rw [if_pos hr] at h; cases h
        rw [if_neg hr] at h ⊢
        by_cases c1 : c = 40
        · rw [if_pos c1] at h ⊢
          by_cases c2 : 64 ≤ d
          · rw [if_pos c2] at h; cases h
          rw [if_neg c2] at h; rw [if_neg (by omega)]
          cases h1 : altE n (d + 1) a (i + 1) (g + 1) with
          | error e => simp [h1] at h
          | ok y =>
            obtain ⟨r1, i1, g2⟩ := y
            simp only [h1] at h
            obtain ⟨r1', g2', e1, e2, l1, l2⟩ := (IH (d + 1) (d' + 1) (i + 1) (g + 1) (g' + 1) (by omega) (by omega)).1 _ _ _ h1
            rw [Nat.add_assoc, e1]
            simp only
            split at h
            · next h2 =>
              have := lt_of_some h2
              rw [if_pos (big_some a pre post h2)]
              injection h with h; injection h with e3 h; injection h with e4 e5; subst e3 e4 e5
              exact ⟨_, _, rfl, by simp [Re.un, Re.un.uns, e2], by omega, by omega⟩
            · cases h
        rw [if_neg c1] at h ⊢
        by_cases c2 : c = 91
        · rw [if_pos c2] at h ⊢
          cases h1 : classS a (i + 1) with
          | error e => simp [h1] at h
          | ok y =>
            obtain ⟨x, k⟩ := y
            simp only [h1] at h
            obtain ⟨g3, l3⟩ := class_loc a pre post (by omega) h1
            have := class_le h1
            rw [Nat.add_assoc, g3]
            injection h with h; injection h with e3 h; injection h with e4 e5; subst e3 e4 e5
            exact ⟨_, _, rfl, rfl, by omega, by omega⟩
        rw [if_neg c2] at h ⊢
        by_cases c3 : c = 46
        · rw [if_pos c3] at h ⊢
          injection h with h; injection h with e3 h; injection h with e4 e5; subst e3 e4 e5
          exact ⟨_, _, rfl, rfl, by omega, by omega⟩
        rw [if_neg c3] at h ⊢
        by_cases c4 : c = 94
        · rw [if_pos c4] at h ⊢
          injection h with h; injection h with e3 h; injection h with e4 e5; subst e3 e4 e5
          exact ⟨_, _, rfl, rfl, by omega, by omega⟩
        rw [if_neg c4] at h ⊢
        by_cases c5 : c = 36
        · rw [if_pos c5] at h ⊢
          injection h with h; injection h with e3 h; injection h with e4 e5; subst e3 e4 e5
          exact ⟨_, _, rfl, rfl, by omega, by omega⟩
        rw [if_neg c5] at h ⊢
        by_cases c6 : c = 92
        · rw [if_pos c6] at h ⊢
          cases h1 : a[i + 1]? with
          | none => simp [h1] at h
          | some e =>
            have := lt_of_some h1
            simp only [h1] at h
            rw [Nat.add_assoc, big_some a pre post h1]
            injection h with h; injection h with e3 h; injection h with e4 e5; subst e3 e4 e5
            exact ⟨_, _, rfl, rfl, by omega, by omega⟩
        rw [if_neg c6] at h ⊢
        injection h with h; injection h with e3 h; injection h with e4 e5; subst e3 e4 e5
        exact ⟨_, _, rfl, rfl, by omega, by omega⟩
end
end Go.Y

/- How far a reading comes: plain. -/
namespace Go.Y

theorem endS_rng {s : List UInt8} {i j : Nat} {c : Int} (h : endS s i = .ok (c, j)) : 0 ≤ c ∧ c < 256 := by
  unfold endS at h
  split at h
  · cases h
  · rename_i d _
    split at h
    · cases h
    · split at h
      · split at h
        · cases h
        · rename_i e _
          cases h
          have := e.toNat_lt
          omega
      · cases h
        have := d.toNat_lt
        omega
theorem itemS_rng {s : List UInt8} {i j : Nat} {x : Span} (h : itemS s i = .ok (x, j)) : (0 ≤ x.lo ∧ x.lo < 256) ∧ (0 ≤ x.hi ∧ x.hi < 256) := by
  unfold itemS at h
  split at h
  · cases h
  · rename_i lo k h1
    have g1 := endS_rng h1
    split at h
    · split at h
      · cases h
      · rename_i hi k2 h2
        have g2 := endS_rng h2
        split at h
        · cases h
        · cases h; exact ⟨g1, g2⟩
    · cases h; exact ⟨g1, g1⟩
theorem setS_rng {s : List UInt8} : ∀ {n i : Nat} {out l : List Span} {j : Nat}, setS n s i out = .ok (l, j) → (∀ x ∈ out, (0 ≤ x.lo ∧ x.lo < 256) ∧ (0 ≤ x.hi ∧ x.hi < 256)) →
    (∀ x ∈ l, (0 ≤ x.lo ∧ x.lo < 256) ∧ (0 ≤ x.hi ∧ x.hi < 256)) ∧ l.length ≤ out.length + (j - i)
  | 0, _, _, _, _, h, _ => by cases h
  | n + 1, i, out, l, j, h, ho => by
    simp only [setS] at h
    split at h
    · cases h; exact ⟨ho, by omega⟩
    · split at h
      · cases h
      · rename_i x k h1
        have g1 := itemS_ok h1
        have g2 := setS_rng h (fun y hy => by
          rcases List.mem_append.1 hy with hy | hy
          · exact ho y hy
          · rw [List.mem_singleton] at hy; subst hy; exact itemS_rng h1)
        have g3 := setS_ok h
        refine ⟨g2.1, ?_⟩
        have := g2.2
        simp only [List.length_append, List.length_cons, List.length_nil] at this
        omega

theorem braces_lt {s : List UInt8} {i j : Nat} {lo hi : Int} (h : bracesS s i = .ok (lo, hi, j)) : j ≤ s.length := by
  unfold bracesS at h
  split at h
  · cases h
  · rename_i lo2 k h1
    split at h
    · split at h
      · rename_i h2
        have := (List.getElem?_eq_some_iff.1 h2).1
        cases h; omega
      · split at h
        · cases h
        · split at h
          · rename_i h3
            have := (List.getElem?_eq_some_iff.1 h3).1
            cases h; omega
          · cases h
    · split at h
      · rename_i h2
        have := (List.getElem?_eq_some_iff.1 h2).1
        cases h; omega
      · cases h
theorem class_lt {s : List UInt8} {i j : Nat} {x : S4} (h : classS s i = .ok (x, j)) : i ≤ j ∧ j ≤ s.length := by
  refine ⟨class_le h, ?_⟩
  unfold classS at h
  simp only [] at h
  split at h
  · cases h
  · rename_i l k h1
    have := setS_ok h1
    cases h; omega

theorem prog_all (s : List UInt8) : ∀ n,
    (∀ {d i g r j g'}, altE n d s i g = .ok (r, j, g') → i ≤ s.length → g ≤ i → i ≤ j ∧ j ≤ s.length ∧ g' ≤ j) ∧
    (∀ {d i g l r j g'}, altsE n d s i g l = .ok (r, j, g') → i ≤ s.length → g ≤ i → i ≤ j ∧ j ≤ s.length ∧ g' ≤ j) ∧
    (∀ {d i g l r j g'}, rowE n d s i g l = .ok (r, j, g') → i ≤ s.length → g ≤ i → i ≤ j ∧ j ≤ s.length ∧ g' ≤ j) ∧
    (∀ {d i g r j g'}, pieceE n d s i g = .ok (r, j, g') → i ≤ s.length → g ≤ i → i < j ∧ j ≤ s.length ∧ g' ≤ j) ∧
    (∀ {d i g r j g'}, atomE n d s i g = .ok (r, j, g') → i ≤ s.length → g ≤ i → i < j ∧ j ≤ s.length ∧ g' ≤ j)
  | 0 => ⟨fun h => by simp [altE] at h, fun h => by simp [altsE] at h, fun h => by simp [rowE] at h, fun h => by simp [pieceE] at h, fun h => by simp [atomE] at h⟩
  | n + 1 => by
    obtain ⟨p1, p2, p3, p4, p5⟩ := prog_all s n
    refine ⟨fun {d i g r j g'} h hi hg => ?_, fun {d i g l r j g'} h hi hg => ?_, fun {d i g l r j g'} h hi hg => ?_, fun {d i g r j g'} h hi hg => ?_, fun {d i g r j g'} h hi hg => ?_⟩
    · rw [altE] at h
      split at h
      · cases h
      · rename_i r1 i1 g1 h1
        have a1 := p3 h1 hi hg
        have a2 := p2 h a1.2.1 a1.2.2
        omega
    · rw [altsE] at h
      split at h
      · rename_i h0
        have hl := (List.getElem?_eq_some_iff.1 h0).1
        split at h
        · cases h
        · rename_i r1 i1 g1 h1
          have a1 := p3 h1 (by omega) (by omega)
          have a2 := p2 h a1.2.1 a1.2.2
          omega
      · cases h; omega
    · rw [rowE] at h
      split at h
      · cases h; omega
      · split at h
        · cases h; omega
        · split at h
          · cases h
          · rename_i r1 i1 g1 h1
            have a1 := p4 h1 hi hg
            have a2 := p3 h a1.2.1 a1.2.2
            omega
    · rw [pieceE] at h
      split at h
      · cases h
      · rename_i r1 i1 g1 h1
        have a1 := p5 h1 hi hg
        split at h
        · cases h; omega
        · rename_i c hc
          have hl := (List.getElem?_eq_some_iff.1 hc).1
          split at h
          · split at h
            · cases h
            · split at h
              · cases h; omega
              · split at h
                · cases h; omega
                · split at h
                  · cases h; omega
                  · split at h
                    · cases h
                    · rename_i lo hi2 j2 h2
                      have b1 := braces_le h2
                      have b2 := braces_lt h2
                      cases h; omega
          · cases h; omega
    · rw [atomE] at h
      split at h
      · cases h
      · rename_i c hc
        have hl := (List.getElem?_eq_some_iff.1 hc).1
        split at h
        · cases h
        · split at h
          · split at h
            · cases h
            · split at h
              · cases h
              · rename_i r1 i1 g1 h1
                have a1 := p1 h1 (by omega) (by omega)
                split at h
                · rename_i h41
                  have := (List.getElem?_eq_some_iff.1 h41).1
                  cases h; omega
                · cases h
          · split at h
            · split at h
              · cases h
              · rename_i x j2 h2
                have := class_lt h2
                cases h; omega
            · split at h
              · cases h; omega
              · split at h
                · cases h; omega
                · split at h
                  · cases h; omega
                  · split at h
                    · split at h
                      · cases h
                      · rename_i d2 h2
                        have := (List.getElem?_eq_some_iff.1 h2).1
                        cases h; omega
                    · cases h; omega
end Go.Y

/- The automaton of an expression runs over what the expression stands for. Plain. -/
namespace Go.Y
open Gl

structure Au0 where
  sets : List S4
  fol : List (List Nat)
structure Part where
  first : List Nat
  last : List Nat
  empty : Bool

section
variable (bo : List Nat → List Nat → List Nat)
def linkF (fol : List (List Nat)) (src to : List Nat) : List (List Nat) := src.foldl (fun fol p => fol.set p (bo (fol.getD p []) to)) fol
def catP (A : Au0) (a b : Part) : Au0 × Part :=
  (⟨A.sets, linkF bo A.fol a.last b.first⟩, ⟨if a.empty then bo a.first b.first else a.first, if b.empty then bo a.last b.last else b.last, a.empty && b.empty⟩)
def timesF (lo hi : Int) : Nat := (if 0 ≤ hi then hi else max lo 1).toNat
def loopP (A : Au0) (x : Part) : Au0 := ⟨A.sets, linkF bo A.fol x.last x.first⟩
def repP (g : Au0 → Au0 × Part) (lo hi : Int) (n : Nat) : Nat → Nat → Au0 → Part → Au0 × Part
  | 0, _, A, out => (A, out)
  | k + 1, i, A, out =>
    let r := g A
    let A1 := if hi < 0 ∧ i + 1 = n then loopP bo r.1 r.2 else r.1
    let x : Part := ⟨r.2.first, r.2.last, r.2.empty || decide (lo ≤ (i : Int))⟩
    let c := catP bo A1 out x
    repP g lo hi n k (i + 1) c.1 c.2

def partF : Re → Au0 → Au0 × Part
  | .mk kind set kids lo hi _ => fun A =>
    if kind = 1 then (⟨A.sets ++ [set], A.fol ++ [[]]⟩, ⟨[A.sets.length], [A.sets.length], false⟩)
    else if kind = 5 then altF kids A ⟨[], [], false⟩
    else if kind = 4 ∨ kind = 7 then catF kids A ⟨[], [], true⟩
    else if kind = 6 then repF kids lo hi A
    else (A, ⟨[], [], true⟩)
where
  altF : List Re → Au0 → Part → Au0 × Part
    | [], A, out => (A, out)
    | r :: l, A, out => let x := partF r A; altF l x.1 ⟨bo out.first x.2.first, bo out.last x.2.last, out.empty || x.2.empty⟩
  catF : List Re → Au0 → Part → Au0 × Part
    | [], A, out => (A, out)
    | r :: l, A, out => let x := partF r A; let c := catP bo x.1 out x.2; catF l c.1 c.2
  repF : List Re → Int → Int → Au0 → Au0 × Part
    | [], _, _, A => (A, ⟨[], [], true⟩)
    | r :: _, lo, hi, A => repP bo (partF r) lo hi (timesF lo hi) (timesF lo hi) 0 A ⟨[], [], true⟩
end
end Go.Y
