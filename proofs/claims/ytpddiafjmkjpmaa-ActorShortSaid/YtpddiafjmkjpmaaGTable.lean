/- The table's law; parts; valid pieces. -/
import Derived.Test.YtpddiafjmkjpmaaGB1
import Derived.Test.YtpddiafjmkjpmaaGClone
import Derived.Test.YtpddiafjmkjpmaaGRule
namespace Go.Y

theorem M_oneg (g : Glob) (hg : g.k ≠ 2) (q : List UInt8) : M [g] q = true ↔ ∃ c, q = [c] ∧ fitsS g c.toNat = true := by
  rw [M_one g hg]
  constructor
  · rintro ⟨c, r, rfl, h1, h2⟩
    rw [M_nil] at h2
    cases r with
    | nil => exact ⟨c, rfl, h1⟩
    | cons _ _ => cases h2
  · rintro ⟨c, rfl, h⟩; exact ⟨c, [], rfl, h, by rw [M_nil]; rfl⟩
theorem M_manyg (g : Glob) (hg : g.k = 2) (q : List UInt8) : M [g] q = true := (M_many g hg [] q).2 ⟨[], List.nil_suffix, by rw [M_nil]; rfl⟩

theorem M_snoc_many (a : List Glob) (g : Glob) (hg : g.k = 2) (s : List UInt8) : M (a ++ [g]) s = true ↔ ∃ p, p <+: s ∧ M a p = true := by
  rw [M_append]
  exact ⟨fun ⟨p, q, h1, h2, _⟩ => ⟨p, ⟨q, h1.symm⟩, h2⟩, fun ⟨p, ⟨q, h1⟩, h2⟩ => ⟨p, q, h1.symm, h2, M_manyg g hg q⟩⟩

theorem M_snoc_many_nil (a : List Glob) (g : Glob) (hg : g.k = 2) : M (a ++ [g]) [] = M a [] := by
  rw [Bool.eq_iff_iff, M_snoc_many a g hg]
  exact ⟨fun ⟨p, h1, h2⟩ => by rw [List.prefix_nil.1 h1] at h2; exact h2, fun h => ⟨[], List.prefix_refl _, h⟩⟩
theorem M_snoc_many_step (a : List Glob) (g : Glob) (hg : g.k = 2) (t : List UInt8) (c : UInt8) : M (a ++ [g]) (t ++ [c]) = (M a (t ++ [c]) || M (a ++ [g]) t) := by
  rw [Bool.eq_iff_iff, Bool.or_eq_true, M_snoc_many a g hg, M_snoc_many a g hg]
  constructor
  · rintro ⟨p, h1, h2⟩
    rcases List.prefix_concat_iff.1 h1 with rfl | h1
    · exact .inl h2
    · exact .inr ⟨p, h1, h2⟩
  · rintro (h | ⟨p, h1, h2⟩)
    · exact ⟨_, List.prefix_refl _, h⟩
    · exact ⟨p, h1.trans (List.prefix_append t [c]), h2⟩
theorem M_snoc_one_nil (a : List Glob) (g : Glob) (hg : g.k ≠ 2) : M (a ++ [g]) [] = false := by
  rw [Bool.eq_false_iff]
  intro h
  obtain ⟨p, q, h1, _, h3⟩ := (M_append a [g] []).1 h
  obtain ⟨c, rfl, _⟩ := (M_oneg g hg q).1 h3
  simp at h1
theorem M_snoc_one_step (a : List Glob) (g : Glob) (hg : g.k ≠ 2) (t : List UInt8) (c : UInt8) : M (a ++ [g]) (t ++ [c]) = (M a t && fitsS g c.toNat) := by
  rw [Bool.eq_iff_iff, Bool.and_eq_true, M_append]
  constructor
  · rintro ⟨p, q, h1, h2, h3⟩
    obtain ⟨d, rfl, h4⟩ := (M_oneg g hg q).1 h3
    obtain ⟨rfl, h5⟩ := List.append_inj' h1 rfl
    cases h5
    exact ⟨h2, h4⟩
  · rintro ⟨h1, h2⟩
    exact ⟨t, [c], rfl, h1, (M_oneg g hg [c]).2 ⟨c, rfl, h2⟩⟩

/-- The table's entry: the first i pieces, the first k bytes. -/
def tab (l : List Glob) (s : List UInt8) (i k : Nat) : Bool := M (l.take i) (s.take k)

theorem tab_00 (l : List Glob) (s : List UInt8) (k : Nat) (hk : k ≤ s.length) : tab l s 0 k = decide (k = 0) := by
  unfold tab
  rw [List.take_zero, M_nil]
  cases k with
  | zero => rfl
  | succ k =>
    cases s with
    | nil => simp at hk
    | cons c r => rfl
theorem tab_many0 {l : List Glob} {s : List UInt8} {i : Nat} (hi : i < l.length) (hg : l[i].k = 2) : tab l s (i + 1) 0 = tab l s i 0 := by
  unfold tab
  rw [List.take_succ_eq_append_getElem hi, List.take_zero, M_snoc_many_nil _ _ hg]
theorem tab_many {l : List Glob} {s : List UInt8} {i k : Nat} (hi : i < l.length) (hg : l[i].k = 2) (hk : k < s.length) : tab l s (i + 1) (k + 1) = (tab l s i (k + 1) || tab l s (i + 1) k) := by
  unfold tab
  rw [List.take_succ_eq_append_getElem hi, List.take_succ_eq_append_getElem hk, M_snoc_many_step _ _ hg]
theorem tab_one0 {l : List Glob} {s : List UInt8} {i : Nat} (hi : i < l.length) (hg : l[i].k ≠ 2) : tab l s (i + 1) 0 = false := by
  unfold tab
  rw [List.take_succ_eq_append_getElem hi, List.take_zero, M_snoc_one_nil _ _ hg]
theorem tab_one {l : List Glob} {s : List UInt8} {i k : Nat} (hi : i < l.length) (hg : l[i].k ≠ 2) (hk : k < s.length) : tab l s (i + 1) (k + 1) = (tab l s i k && fitsS l[i] s[k].toNat) := by
  unfold tab
  rw [List.take_succ_eq_append_getElem hi, List.take_succ_eq_append_getElem hk, M_snoc_one_step _ _ hg]
theorem tab_all (l : List Glob) (s : List UInt8) : tab l s l.length s.length = M l s := by unfold tab; rw [List.take_length, List.take_length]

/-- Parts. -/
theorem M_parts (l : List Glob) (s : List UInt8) (k : Nat) : M l s = (List.range (s.length + 1)).any fun i => M (l.take k) (s.take i) && M (l.drop k) (s.drop i) := by
  rw [Bool.eq_iff_iff]
  have h := M_append (l.take k) (l.drop k) s
  rw [List.take_append_drop] at h
  rw [h, List.any_eq_true]
  constructor
  · rintro ⟨a, b, rfl, h1, h2⟩
    exact ⟨a.length, by simp; omega, by simp [h1, h2]⟩
  · rintro ⟨i, _, h2⟩
    rw [Bool.and_eq_true] at h2
    exact ⟨s.take i, s.drop i, (List.take_append_drop i s).symm, h2⟩

/-- May a piece be? -/
def oneS (g : Glob) : Bool :=
  if g.k = 0 then g.sp.isEmpty else if g.k = 1 ∨ g.k = 2 then g.b == 0 && g.sp.isEmpty else if g.k = 3 then g.b == 0 && !g.sp.isEmpty && !g.sp.any (fun x => ltI x.hi x.lo) else false
def mayS (l : List Glob) : Bool := l.all oneS
end Go.Y

/- What pieces are printed as, and that this is parsed again. -/
namespace Go.Y

def b8 (n : Int) : UInt8 := UInt8.ofNat n.toNat
def byteR (n : Int) : Prop := 0 ≤ n ∧ n ≤ 255
theorem b8_nat {n : Int} (h : byteR n) : ((b8 n).toNat : Int) = n := by
  obtain ⟨h0, h1⟩ := h
  unfold b8
  rw [UInt8.toNat_ofNat']
  omega

def toldS (c : UInt8) (means : List UInt8) : List UInt8 := if means.contains c then [92, c] else [c]
def spanS (x : Span) : List UInt8 := toldS (b8 x.lo) [93, 45, 92] ++ if x.hi ≠ x.lo then 45 :: toldS (b8 x.hi) [93, 45, 92] else []
def itemsS (l : List Span) : List UInt8 := l.flatMap spanS
def printG (g : Glob) : List UInt8 := if g.k = 1 then [63] else if g.k = 2 then [42] else if g.k = 3 then 91 :: (itemsS g.sp ++ [93]) else toldS (b8 g.b) [42, 63, 91, 92]
def printS (l : List Glob) : List UInt8 := l.flatMap printG

def wfSpan (x : Span) : Prop := byteR x.lo ∧ byteR x.hi
def wfGlob (g : Glob) : Prop := byteR g.b ∧ ∀ x ∈ g.sp, wfSpan x

/-- What stands at a place. -/
theorem at_app (A B : List UInt8) (j : Nat) : (A ++ B)[A.length + j]? = B[j]? := by
  rw [List.getElem?_append_right (by omega)]; congr 1; omega
theorem at_app0 (A B : List UInt8) : (A ++ B)[A.length]? = B[0]? := at_app A B 0

theorem end_print (A B : List UInt8) {n : Int} (hn : byteR n) : endS (A ++ (toldS (b8 n) [93, 45, 92] ++ B)) A.length = .ok (n, A.length + (toldS (b8 n) [93, 45, 92]).length) := by
  unfold toldS
  by_cases hc : ([93, 45, 92] : List UInt8).contains (b8 n) = true
  · rw [if_pos hc]
    have e0 : (A ++ ([92, b8 n] ++ B))[A.length]? = some 92 := at_app0 _ _
    have e1 : (A ++ ([92, b8 n] ++ B))[A.length + 1]? = some (b8 n) := at_app _ _ 1
    unfold endS
    rw [e0]
    simp only []
    rw [if_neg (by decide), if_pos trivial, e1]
    simp only [b8_nat hn]
    rfl
  · rw [if_neg hc]
    have e0 : (A ++ ([b8 n] ++ B))[A.length]? = some (b8 n) := at_app0 _ _
    have hc' : b8 n ≠ 93 ∧ b8 n ≠ 45 ∧ b8 n ≠ 92 := by simpa using hc
    unfold endS
    rw [e0]
    simp only []
    rw [if_neg (by simp [hc'.1, hc'.2.1]), if_neg hc'.2.2]
    simp only [b8_nat hn]
    rfl

/-- No byte that is told begins so. -/
theorem told_head (c : UInt8) (B : List UInt8) : ∃ d, (toldS c [93, 45, 92] ++ B)[0]? = some d ∧ d ≠ 93 ∧ d ≠ 45 := by
  unfold toldS
  by_cases hc : ([93, 45, 92] : List UInt8).contains c = true
  · rw [if_pos hc]; exact ⟨92, rfl, by decide, by decide⟩
  · rw [if_neg hc]
    have hc' : c ≠ 93 ∧ c ≠ 45 ∧ c ≠ 92 := by simpa using hc
    exact ⟨c, rfl, hc'.1, hc'.2.1⟩
theorem told_pos (c : UInt8) (m : List UInt8) : 0 < (toldS c m).length := by unfold toldS; split <;> simp

theorem item_print (A B : List UInt8) {x : Span} (hx : wfSpan x) (hle : x.lo ≤ x.hi) (hB : B[0]? ≠ some 45) : itemS (A ++ (spanS x ++ B)) A.length = .ok (x, A.length + (spanS x).length) := by
  unfold itemS spanS
  by_cases hne : x.hi ≠ x.lo
  · rw [if_pos hne]
    have e1 := end_print A (45 :: toldS (b8 x.hi) [93, 45, 92] ++ B) hx.1
    rw [List.append_assoc, e1]
    simp only []
    have e2 : (A ++ (toldS (b8 x.lo) [93, 45, 92] ++ (45 :: toldS (b8 x.hi) [93, 45, 92] ++ B)))[A.length + (toldS (b8 x.lo) [93, 45, 92]).length]? = some 45 := by
      rw [at_app, at_app0]; rfl
    rw [if_pos e2]
    have e3 := end_print (A ++ toldS (b8 x.lo) [93, 45, 92] ++ [45]) B hx.2
    have e4 : A ++ toldS (b8 x.lo) [93, 45, 92] ++ [45] ++ (toldS (b8 x.hi) [93, 45, 92] ++ B) = A ++ (toldS (b8 x.lo) [93, 45, 92] ++ (45 :: toldS (b8 x.hi) [93, 45, 92] ++ B)) := by simp
    have e5 : (A ++ toldS (b8 x.lo) [93, 45, 92] ++ [45]).length = A.length + (toldS (b8 x.lo) [93, 45, 92]).length + 1 := by simp; omega
    rw [e4, e5] at e3
    rw [e3]
    simp only []
    rw [if_neg (by omega)]
    simp; omega
  · rw [if_neg hne, List.append_nil]
    have heq : x.hi = x.lo := by omega
    have e1 := end_print A B hx.1
    rw [e1]
    simp only []
    rw [if_neg]
    · cases x; simp only at heq; subst heq; rfl
    · rw [at_app, at_app0]; exact hB

theorem span_pos (x : Span) : 0 < (spanS x).length := by
  unfold spanS
  have := told_pos (b8 x.lo) [93, 45, 92]
  rw [List.length_append]; omega
theorem span_head (x : Span) (B : List UInt8) : ∃ d, (spanS x ++ B)[0]? = some d ∧ d ≠ 93 ∧ d ≠ 45 := by
  unfold spanS
  rw [List.append_assoc]
  exact told_head _ _

theorem items_head (r : List Span) (B : List UInt8) : (itemsS r ++ 93 :: B)[0]? ≠ some 45 := by
  cases r with
  | nil => simp [itemsS]
  | cons x r =>
    have : itemsS (x :: r) = spanS x ++ itemsS r := by simp [itemsS]
    rw [this, List.append_assoc]
    obtain ⟨d, h1, _, h2⟩ := span_head x (itemsS r ++ 93 :: B)
    rw [h1]; simpa using h2

theorem set_print : ∀ (r : List Span) (n : Nat) (A B : List UInt8) (out : List Span), (∀ x ∈ r, wfSpan x ∧ x.lo ≤ x.hi) → r.length < n → (r = [] → out ≠ []) →
    setS n (A ++ (itemsS r ++ 93 :: B)) A.length out = .ok (out ++ r, A.length + (itemsS r).length + 1)
  | [], 0, _, _, _, _, h, _ => by simp at h
  | [], n + 1, A, B, out, _, _, ho => by
    have e0 : (A ++ (itemsS [] ++ 93 :: B))[A.length]? = some 93 := at_app0 _ _
    simp only [setS]
    rw [if_pos ⟨ho rfl, e0⟩]
    simp [itemsS]
  | x :: r, 0, _, _, _, _, h, _ => by simp at h
  | x :: r, n + 1, A, B, out, hr, h, _ => by
    have hi : itemsS (x :: r) = spanS x ++ itemsS r := by simp [itemsS]
    obtain ⟨d, h1, h2, _⟩ := span_head x (itemsS r ++ 93 :: B)
    have e0 : (A ++ (itemsS (x :: r) ++ 93 :: B))[A.length]? = some d := by rw [at_app0, hi, List.append_assoc]; exact h1
    simp only [setS]
    rw [if_neg (by rw [e0]; simp [h2])]
    have e1 := item_print A (itemsS r ++ 93 :: B) (hr x (by simp)).1 (hr x (by simp)).2 (items_head r B)
    rw [hi, List.append_assoc, e1]
    simp only []
    have ih := set_print r n (A ++ spanS x) B (out ++ [x]) (fun y hy => hr y (by simp [hy])) (by simp at h; omega) (fun _ => by simp)
    rw [List.append_assoc, List.length_append] at ih
    rw [ih]
    simp; omega

theorem items_len (r : List Span) : r.length ≤ (itemsS r).length := by
  induction r with
  | nil => simp [itemsS]
  | cons x r ih =>
    have hi : itemsS (x :: r) = spanS x ++ itemsS r := by simp [itemsS]
    have := span_pos x
    rw [hi, List.length_append, List.length_cons]; omega

theorem piece_print (A B : List UInt8) {g : Glob} (hw : wfGlob g) (hg : oneS g = true) : pieceS (A ++ (printG g ++ B)) A.length = .ok (g, A.length + (printG g).length) := by
  unfold printG
  by_cases h1 : g.k = 1
  · rw [if_pos h1]
    have : g.b = 0 ∧ g.sp = [] := by simpa [oneS, h1] using hg
    unfold pieceS
    rw [show (A ++ ([63] ++ B))[A.length]? = some 63 from at_app0 _ _]
    simp only []
    rw [if_neg (by decide), if_pos trivial]
    cases g; simp_all
  rw [if_neg h1]
  by_cases h2 : g.k = 2
  · rw [if_pos h2]
    have : g.b = 0 ∧ g.sp = [] := by simpa [oneS, h2] using hg
    unfold pieceS
    rw [show (A ++ ([42] ++ B))[A.length]? = some 42 from at_app0 _ _]
    simp only []
    rw [if_pos trivial]
    cases g; simp_all
  rw [if_neg h2]
  by_cases h3 : g.k = 3
  · rw [if_pos h3]
    have ho : (g.b = 0 ∧ g.sp ≠ []) ∧ ∀ x ∈ g.sp, x.lo ≤ x.hi := by
      simp only [oneS, h3] at hg
      simp [ltI] at hg
      exact hg
    unfold pieceS
    rw [show (A ++ (91 :: (itemsS g.sp ++ [93]) ++ B))[A.length]? = some 91 from at_app0 _ _]
    simp only []
    rw [if_neg (by decide), if_neg (by decide), if_pos trivial]
    have e4 : A ++ (91 :: (itemsS g.sp ++ [93]) ++ B) = (A ++ [91]) ++ (itemsS g.sp ++ 93 :: B) := by simp
    have := set_print g.sp ((A ++ (91 :: (itemsS g.sp ++ [93]) ++ B)).length + 1) (A ++ [91]) B [] (fun x hx => ⟨hw.2 x hx, ho.2 x hx⟩) (by have := items_len g.sp; simp; omega) (fun h => absurd h ho.1.2)
    rw [e4]
    rw [e4] at this
    rw [show A.length + 1 = (A ++ [91]).length by simp, this]
    obtain ⟨k, b, sp⟩ := g
    simp only at h3 ho ⊢
    rw [h3, ho.1.1]
    simp; omega
  · rw [if_neg h3]
    have h0 : g.k = 0 := by
      by_cases h0 : g.k = 0
      · exact h0
      · simp [oneS, h0, h1, h2, h3] at hg
    have hsp : g.sp = [] := by simpa [oneS, h0] using hg
    have hge : (⟨0, ((b8 g.b).toNat : Int), []⟩ : Glob) = g := by
      rw [b8_nat hw.1]
      obtain ⟨k, b, sp⟩ := g
      simp only at h0 hsp
      rw [h0, hsp]
    unfold toldS
    by_cases hc : ([42, 63, 91, 92] : List UInt8).contains (b8 g.b) = true
    · rw [if_pos hc]
      unfold pieceS
      rw [show (A ++ ([92, b8 g.b] ++ B))[A.length]? = some 92 from at_app0 _ _]
      simp only []
      rw [if_neg (by decide), if_neg (by decide), if_neg (by decide), if_pos trivial, show (A ++ ([92, b8 g.b] ++ B))[A.length + 1]? = some (b8 g.b) from at_app _ _ 1]
      simp only [hge]
      rfl
    · rw [if_neg hc]
      have hc' : b8 g.b ≠ 42 ∧ b8 g.b ≠ 63 ∧ b8 g.b ≠ 91 ∧ b8 g.b ≠ 92 := by simpa using hc
      unfold pieceS
      rw [show (A ++ ([b8 g.b] ++ B))[A.length]? = some (b8 g.b) from at_app0 _ _]
      simp only []
      rw [if_neg hc'.1, if_neg hc'.2.1, if_neg hc'.2.2.1, if_neg hc'.2.2.2]
      simp only [hge]
      rfl

theorem printG_pos (g : Glob) : 0 < (printG g).length := by
  unfold printG
  split
  · simp
  · split
    · simp
    · split
      · simp
      · exact told_pos _ _
theorem print_cons (g : Glob) (l : List Glob) : printS (g :: l) = printG g ++ printS l := by simp [printS]

theorem parse_print : ∀ (r : List Glob) (n : Nat) (A : List UInt8) (out : List Glob), (∀ g ∈ r, wfGlob g ∧ oneS g = true) → r.length < n → parseS n (A ++ printS r) A.length out = .ok (out ++ r)
  | [], 0, _, _, _, h => by simp at h
  | [], n + 1, A, out, _, _ => by
    simp only [parseS]
    rw [if_neg (by simp [printS])]
    simp
  | g :: r, 0, _, _, _, h => by simp at h
  | g :: r, n + 1, A, out, hr, h => by
    have hp := printG_pos g
    simp only [parseS]
    rw [if_pos (by rw [print_cons]; simp; omega), print_cons, piece_print A (printS r) (hr g (by simp)).1 (hr g (by simp)).2]
    simp only []
    have ih := parse_print r n (A ++ printG g) (out ++ [g]) (fun y hy => hr y (by simp [hy])) (by simp at h; omega)
    rw [List.append_assoc, List.length_append] at ih
    rw [ih]
    simp

theorem print_len (l : List Glob) : l.length ≤ (printS l).length := by
  induction l with
  | nil => simp
  | cons g l ih =>
    have := printG_pos g
    rw [print_cons, List.length_append, List.length_cons]; omega

theorem parse_back {l : List Glob} (hw : ∀ g ∈ l, wfGlob g) (hm : mayS l = true) : parseS ((printS l).length + 1) (printS l) 0 [] = .ok l := by
  rw [mayS, List.all_eq_true] at hm
  have := parse_print l ((printS l).length + 1) [] [] (fun g hg => ⟨hw g hg, hm g hg⟩) (by have := print_len l; omega)
  simpa using this
end Go.Y

/- strings.Builder, by contracts. -/
namespace Go.Y
open Go.Proofs
set_option maxRecDepth 100000

abbrev cellB (c : UInt8) : V := .i .u8 (c.toNat : Nat)
def te8 : TI := ⟨1, 1, .int .u8, [.i .u8 0]⟩

structure Bd (h : Heap) (id : Nat) (bs : List UInt8) : Prop where
  ex : ∃ (a s : Option (Nat × Nat)) (n : Nat) (c : Option Nat) (k : Nat), h.get id = some (.arr [.p a, .sl s n c k] true) ∧ (a = none ∨ a = some (id, 0)) ∧ IsL h 1 s n c k (bs.map cellB) ∧
    (∀ j o, s = some (j, o) → h.tagOf j = some 5 ∧ j ≠ id) ∧ (n = 0 → s = none)
  tag : h.tagOf id = some 92
  lt : id < h.nx

theorem tagOf_tagIf (h : Heap) (i : Nat) (t : Option TypeId) (j : Nat) : (h.tagIf i t).tagOf j = match t with | some x => if i = j then some x else h.tagOf j | none => h.tagOf j := by
  cases t <;> rfl
theorem tagOf_set (h : Heap) (i : Nat) (o : Option YObj) (j : Nat) : (h.set i o).tagOf j = h.tagOf j := rfl
theorem tagOf_push (h : Heap) (o : YObj) (j : Nat) : (h.push o).tagOf j = h.tagOf j := rfl

theorem app_b {h : Heap} {xt : TypeId} {x : V} {m : Nat} {new cells : List V} {a : Option (Nat × Nat)} {l : Nat} {c : Option Nat} {kk : Nat} (hsrc : source Try.Y ⟨[], [], h⟩ te8 xt x = some (m, new)) (hm : m ≠ 0) (hn : new.length = m) (hc : allCells new = true)
    (hl : IsL h 1 a l c kk cells) (htag : ∀ j o, a = some (j, o) → h.tagOf j = some 5) (hb : l + m ≤ 2 ^ 30) :
    ∃ h', appendH Try.Y h 90 xt (.sl a l c kk) x = some (.sl (some (h.nx, 0)) (l + m) none 1, h') ∧ h'.get h.nx = some (.arr (cells ++ new) true) ∧ h'.nx = h.nx + 1 ∧ h'.tagOf h.nx = some 5 ∧
      (∀ i, i < h.nx → (∀ o, a ≠ some (i, o)) → h'.get i = h.get i) ∧ ∀ i, i < h.nx → h'.tagOf i = h.tagOf i := by
  have hk : Try.Y.kd 90 = some (.slice 5) := by kernel_rfl
  have hte : Try.Y.ty 5 = some te8 := by kernel_rfl
  have ht5 : Try.Y.tag 5 = some 5 := by kernel_rfl
  have hmost : most = 1099511627776 := by decide
  rcases hl.2 with ⟨rfl, rfl, rfl⟩ | ⟨id, rfl, rfl, rfl, hid, hget⟩
  · refine ⟨h.pushT (some 5) (.arr new true), ?_, by simp, by simp, ?_, fun i hi _ => by rw [Heap.get_pushT, if_neg (by omega)], fun i hi => ?_⟩
    · have h1 : m ≤ most := by omega
      have e1 : te8.size = 1 := rfl
      have e2 : te8.bytes = 1 := rfl
      simp [appendH, appendY, hk, hte, hsrc, hc, hm, e1, e2, h1, ht5]
    · show ((h.push (.arr new true)).tagIf h.nx (some 5)).tagOf h.nx = some 5
      rw [tagOf_tagIf]; simp
    · show ((h.push (.arr new true)).tagIf h.nx (some 5)).tagOf i = h.tagOf i
      rw [tagOf_tagIf]; simp only; rw [if_neg (by omega)]; rfl
  · have hlen := hl.1
    have ht := htag id 0 rfl
    refine ⟨(h.set id none).pushT (some 5) (.arr (cells ++ new) true), ?_, by simp, by simp, ?_, fun i hi ha => ?_, fun i hi => ?_⟩
    · have hb1 : ¬ ((l + m) * 1 > most ∨ l + m > most) := by omega
      have hne : ¬ (0 + (l + m) * 1 ≤ cells.length) := by omega
      have htk : takeX (l * 1) (cells.drop 0) = some cells := by rw [List.drop_zero]; exact takeX_len hlen
      have e1 : te8.size = 1 := rfl
      have e2 : te8.bytes = 1 := rfl
      have htg : (if (0 : Nat) = 0 ∧ h.tagOf id = some 5 then some 5 else none) = (some 5 : Option TypeId) := by simp [ht]
      simp only [appendH, appendY, hk, hte, hsrc, e1, e2, if_false, hm, ne_eq, not_true_eq_false, hb1, hget, hne, Bool.true_or, if_true, htk, htg]
      rw [if_neg (by simp [hc])]
      simp only [ht, and_self, if_true]
    · show (((h.set id none).push _).tagIf (h.set id none).nx (some 5)).tagOf h.nx = some 5
      rw [tagOf_tagIf]; simp
    · have hne : i ≠ id := fun e => ha 0 (by rw [e])
      rw [Heap.get_pushT, if_neg (by simp; omega), Heap.get_set, if_neg hne]
    · show (((h.set id none).push _).tagIf (h.set id none).nx (some 5)).tagOf i = h.tagOf i
      rw [tagOf_tagIf]; simp only; rw [if_neg (by simp; omega)]; rfl

theorem cc_con {h : Heap} {id : Nat} {bs : List UInt8} (b : Bd h id bs) : Con Try.Y 104 [.p (some (id, 0))] h fun v h' => v = .tup [] ∧ Bd h' id bs := by
  obtain ⟨a, s, n, c, k, hg, ha, hL, ht, hz⟩ := b.ex
  refine conz_of Try.Yok (fn := Try.f104) (by kernel_rfl) (by kernel_rfl) (end_rule Try.Yok (loc := Try.Y.loc 104) 100 [] ?_)
  refine Eq.mpr (f104_0 id h _) ?_
  have hc : hcells h id 0 1 = some [.p a] := by simp [hcells, hg, takeX]
  have hty : (Try.Y.ty 92).isSome = true := by kernel_rfl
  refine ⟨a, hc, hty, if_mk (fun hn => ?_) (fun hn => ?_)⟩
  · have cv : ∃ (id_1 : Nat) (cs : List V) (wr : Bool) (ti : TI), some (id, 0) = some (id_1, 0) ∧ h.get id_1 = some (YObj.arr cs wr) ∧ h.tagOf id_1 = some 92 ∧ some (⟨2, 32, Kd.struct [(0, 89), (1, 90)], [.p none, .sl none 0 (some 0) 0]⟩ : TI) = some ti ∧ (ti.size = 0 → False) ∧ ti.size ≤ cs.length :=
      ⟨id, _, _, _, rfl, hg, b.tag, rfl, by simp, by simp⟩
    refine ⟨cv, cv, h.set id (some (.arr [.p (some (id, 0)), .sl s n c k] true)), by simp [hstore, hg, splice], finC (.inl rfl) rfl (.now ⟨rfl, ⟨⟨some (id, 0), s, n, c, k, by simp, .inr rfl, ?_, ht, hz⟩, b.tag, b.lt⟩⟩)⟩
    exact hL.fr (Nat.le_refl _) fun j hj _ => by rw [Heap.get_set, if_neg (fun e => (ht j 0 hj).2 e)]
  · have ha' : a = some (id, 0) := by
      rcases ha with rfl | ha
      · simp at hn
      · exact ha
    subst ha'
    exact ⟨_, hc, hty, ⟨(id, 0), rfl, rfl, by simp [hg]⟩, finC (.inl rfl) rfl (.now ⟨rfl, b⟩)⟩

/-- What a write leaves. -/
theorem Bd.put {h h' : Heap} {id : Nat} {bs : List UInt8} {new : List UInt8} {a s : Option (Nat × Nat)} {n : Nat} {c : Option Nat} {k : Nat} (b : Bd h id bs) (hg : h.get id = some (.arr [.p a, .sl s n c k] true)) (ha : a = none ∨ a = some (id, 0))
    (hL : IsL h 1 s n c k (bs.map cellB)) (ht : ∀ j o, s = some (j, o) → h.tagOf j = some 5 ∧ j ≠ id) (hnew : new ≠ [])
    (h1 : h'.get h.nx = some (.arr (bs.map cellB ++ new.map cellB) true)) (h2 : h'.nx = h.nx + 1) (h3 : h'.tagOf h.nx = some 5) (h4 : ∀ i, i < h.nx → (∀ o, s ≠ some (i, o)) → h'.get i = h.get i) (h5 : ∀ i, i < h.nx → h'.tagOf i = h.tagOf i) :
    ∃ h2, hstore h' id 1 [.sl (some (h.nx, 0)) (n + new.length) none 1] = some h2 ∧ Bd h2 id (bs ++ new) := by
  have hgi : h'.get id = some (.arr [.p a, .sl s n c k] true) := by rw [h4 id b.lt (fun o e => (ht id o e).2 rfl)]; exact hg
  have hlt := b.lt
  refine ⟨h'.set id (some (.arr [.p a, .sl (some (h.nx, 0)) (n + new.length) none 1] true)), by simp [hstore, hgi, splice], ⟨⟨a, some (h.nx, 0), n + new.length, none, 1, by simp, ha, ⟨?_, .inr ⟨h.nx, rfl, rfl, rfl, ?_, ?_⟩⟩, ?_, ?_⟩, ?_, ?_⟩⟩
  · have := hL.1
    simp at this ⊢; omega
  · simp [h2]
  · rw [Heap.get_set, if_neg (by omega), h1, List.map_append]
  · rintro j o e
    cases e
    exact ⟨by rw [tagOf_set]; exact h3, by omega⟩
  · intro h0
    have : new.length = 0 := by omega
    exact absurd (List.eq_nil_of_length_eq_zero this) hnew
  · rw [tagOf_set, h5 id b.lt]; exact b.tag
  · rw [Heap.nx_set, h2]; omega

theorem wbyte_con {h : Heap} {id : Nat} {bs : List UInt8} (b : Bd h id bs) (c : UInt8) (hl : bs.length < 2 ^ 29) : Con Try.Y 63 [.p (some (id, 0)), .i .u8 (c.toNat : Nat)] h fun v h' => v = .nilifc ∧ Bd h' id (bs ++ [c]) := by
  refine conz_of Try.Yok (fn := Try.f63) (by kernel_rfl) (by kernel_rfl) (end_rule Try.Yok (loc := Try.Y.loc 63) 100 [4] ?_)
  refine Eq.mpr (f63_0 id (c.toNat : Nat) h _) ?_
  refine (cc_con b).mono fun v h1 ⟨e1, b1⟩ => ⟨e1, ?_⟩
  obtain ⟨a, s, n, cc, k, hg, ha, hL, ht, hz⟩ := b1.ex
  have hn := hL.1
  simp at hn
  have hsrc : source Try.Y ⟨[], [], h1⟩ te8 90 (.ts [cellB c] 1 (some 1)) = some (1, [cellB c]) := by
    have hk : Try.Y.kd 90 = some (.slice 5) := by kernel_rfl
    simp [source, hk, elems, elemsS, te8, takeX]
  obtain ⟨h2, q1, q2, q3, q4, q5, q6⟩ := app_b (cells := bs.map cellB) hsrc (by omega) rfl rfl hL (fun j o e => (ht j o e).1) (by omega)
  obtain ⟨h3, p1, p2⟩ := b1.put (new := [c]) hg ha hL ht (by simp) q2 q3 q4 q5 q6
  exact ⟨s, n, cc, k, by simp [hcells, hg, takeX], _, _, _, _, h2, q1, h3, p1, finC (.inr rfl) rfl (.now ⟨rfl, p2⟩)⟩

theorem wstr_con {h : Heap} {id : Nat} {bs : List UInt8} (b : Bd h id bs) (t : List UInt8) (hl : bs.length + t.length < 2 ^ 29) : Con Try.Y 64 [.p (some (id, 0)), .s t] h fun v h' => v = .tup [.i .i64 (t.length : Nat), .nilifc] ∧ Bd h' id (bs ++ t) := by
  refine conz_of Try.Yok (fn := Try.f64) (by kernel_rfl) (by kernel_rfl) (end_rule Try.Yok (loc := Try.Y.loc 64) 100 [4, 5] ?_)
  refine Eq.mpr (f64_0 id t h _) ?_
  refine (cc_con b).mono fun v h1 ⟨e1, b1⟩ => ⟨e1, ?_⟩
  obtain ⟨a, s, n, cc, k, hg, ha, hL, ht, hz⟩ := b1.ex
  have hn := hL.1
  simp at hn
  have hsrc : source Try.Y ⟨[], [], h1⟩ te8 9 (.s t) = some (t.length, t.map cellB) := by
    have hk : Try.Y.kd 9 = some .str := by kernel_rfl
    simp [source, hk, elems, te8]
  have hall : allCells (t.map cellB) = true := by
    clear hsrc hl
    induction t with
    | nil => rfl
    | cons c t ih => simp only [List.map_cons, allCells, ih, Bool.and_true]; rfl
  have hc1 : hcells h1 id 1 1 = some [.sl s n cc k] := by simp [hcells, hg, takeX]
  by_cases h0 : t = []
  · subst h0
    have hk : Try.Y.kd 90 = some (.slice 5) := by kernel_rfl
    have hte : Try.Y.ty 5 = some te8 := by kernel_rfl
    have e1 : te8.size = 1 := rfl
    have happ : appendH Try.Y h1 90 9 (.sl s n cc k) (.s []) = some (.sl s n (if s = none then some 0 else cc) (if s = none then 1 else k), h1) := by
      rcases hL.2 with ⟨rfl, rfl, _⟩ | ⟨i2, rfl, rfl, rfl, _, _⟩
      · simp [appendH, appendY, hk, hte, hsrc, e1, allCells]
      · simp [appendH, appendY, hk, hte, hsrc, e1, allCells]
    refine ⟨s, n, cc, k, hc1, _, _, _, _, h1, happ, h1.set id (some (.arr [.p a, .sl s n (if s = none then some 0 else cc) (if s = none then 1 else k)] true)), by simp [hstore, hg, splice], finC (.inr rfl) rfl (.now ⟨rfl, ⟨⟨a, s, n, _, _, by simp; exact ⟨rfl, rfl⟩, ha, ?_, ht, hz⟩, b1.tag, b1.lt⟩⟩)⟩
    rw [List.append_nil]
    have hfr : IsL (h1.set id (some (.arr [.p a, .sl s n (if s = none then some 0 else cc) (if s = none then 1 else k)] true))) 1 s n cc k (bs.map cellB) := hL.fr (Nat.le_refl _) fun j hj _ => by rw [Heap.get_set, if_neg (fun e => (ht j 0 hj).2 e)]
    refine ⟨hfr.1, ?_⟩
    rcases hfr.2 with ⟨rfl, g2, g3⟩ | ⟨i2, rfl, g3⟩
    · exact .inl ⟨rfl, g2, g3⟩
    · exact .inr ⟨i2, rfl, g3⟩
  · obtain ⟨h2, q1, q2, q3, q4, q5, q6⟩ := app_b (cells := bs.map cellB) hsrc (by simpa using h0) (by simp) hall hL (fun j o e => (ht j o e).1) (by omega)
    obtain ⟨h3, p1, p2⟩ := b1.put (new := t) hg ha hL ht h0 q2 q3 q4 q5 q6
    exact ⟨s, n, cc, k, hc1, _, _, _, _, h2, q1, h3, p1, finC (.inr rfl) rfl (.now ⟨rfl, p2⟩)⟩

theorem blen_con {h : Heap} {id : Nat} {bs : List UInt8} (b : Bd h id bs) : RCon Try.Y 67 [.p (some (id, 0))] h (.i .i64 (bs.length : Nat)) := by
  obtain ⟨a, s, n, c, k, hg, ha, hL, ht, hz⟩ := b.ex
  have hn := hL.1
  simp at hn
  refine ⟨h, ?_, fun _ _ => rfl, fun _ h => h⟩
  refine conz_of Try.Yok (fn := Try.f67) (by kernel_rfl) (by kernel_rfl) (end_rule Try.Yok (loc := Try.Y.loc 67) 100 [2] ?_)
  refine Eq.mpr (f67_0 id h _) ?_
  exact ⟨s, n, c, k, by simp [hcells, hg, takeX], finC (.inr rfl) rfl (.now ⟨by rw [hn]; rfl, rfl⟩)⟩

theorem bytesOf_cells : ∀ bs : List UInt8, bytesOf (bs.map cellB) = some bs
  | [] => rfl
  | c :: bs => by
    rw [List.map_cons, bytesOf, bytesOf_cells bs]
    simp

theorem bstr_con {h : Heap} {id : Nat} {bs : List UInt8} (b : Bd h id bs) (hl : bs.length < 2 ^ 30) : Con Try.Y 68 [.p (some (id, 0))] h fun v _ => v = .s bs := by
  obtain ⟨a, s, n, c, k, hg, ha, hL, ht, hz⟩ := b.ex
  have hn := hL.1
  simp at hn
  have hc : hcells h id 1 1 = some [.sl s n c k] := by simp [hcells, hg, takeX]
  refine conz_of Try.Yok (fn := Try.f68) (by kernel_rfl) (by kernel_rfl) (end_rule Try.Yok (loc := Try.Y.loc 68) 100 [2] ?_)
  refine Eq.mpr (f68_0 id h _) ?_
  have hmost : most = 1099511627776 := by decide
  rcases hL.2 with ⟨rfl, rfl, h0⟩ | ⟨i2, rfl, rfl, rfl, g1, g2⟩
  · have : bs = [] := by simpa using h0
    subst this
    refine ⟨_, _, _, _, hc, fun _ => rfl, _, _, _, _, hc, [], h, by simp [strH], finC (.inr rfl) rfl (.now rfl)⟩
  · have hne : n ≠ 0 := fun e => by have := hz e; cases this
    refine ⟨_, _, _, _, hc, fun e => absurd e hne, _, _, _, _, hc, bs, h.set i2 (some (.arr (bs.map cellB) false)), ?_, finC (.inr rfl) rfl (.now rfl)⟩
    have hk : Try.Y.kd 5 = some (.int .u8) := by kernel_rfl
    have hp : isPtr Try.Y 133 5 = true := by kernel_rfl
    have h5 := (ht i2 0 rfl).1
    simp only [strH, g2, h5, hk]
    rw [if_neg (by omega), if_pos ⟨hp, by simp; omega, by simp; omega⟩, bytesOf_cells]
    rfl
end Go.Y
