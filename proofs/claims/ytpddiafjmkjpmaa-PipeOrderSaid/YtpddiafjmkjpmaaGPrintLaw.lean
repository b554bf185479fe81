/- What pieces are printed as, and that this is parsed again. -/
import Derived.Test.YtpddiafjmkjpmaaGMatch
namespace Go.Y

def b8 (n : Int) : UInt8 := UInt8.ofNat n.toNat
def byteR (n : Int) : Prop := 0 ≤ n ∧ n ≤ 255
theorem b8_nat {n : Int} (h : byteR n) : ((b8 n).toNat : Int) = n := by
  obtain ⟨h0, h1⟩ := h
  unfold b8
  rw [UInt8.toNat_ofNat']
  omega

def toldS (c : UInt8) (means : List UInt8) : List UInt8 := if means.contains c then [92, c] else [c]
def spanS (x : Span) : List UInt8 := toldS (b8 x.lo) [93, 45, 92] ++ if x.hi ≠ x.lo then 45 :: toldS (b8 x.hi) [93, 45, 92] else []
def itemsS (l : List Span) : List UInt8 := l.flatMap spanS
def printG (g : Glob) : List UInt8 := if g.k = 1 then [63] else if g.k = 2 then [42] else if g.k = 3 then 91 :: (itemsS g.sp ++ [93]) else toldS (b8 g.b) [42, 63, 91, 92]
def printS (l : List Glob) : List UInt8 := l.flatMap printG

def wfSpan (x : Span) : Prop := byteR x.lo ∧ byteR x.hi
def wfGlob (g : Glob) : Prop := byteR g.b ∧ ∀ x ∈ g.sp, wfSpan x

/-- What stands at a place. -/
theorem at_app (A B : List UInt8) (j : Nat) : (A ++ B)[A.length + j]? = B[j]? := by
  rw [List.getElem?_append_right (by omega)]; congr 1; omega
theorem at_app0 (A B : List UInt8) : (A ++ B)[A.length]? = B[0]? := at_app A B 0

theorem end_print (A B : List UInt8) {n : Int} (hn : byteR n) : endS (A ++ (toldS (b8 n) [93, 45, 92] ++ B)) A.length = .ok (n, A.length + (toldS (b8 n) [93, 45, 92]).length) := by
  unfold toldS
  by_cases hc : ([93, 45, 92] : List UInt8).contains (b8 n) = true
  · rw [if_pos hc]
    have e0 : (A ++ ([92, b8 n] ++ B))[A.length]? = some 92 := at_app0 _ _
    have e1 : (A ++ ([92, b8 n] ++ B))[A.length + 1]? = some (b8 n) := at_app _ _ 1
    unfold endS
    rw [e0]
    simp only []
    rw [if_neg (by decide), if_pos trivial, e1]
    simp only [b8_nat hn]
    rfl
  · rw [if_neg hc]
    have e0 : (A ++ ([b8 n] ++ B))[A.length]? = some (b8 n) := at_app0 _ _
    have hc' : b8 n ≠ 93 ∧ b8 n ≠ 45 ∧ b8 n ≠ 92 := by simpa using hc
    unfold endS
    rw [e0]
    simp only []
    rw [if_neg (by simp [hc'.1, hc'.2.1]), if_neg hc'.2.2]
    simp only [b8_nat hn]
    rfl

/-- No byte that is told begins so. -/
theorem told_head (c : UInt8) (B : List UInt8) : ∃ d, (toldS c [93, 45, 92] ++ B)[0]? = some d ∧ d ≠ 93 ∧ d ≠ 45 := by
  unfold toldS
  by_cases hc : ([93, 45, 92] : List UInt8).contains c = true
  · rw [if_pos hc]; exact ⟨92, rfl, by decide, by decide⟩
  · rw [if_neg hc]
    have hc' : c ≠ 93 ∧ c ≠ 45 ∧ c ≠ 92 := by simpa using hc
    exact ⟨c, rfl, hc'.1, hc'.2.1⟩
theorem told_pos (c : UInt8) (m : List UInt8) : 0 < (toldS c m).length := by unfold toldS; split <;> simp

theorem item_print (A B : List UInt8) {x : Span} (hx : wfSpan x) (hle : x.lo ≤ x.hi) (hB : B[0]? ≠ some 45) : itemS (A ++ (spanS x ++ B)) A.length = .ok (x, A.length + (spanS x).length) := by
  unfold itemS spanS
  by_cases hne : x.hi ≠ x.lo
  · rw [if_pos hne]
    have e1 := end_print A (45 :: toldS (b8 x.hi) [93, 45, 92] ++ B) hx.1
    rw [List.append_assoc, e1]
    simp only []
    have e2 : (A ++ (toldS (b8 x.lo) [93, 45, 92] ++ (45 :: toldS (b8 x.hi) [93, 45, 92] ++ B)))[A.length + (toldS (b8 x.lo) [93, 45, 92]).length]? = some 45 := by
      rw [at_app, at_app0]; rfl
    rw [if_pos e2]
    have e3 := end_print (A ++ toldS (b8 x.lo) [93, 45, 92] ++ [45]) B hx.2
    have e4 : A ++ toldS (b8 x.lo) [93, 45, 92] ++ [45] ++ (toldS (b8 x.hi) [93, 45, 92] ++ B) = A ++ (toldS (b8 x.lo) [93, 45, 92] ++ (45 :: toldS (b8 x.hi) [93, 45, 92] ++ B)) := by simp
    have e5 : (A ++ toldS (b8 x.lo) [93, 45, 92] ++ [45]).length = A.length + (toldS (b8 x.lo) [93, 45, 92]).length + 1 := by simp; omega
    rw [e4, e5] at e3
    rw [e3]
    simp only []
    rw [if_neg (by omega)]
    simp; omega
  · rw [if_neg hne, List.append_nil]
    have heq : x.hi = x.lo := by omega
    have e1 := end_print A B hx.1
    rw [e1]
    simp only []
    rw [if_neg]
    · cases x; simp only at heq; subst heq; rfl
    · rw [at_app, at_app0]; exact hB

theorem span_pos (x : Span) : 0 < (spanS x).length := by
  unfold spanS
  have := told_pos (b8 x.lo) [93, 45, 92]
  rw [List.length_append]; omega
theorem span_head (x : Span) (B : List UInt8) : ∃ d, (spanS x ++ B)[0]? = some d ∧ d ≠ 93 ∧ d ≠ 45 := by
  unfold spanS
  rw [List.append_assoc]
  exact told_head _ _

theorem items_head (r : List Span) (B : List UInt8) : (itemsS r ++ 93 :: B)[0]? ≠ some 45 := by
  cases r with
  | nil => simp [itemsS]
  | cons x r =>
    have : itemsS (x :: r) = spanS x ++ itemsS r := by simp [itemsS]
    rw [this, List.append_assoc]
    obtain ⟨d, h1, _, h2⟩ := span_head x (itemsS r ++ 93 :: B)
    rw [h1]; simpa using h2

theorem set_print : ∀ (r : List Span) (n : Nat) (A B : List UInt8) (out : List Span), (∀ x ∈ r, wfSpan x ∧ x.lo ≤ x.hi) → r.length < n → (r = [] → out ≠ []) →
    setS n (A ++ (itemsS r ++ 93 :: B)) A.length out = .ok (out ++ r, A.length + (itemsS r).length + 1)
  | [], 0, _, _, _, _, h, _ => by simp at h
  | [], n + 1, A, B, out, _, _, ho => by
    have e0 : (A ++ (itemsS [] ++ 93 :: B))[A.length]? = some 93 := at_app0 _ _
    simp only [setS]
    rw [if_pos ⟨ho rfl, e0⟩]
    simp [itemsS]
  | x :: r, 0, _, _, _, _, h, _ => by simp at h
  | x :: r, n + 1, A, B, out, hr, h, _ => by
    have hi : itemsS (x :: r) = spanS x ++ itemsS r := by simp [itemsS]
    obtain ⟨d, h1, h2, _⟩ := span_head x (itemsS r ++ 93 :: B)
    have e0 : (A ++ (itemsS (x :: r) ++ 93 :: B))[A.length]? = some d := by rw [at_app0, hi, List.append_assoc]; exact h1
    simp only [setS]
    rw [if_neg (by rw [e0]; simp [h2])]
    have e1 := item_print A (itemsS r ++ 93 :: B) (hr x (by simp)).1 (hr x (by simp)).2 (items_head r B)
    rw [hi, List.append_assoc, e1]
    simp only []
    have ih := set_print r n (A ++ spanS x) B (out ++ [x]) (fun y hy => hr y (by simp [hy])) (by simp at h; omega) (fun _ => by simp)
    rw [List.append_assoc, List.length_append] at ih
    rw [ih]
    simp; omega

theorem items_len (r : List Span) : r.length ≤ (itemsS r).length := by
  induction r with
  | nil => simp [itemsS]
  | cons x r ih =>
    have hi : itemsS (x :: r) = spanS x ++ itemsS r := by simp [itemsS]
    have := span_pos x
    rw [hi, List.length_append, List.length_cons]; omega

theorem piece_print (A B : List UInt8) {g : Glob} (hw : wfGlob g) (hg : oneS g = true) : pieceS (A ++ (printG g ++ B)) A.length = .ok (g, A.length + (printG g).length) := by
  unfold printG
  by_cases h1 : g.k = 1
  · rw [if_pos h1]
    have : g.b = 0 ∧ g.sp = [] := by simpa [oneS, h1] using hg
    unfold pieceS
    rw [show (A ++ ([63] ++ B))[A.length]? = some 63 from at_app0 _ _]
    simp only []
    rw [if_neg (by decide), if_pos trivial]
    cases g; simp_all
  rw [if_neg h1]
  by_cases h2 : g.k = 2
  · rw [if_pos h2]
    have : g.b = 0 ∧ g.sp = [] := by simpa [oneS, h2] using hg
    unfold pieceS
    rw [show (A ++ ([42] ++ B))[A.length]? = some 42 from at_app0 _ _]
    simp only []
    rw [if_pos trivial]
    cases g; simp_all
  rw [if_neg h2]
  by_cases h3 : g.k = 3
  · rw [if_pos h3]
    have ho : (g.b = 0 ∧ g.sp ≠ []) ∧ ∀ x ∈ g.sp, x.lo ≤ x.hi := by
      simp only [oneS, h3] at hg
      simp [ltI] at hg
      exact hg
    unfold pieceS
    rw [show (A ++ (91 :: (itemsS g.sp ++ [93]) ++ B))[A.length]? = some 91 from at_app0 _ _]
    simp only []
    rw [if_neg (by decide), if_neg (by decide), if_pos trivial]
    have e4 : A ++ (91 :: (itemsS g.sp ++ [93]) ++ B) = (A ++ [91]) ++ (itemsS g.sp ++ 93 :: B) := by simp
    have := set_print g.sp ((A ++ (91 :: (itemsS g.sp ++ [93]) ++ B)).length + 1) (A ++ [91]) B [] (fun x hx => ⟨hw.2 x hx, ho.2 x hx⟩) (by have := items_len g.sp; simp; omega) (fun h => absurd h ho.1.2)
    rw [e4]
    rw [e4] at this
    rw [show A.length + 1 = (A ++ [91]).length by simp, this]
    obtain ⟨k, b, sp⟩ := g
    simp only at h3 ho ⊢
    rw [h3, ho.1.1]
    simp; omega
  · rw [if_neg h3]
    have h0 : g.k = 0 := by
      by_cases h0 : g.k = 0
      · exact h0
      · simp [oneS, h0, h1, h2, h3] at hg
    have hsp : g.sp = [] := by simpa [oneS, h0] using hg
    have hge : (⟨0, ((b8 g.b).toNat : Int), []⟩ : Glob) = g := by
      rw [b8_nat hw.1]
      obtain ⟨k, b, sp⟩ := g
      simp only at h0 hsp
      rw [h0, hsp]
    unfold toldS
    by_cases hc : ([42, 63, 91, 92] : List UInt8).contains (b8 g.b) = true
    · rw [if_pos hc]
      unfold pieceS
      rw [show (A ++ ([92, b8 g.b] ++ B))[A.length]? = some 92 from at_app0 _ _]
      simp only []
      rw [if_neg (by decide), if_neg (by decide), if_neg (by decide), if_pos trivial, show (A ++ ([92, b8 g.b] ++ B))[A.length + 1]? = some (b8 g.b) from at_app _ _ 1]
      simp only [hge]
      rfl
    · rw [if_neg hc]
      have hc' : b8 g.b ≠ 42 ∧ b8 g.b ≠ 63 ∧ b8 g.b ≠ 91 ∧ b8 g.b ≠ 92 := by simpa using hc
      unfold pieceS
      rw [show (A ++ ([b8 g.b] ++ B))[A.length]? = some (b8 g.b) from at_app0 _ _]
      simp only []
      rw [if_neg hc'.1, if_neg hc'.2.1, if_neg hc'.2.2.1, if_neg hc'.2.2.2]
      simp only [hge]
      rfl

theorem printG_pos (g : Glob) : 0 < (printG g).length := by
  unfold printG
  split
  · simp
  · split
    · simp
    · split
      · simp
      · exact told_pos _ _
theorem print_cons (g : Glob) (l : List Glob) : printS (g :: l) = printG g ++ printS l := by simp [printS]

theorem parse_print : ∀ (r : List Glob) (n : Nat) (A : List UInt8) (out : List Glob), (∀ g ∈ r, wfGlob g ∧ oneS g = true) → r.length < n → parseS n (A ++ printS r) A.length out = .ok (out ++ r)
  | [], 0, _, _, _, h => by simp at h
  | [], n + 1, A, out, _, _ => by
    simp only [parseS]
    rw [if_neg (by simp [printS])]
    simp
  | g :: r, 0, _, _, _, h => by simp at h
  | g :: r, n + 1, A, out, hr, h => by
    have hp := printG_pos g
    simp only [parseS]
    rw [if_pos (by rw [print_cons]; simp; omega), print_cons, piece_print A (printS r) (hr g (by simp)).1 (hr g (by simp)).2]
    simp only []
    have ih := parse_print r n (A ++ printG g) (out ++ [g]) (fun y hy => hr y (by simp [hy])) (by simp at h; omega)
    rw [List.append_assoc, List.length_append] at ih
    rw [ih]
    simp

theorem print_len (l : List Glob) : l.length ≤ (printS l).length := by
  induction l with
  | nil => simp
  | cons g l ih =>
    have := printG_pos g
    rw [print_cons, List.length_append, List.length_cons]; omega

theorem parse_back {l : List Glob} (hw : ∀ g ∈ l, wfGlob g) (hm : mayS l = true) : parseS ((printS l).length + 1) (printS l) 0 [] = .ok l := by
  rw [mayS, List.all_eq_true] at hm
  have := parse_print l ((printS l).length + 1) [] [] (fun g hg => ⟨hw g hg, hm g hg⟩) (by have := print_len l; omega)
  simpa using this
end Go.Y
