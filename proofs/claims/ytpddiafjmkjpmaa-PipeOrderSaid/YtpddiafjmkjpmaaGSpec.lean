/- What patterns come to, over lists of bytes. -/
import Derived.Test.YtpddiafjmkjpmaaGLib
namespace Go.Y

structure Span where
  lo : Int
  hi : Int
  deriving DecidableEq, Inhabited
structure Glob where
  k : Int
  b : Int
  sp : List Span
  deriving DecidableEq, Inhabited

abbrev encS (x : Span) : List V := [.i .u8 x.lo, .i .u8 x.hi]
abbrev encG (x : Glob) : List V := [.i .i64 x.k, .i .u8 x.b, lst encS x.sp]
theorem encS_len (x : Span) : (encS x).length = 2 := rfl
theorem encG_len (x : Glob) : (encG x).length = 3 := rfl
theorem encS_cold (x : Span) : colds1 (encS x) = true := rfl
theorem encG_cold (x : Glob) : colds1 (encG x) = true := rfl

/-- The reader's next byte. -/
def nextS (s : List UInt8) (i : Nat) (b : Bool) : Int × Nat × Bool := match s[i]? with
  | some c => (c.toNat, i + 1, b)
  | none => (0, i, true)

/-- A byte of an item, and the place behind it; or the place where it can't go on. -/
def endS (s : List UInt8) (i : Nat) : Except Nat (Int × Nat) := match s[i]? with
  | none => .error i
  | some c => if c = 93 ∨ c = 45 then .error i else if c = 92 then match s[i + 1]? with
      | none => .error (i + 1)
      | some d => .ok (d.toNat, i + 2)
    else .ok (c.toNat, i + 1)

def itemS (s : List UInt8) (i : Nat) : Except Nat (Span × Nat) := match endS s i with
  | .error e => .error e
  | .ok (lo, j) => if s[j]? = some 45 then match endS s (j + 1) with
      | .error e => .error e
      | .ok (hi, k) => if hi < lo then .error (k - 1) else .ok (⟨lo, hi⟩, k)
    else .ok (⟨lo, lo⟩, j)

def setS : Nat → List UInt8 → Nat → List Span → Except Nat (List Span × Nat)
  | 0, _, i, _ => .error i
  | n + 1, s, i, out => if out ≠ [] ∧ s[i]? = some 93 then .ok (out, i + 1) else match itemS s i with
    | .error e => .error e
    | .ok (x, j) => setS n s j (out ++ [x])

def pieceS (s : List UInt8) (i : Nat) : Except Nat (Glob × Nat) := match s[i]? with
  | none => .error i
  | some c => if c = 42 then .ok (⟨2, 0, []⟩, i + 1) else if c = 63 then .ok (⟨1, 0, []⟩, i + 1) else
    if c = 91 then match setS (s.length + 1) s (i + 1) [] with
      | .error e => .error e
      | .ok (l, j) => .ok (⟨3, 0, l⟩, j)
    else if c = 92 then match s[i + 1]? with
      | none => .error (i + 1)
      | some d => .ok (⟨0, d.toNat, []⟩, i + 2)
    else .ok (⟨0, c.toNat, []⟩, i + 1)

def parseS : Nat → List UInt8 → Nat → List Glob → Except Nat (List Glob)
  | 0, _, i, _ => .error i
  | n + 1, s, i, out => if i < s.length then match pieceS s i with
      | .error e => .error e
      | .ok (x, j) => parseS n s j (out ++ [x])
    else .ok out

theorem endS_ok {s : List UInt8} {i : Nat} {c : Int} {j : Nat} (h : endS s i = .ok (c, j)) : i < j ∧ j ≤ s.length ∧ j ≤ i + 2 := by
  unfold endS at h
  split at h
  · cases h
  · rename_i c1 h1
    have hi := (List.getElem?_eq_some_iff.1 h1).1
    split at h
    · cases h
    · split at h
      · split at h
        · cases h
        · rename_i d h2
          have hi2 := (List.getElem?_eq_some_iff.1 h2).1
          cases h
          omega
      · cases h
        omega

theorem endS_err {s : List UInt8} {i e : Nat} (hi : i ≤ s.length) (h : endS s i = .error e) : e ≤ s.length := by
  unfold endS at h
  split at h
  · cases h; exact hi
  · rename_i c1 h1
    have hi := (List.getElem?_eq_some_iff.1 h1).1
    split at h
    · cases h; omega
    · split at h
      · split at h
        · cases h; omega
        · cases h
      · cases h

theorem itemS_ok {s : List UInt8} {i : Nat} {x : Span} {j : Nat} (h : itemS s i = .ok (x, j)) : i < j ∧ j ≤ s.length := by
  unfold itemS at h
  split at h
  · cases h
  · rename_i lo k h1
    have := endS_ok h1
    split at h
    · split at h
      · cases h
      · rename_i hi k2 h2
        have := endS_ok h2
        split at h
        · cases h
        · cases h; omega
    · cases h; omega

theorem setS_ok {s : List UInt8} : ∀ {n i : Nat} {out l : List Span} {j : Nat}, setS n s i out = .ok (l, j) → i < j ∧ j ≤ s.length
  | 0, _, _, _, _, h => by cases h
  | n + 1, i, out, l, j, h => by
    simp only [setS] at h
    split at h
    · rename_i hc
      have := (List.getElem?_eq_some_iff.1 hc.2).1
      cases h; omega
    · split at h
      · cases h
      · rename_i x k h1
        have g1 := itemS_ok h1
        have g2 := setS_ok h
        omega

theorem pieceS_ok {s : List UInt8} {i : Nat} {x : Glob} {j : Nat} (h : pieceS s i = .ok (x, j)) : i < j ∧ j ≤ s.length := by
  unfold pieceS at h
  split at h
  · cases h
  · rename_i c h0
    have hi := (List.getElem?_eq_some_iff.1 h0).1
    split at h
    · cases h; omega
    · split at h
      · cases h; omega
      · split at h
        · split at h
          · cases h
          · rename_i l k h1
            have := setS_ok h1
            cases h; omega
        · split at h
          · split at h
            · cases h
            · rename_i d h1
              have := (List.getElem?_eq_some_iff.1 h1).1
              cases h; omega
          · cases h; omega
end Go.Y
