/- The automaton of an expression runs over what the expression stands for. Plain. -/
import Derived.Test.YteennilbmmlikaaGreatDoorGGlush4
import Derived.Test.YteennilbmmlikaaGreatDoorGReD
namespace Go.Y
open Gl

def okRe : Re → Prop
  | .mk kind _ kids lo hi _ => kind ≠ 2 ∧ kind ≠ 3 ∧ (kind = 6 → 0 ≤ lo ∧ (hi < 0 ∨ lo ≤ hi) ∧ kids ≠ []) ∧ okRes kids
where
  okRes : List Re → Prop
    | [] => True
    | r :: l => okRe r ∧ okRes l

theorem catW_congr {L L' M M' : List UInt8 → Prop} (h : ∀ w, L w ↔ L' w) (g : ∀ w, M w ↔ M' w) (w : List UInt8) : catW L M w ↔ catW L' M' w := by
  unfold catW
  constructor
  · rintro ⟨w1, w2, e, h1, h2⟩; exact ⟨w1, w2, e, (h w1).1 h1, (g w2).1 h2⟩
  · rintro ⟨w1, w2, e, h1, h2⟩; exact ⟨w1, w2, e, (h w1).2 h1, (g w2).2 h2⟩
theorem catW_assoc {L M N : List UInt8 → Prop} (w : List UInt8) : catW (catW L M) N w ↔ catW L (catW M N) w := by
  constructor
  · rintro ⟨w1, w2, rfl, ⟨v1, v2, rfl, h1, h2⟩, h3⟩
    exact ⟨v1, v2 ++ w2, by simp, h1, v2, w2, rfl, h2, h3⟩
  · rintro ⟨w1, w2, rfl, h1, v1, v2, rfl, h2, h3⟩
    exact ⟨w1 ++ v1, v2, by simp, ⟨w1, v1, rfl, h1, h2⟩, h3⟩
theorem catW_nil {L : List UInt8 → Prop} (w : List UInt8) : catW L (fun v => v = []) w ↔ L w := by
  constructor
  · rintro ⟨w1, w2, e, h1, rfl⟩; rw [List.append_nil] at e; rw [e]; exact h1
  · intro h; exact ⟨w, [], by simp, h, rfl⟩
theorem nil_catW {L : List UInt8 → Prop} (w : List UInt8) : catW (fun v => v = []) L w ↔ L w := by
  constructor
  · rintro ⟨w1, w2, e, rfl, h1⟩; rw [List.nil_append] at e; rw [e]; exact h1
  · intro h; exact ⟨[], w, rfl, rfl, h⟩
theorem pow_succ {L : List UInt8 → Prop} (m : Nat) (w : List UInt8) : Pow L (m + 1) w ↔ catW L (Pow L m) w := Iff.rfl
theorem pow_add {L : List UInt8 → Prop} : ∀ (m k : Nat) (w : List UInt8), Pow L (m + k) w ↔ catW (Pow L m) (Pow L k) w
  | 0, k, w => by rw [Nat.zero_add]; exact (nil_catW w).symm
  | m + 1, k, w => by
    rw [show m + 1 + k = (m + k) + 1 by omega, pow_succ, catW_congr (fun _ => Iff.rfl) (pow_add m k), ← catW_assoc]
    exact Iff.rfl
variable {bo : List Nat → List Nat → List Nat} (hbo : ∀ a b x, x ∈ bo a b ↔ x ∈ a ∨ x ∈ b) {has : S4 → UInt8 → Bool}

def copies (L : List UInt8 → Prop) (lo hi : Int) (n : Nat) : Nat → Nat → List UInt8 → Prop
  | 0, _ => fun w => w = []
  | k + 1, i => catW (optW (lo ≤ (i : Int)) (if hi < 0 ∧ i + 1 = n then plusW L else L)) (copies L lo hi n k (i + 1))

include hbo in
theorem rep_frag {L : List UInt8 → Prop} {g : Au0 → Au0 × Part} (hg : ∀ A : Au0, A.fol.length = A.sets.length → Frag has A (g A).1 (g A).2 L) (lo hi : Int) (n : Nat) : ∀ (k i : Nat) (A0 A : Au0) (out : Part) (M : List UInt8 → Prop), Frag has A0 A out M →
    Frag has A0 (repP bo g lo hi n k i A out).1 (repP bo g lo hi n k i A out).2 (catW M (copies L lo hi n k i))
  | 0, i, A0, A, out, M, f => f.congr fun w => (catW_nil w).symm
  | k + 1, i, A0, A, out, M, f => by
    have h1 := hg A f.wf
    have h2 : Frag has A (if hi < 0 ∧ i + 1 = n then loopP bo (g A).1 (g A).2 else (g A).1) (g A).2 (if hi < 0 ∧ i + 1 = n then plusW L else L) := by
      by_cases hc : hi < 0 ∧ i + 1 = n
      · rw [if_pos hc, if_pos hc]; exact h1.loop hbo
      · rw [if_neg hc, if_neg hc]; exact h1
    have h3 := h2.opt (decide (lo ≤ (i : Int)))
    have h4 := f.cat hbo h3
    have h5 := rep_frag hg lo hi n k (i + 1) A0 _ _ _ h4
    refine h5.congr fun w => ?_
    rw [catW_assoc]
    refine catW_congr (fun _ => Iff.rfl) (fun w => catW_congr (fun w => ?_) (fun _ => Iff.rfl) w) w
    unfold optW
    simp

theorem copies_fin {L : List UInt8 → Prop} {lo hi : Int} {n : Nat} (h : 0 ≤ hi) : ∀ (k i : Nat) (w : List UInt8), copies L lo hi n k i w ↔ ∃ m, m ≤ k ∧ min k (lo - i).toNat ≤ m ∧ Pow L m w
  | 0, i, w => by
    constructor
    · intro hw; exact ⟨0, Nat.le_refl _, by simp, hw⟩
    · rintro ⟨m, h1, _, h2⟩
      have : m = 0 := by omega
      rw [this] at h2; exact h2
  | k + 1, i, w => by
    have hc : ¬ (hi < 0 ∧ i + 1 = n) := fun h' => by omega
    have ih := copies_fin (L := L) (lo := lo) (hi := hi) (n := n) h k (i + 1)
    show catW (optW (lo ≤ (i : Int)) (if hi < 0 ∧ i + 1 = n then plusW L else L)) (copies L lo hi n k (i + 1)) w ↔ _
    rw [if_neg hc]
    constructor
    · rintro ⟨w1, w2, e, h1, h2⟩
      obtain ⟨m, m1, m2, m3⟩ := (ih w2).1 h2
      rcases h1 with h1 | ⟨rfl, h1⟩
      · exact ⟨m + 1, by omega, by omega, w1, w2, e, h1, m3⟩
      · rw [List.nil_append] at e
        subst e
        exact ⟨m, by omega, by omega, m3⟩
    · rintro ⟨m, m1, m2, m3⟩
      by_cases hlo : lo ≤ (i : Int)
      · cases m with
        | zero => exact ⟨[], w, rfl, .inr ⟨rfl, hlo⟩, (ih w).2 ⟨0, by omega, by omega, m3⟩⟩
        | succ m =>
          obtain ⟨w1, w2, e, h1, h2⟩ := m3
          exact ⟨w1, w2, e, .inl h1, (ih w2).2 ⟨m, by omega, by omega, h2⟩⟩
      · cases m with
        | zero => omega
        | succ m =>
          obtain ⟨w1, w2, e, h1, h2⟩ := m3
          exact ⟨w1, w2, e, .inl h1, (ih w2).2 ⟨m, by omega, by omega, h2⟩⟩

theorem copies_inf {L : List UInt8 → Prop} {lo hi : Int} {n : Nat} (h : hi < 0) (hlo : 0 ≤ lo) (hn : n = (max lo 1).toNat) : ∀ (k i : Nat) (w : List UInt8), k ≠ 0 → i + k = n → (copies L lo hi n k i w ↔ ∃ m : Nat, lo - i ≤ m ∧ Pow L m w)
  | 0, _, _, h0, _ => absurd rfl h0
  | 1, i, w, _, hi1 => by
    show catW (optW (lo ≤ (i : Int)) (if hi < 0 ∧ i + 1 = n then plusW L else L)) (fun w => w = []) w ↔ _
    rw [if_pos ⟨h, hi1⟩, catW_nil]
    constructor
    · rintro (⟨m, h1⟩ | ⟨h1, h2⟩)
      · exact ⟨m + 1, by omega, h1⟩
      · exact ⟨0, by omega, h1⟩
    · rintro ⟨m, h1, h2⟩
      cases m with
      | zero => exact .inr ⟨h2, by omega⟩
      | succ m => exact .inl ⟨m, h2⟩
  | k + 2, i, w, _, hik => by
    have hc : ¬ (hi < 0 ∧ i + 1 = n) := fun h' => by omega
    have ih := copies_inf (L := L) h hlo hn (k + 1) (i + 1)
    show catW (optW (lo ≤ (i : Int)) (if hi < 0 ∧ i + 1 = n then plusW L else L)) (copies L lo hi n (k + 1) (i + 1)) w ↔ _
    rw [if_neg hc]
    constructor
    · rintro ⟨w1, w2, e, h1, h2⟩
      obtain ⟨m, m1, m2⟩ := (ih w2 (by omega) (by omega)).1 h2
      rcases h1 with h1 | ⟨_, h1⟩
      · exact ⟨m + 1, by omega, w1, w2, e, h1, m2⟩
      · omega
    · rintro ⟨m, m1, m2⟩
      cases m with
      | zero => omega
      | succ m =>
        obtain ⟨w1, w2, e, h1, h2⟩ := m2
        exact ⟨w1, w2, e, .inl h1, (ih w2 (by omega) (by omega)).2 ⟨m, by omega, h2⟩⟩

mutual
theorem part_frag (hbo : ∀ a b x, x ∈ bo a b ↔ x ∈ a ∨ x ∈ b) : ∀ (r : Re), okRe r → ∀ A : Au0, A.fol.length = A.sets.length → Frag has A (partF bo r A).1 (partF bo r A).2 (ReL has r)
  | .mk kind set kids lo hi n, hok, A, hw => by
    obtain ⟨k2, k3, k6, hk⟩ := hok
    unfold partF ReL
    by_cases c1 : kind = 1
    · subst c1
      simp only [if_true, show ¬ ((1 : Int) = 0) by decide, if_false]
      refine ⟨by simp [hw], by simp, fun x hx => by rw [List.getElem?_append_left hx], fun x hx y => ?_, fun x hx => by simp at hx; subst hx; simp, fun x hx => by simp at hx; subst hx; simp, fun x h1 h2 y hy => ?_, fun w => ?_⟩
      · show y ∈ (A.fol ++ [[]]).getD x [] ↔ _
        rw [List.getD_eq_getElem?_getD, List.getElem?_append_left (by omega), ← List.getD_eq_getElem?_getD]
      · have hx : x = A.sets.length := by simp at h2; omega
        subst hx
        have hy : y ∈ (A.fol ++ [[]]).getD A.sets.length [] := hy
        rw [List.getD_eq_getElem?_getD, ← hw, List.getElem?_append_right (Nat.le_refl _)] at hy
        simp at hy
      · have hh : ∀ c, hasA has ⟨A.sets ++ [set], A.fol ++ [[]]⟩ A.sets.length c = has set c := fun c => by simp [hasA]
        have hf : ∀ y, ¬ folA ⟨A.sets ++ [set], A.fol ++ [[]]⟩ A.sets.length y := fun y hy => by
          have hy : y ∈ (A.fol ++ [[]]).getD A.sets.length [] := hy
          rw [List.getD_eq_getElem?_getD, ← hw, List.getElem?_append_right (Nat.le_refl _)] at hy
          simp at hy
        constructor
        · rintro (⟨_, h⟩ | ⟨x, h1, h2⟩)
          · cases h
          · simp at h1
            subst h1
            cases w with
            | nil => exact h2.elim
            | cons c w =>
              obtain ⟨h3, ⟨h4, _⟩ | ⟨y, h4, _⟩⟩ := h2
              · exact ⟨c, by rw [h4], by rw [← hh c]; exact h3⟩
              · exact absurd h4 (hf y)
        · rintro ⟨c, rfl, h⟩
          exact .inr ⟨A.sets.length, by simp, by rw [hh]; exact h, .inl ⟨rfl, by simp⟩⟩
    · rw [if_neg c1]
      by_cases c5 : kind = 5
      · subst c5
        simp only [if_true, show ¬ ((5 : Int) = 0) by decide, show ¬ ((5 : Int) = 1) by decide, show ¬ ((5 : Int) = 4 ∨ (5 : Int) = 7) by decide, if_false]
        exact (alt_frag hbo kids hk A A ⟨[], [], false⟩ _ (Frag.nil A hw false)).congr fun w => by simp
      · rw [if_neg c5]
        by_cases c4 : kind = 4 ∨ kind = 7
        · have hc0 : ¬ kind = 0 := by omega
          simp only [if_pos c4, if_neg hc0, if_neg c1]
          exact (cat_frag hbo kids hk A A ⟨[], [], true⟩ _ (Frag.nil A hw true)).congr fun w => by
            rw [catW_congr (L' := fun v => v = []) (fun v => by simp) (fun _ => Iff.rfl)]
            exact nil_catW w
        · rw [if_neg c4]
          by_cases c6 : kind = 6
          · subst c6
            simp only [if_true, show ¬ ((6 : Int) = 0) by decide, show ¬ ((6 : Int) = 1) by decide, show ¬ ((6 : Int) = 4 ∨ (6 : Int) = 7) by decide, show ¬ ((6 : Int) = 5) by decide, if_false]
            obtain ⟨hlo, hhi, hne⟩ := k6 rfl
            cases kids with
            | nil =>
              exact absurd rfl hne
            | cons r l =>
              have hr := part_frag hbo r hk.1
              have h1 := rep_frag hbo (has := has) (L := ReL has r) (g := partF bo r) hr lo hi (timesF lo hi) (timesF lo hi) 0 A A ⟨[], [], true⟩ _ (Frag.nil A hw true)
              refine h1.congr fun w => ?_
              rw [catW_congr (L' := fun v => v = []) (fun v => by simp) (fun _ => Iff.rfl), nil_catW]
              show _ ↔ ∃ m : Nat, lo ≤ (m : Int) ∧ (hi < 0 ∨ (m : Int) ≤ hi) ∧ Pow (ReL has r) m w
              by_cases hneg : hi < 0
              · have ht : timesF lo hi = (max lo 1).toNat := by unfold timesF; rw [if_neg (by omega)]
                rw [copies_inf hneg hlo ht _ 0 w (by omega) (by omega)]
                constructor
                · rintro ⟨m, h1, h2⟩; exact ⟨m, by omega, .inl hneg, h2⟩
                · rintro ⟨m, h1, _, h2⟩; exact ⟨m, by omega, h2⟩
              · have ht : timesF lo hi = hi.toNat := by unfold timesF; rw [if_pos (by omega)]
                rw [copies_fin (by omega), ht]
                constructor
                · rintro ⟨m, h1, h2, h3⟩; exact ⟨m, by omega, .inr (by omega), h3⟩
                · rintro ⟨m, h1, h2, h3⟩; exact ⟨m, by omega, by omega, h3⟩
          · rw [if_neg c6]
            refine (Frag.nil A hw true).congr fun w => ?_
            by_cases c0 : kind = 0
            · simp [c0]
            · simp [c0, c1, c4, c5, c6]
theorem alt_frag (hbo : ∀ a b x, x ∈ bo a b ↔ x ∈ a ∨ x ∈ b) : ∀ (l : List Re), okRe.okRes l → ∀ (A0 A : Au0) (out : Part) (M : List UInt8 → Prop), Frag has A0 A out M → Frag has A0 (partF.altF bo l A out).1 (partF.altF bo l A out).2 (fun w => M w ∨ ReL.altL has l w)
  | [], _, A0, A, out, M, f => f.congr fun w => by simp [ReL.altL]
  | r :: l, hok, A0, A, out, M, f => by
    have h1 := part_frag hbo r hok.1 A f.wf
    have h2 := f.alt hbo h1
    exact (alt_frag hbo l hok.2 A0 _ _ _ h2).congr fun w => by simp only [ReL.altL]; exact or_assoc
theorem cat_frag (hbo : ∀ a b x, x ∈ bo a b ↔ x ∈ a ∨ x ∈ b) : ∀ (l : List Re), okRe.okRes l → ∀ (A0 A : Au0) (out : Part) (M : List UInt8 → Prop), Frag has A0 A out M → Frag has A0 (partF.catF bo l A out).1 (partF.catF bo l A out).2 (catW M (ReL.catL has l))
  | [], _, A0, A, out, M, f => f.congr fun w => (catW_nil w).symm
  | r :: l, hok, A0, A, out, M, f => by
    have h1 := part_frag hbo r hok.1 A f.wf
    have h2 := f.cat hbo h1
    exact (cat_frag hbo l hok.2 A0 _ _ _ h2).congr fun w => catW_assoc w
end
end Go.Y

/- What a reading comes to is well formed; how many spots it has. Plain. -/
namespace Go.Y
open Gl

def wfRe (B : Nat) : Re → Prop
  | .mk kind _ kids lo hi _ => (kind = 6 → 0 ≤ lo ∧ lo ≤ 8 ∧ (hi = -1 ∨ (lo ≤ hi ∧ hi ≤ 8)) ∧ kids.length = 1) ∧ (kind ≠ 4 → kind ≠ 5 → kind ≠ 6 → kind ≠ 7 → kids = []) ∧ kids.length ≤ B ∧ wfRes B kids
where
  wfRes (B : Nat) : List Re → Prop
    | [] => True
    | r :: l => wfRe B r ∧ wfRes B l
def anchB : Re → Bool
  | .mk kind _ kids _ _ _ => kind == 2 || kind == 3 || anchs kids
where
  anchs : List Re → Bool
    | [] => false
    | r :: l => anchB r || anchs l

theorem wfs_append {B : Nat} : ∀ {l m : List Re}, wfRe.wfRes B l → wfRe.wfRes B m → wfRe.wfRes B (l ++ m)
  | [], _, _, h => h
  | r :: l, m, h, g => by
    rw [List.cons_append, wfRe.wfRes]
    rw [wfRe.wfRes] at h
    exact ⟨h.1, wfs_append h.2 g⟩
theorem wf_sev {B : Nat} {k : Int} (hk : k = 4 ∨ k = 5) : ∀ {l : List Re}, l.length ≤ B → wfRe.wfRes B l → wfRe B (sevS k l)
  | [], _, _ => by rw [sevS, wfRe]; exact ⟨fun h => absurd h (by decide), fun _ _ _ _ => rfl, Nat.zero_le _, by rw [wfRe.wfRes]; trivial⟩
  | [r], _, h => by rw [wfRe.wfRes] at h; exact h.1
  | a :: b :: l, hl, h => by
    rw [sevS, wfRe]
    · exact ⟨fun h => (by omega), fun h1 h2 _ _ => (by omega), hl, h⟩
    all_goals simp
theorem wf_leaf {B : Nat} {k : Int} {s : S4} (hk : k = 1 ∨ k = 2 ∨ k = 3) : wfRe B (.mk k s [] 0 0 0) := by
  rw [wfRe]; exact ⟨fun h => (by omega), fun _ _ _ _ => rfl, Nat.zero_le _, by rw [wfRe.wfRes]; trivial⟩
theorem wf_one {B : Nat} {k : Int} {s : S4} {r : Re} {lo hi n : Int} (hB : 1 ≤ B) (hk : k = 7 ∨ (k = 6 ∧ 0 ≤ lo ∧ lo ≤ 8 ∧ (hi = -1 ∨ (lo ≤ hi ∧ hi ≤ 8)))) (h : wfRe B r) : wfRe B (.mk k s [r] lo hi n) := by
  rw [wfRe]
  refine ⟨fun e => ?_, fun h1 h2 h3 h4 => (by omega), by simpa using hB, by rw [wfRe.wfRes, wfRe.wfRes]; exact ⟨h, trivial⟩⟩
  rcases hk with hk | hk
  · omega
  · exact ⟨hk.2.1, hk.2.2.1, hk.2.2.2, rfl⟩

theorem digit_rng {s : List UInt8} {i j : Nat} {l x : Int} (h : digitS s i l = .ok (x, j)) : 0 ≤ x ∧ x ≤ 8 ∧ l ≤ x := by
  unfold digitS at h
  split at h
  · rename_i c _
    split at h
    · cases h; omega
    · cases h
  · cases h
theorem braces_rng {s : List UInt8} {i j : Nat} {lo hi : Int} (h : bracesS s i = .ok (lo, hi, j)) : 0 ≤ lo ∧ lo ≤ 8 ∧ (hi = -1 ∨ (lo ≤ hi ∧ hi ≤ 8)) := by
  unfold bracesS at h
  split at h
  · cases h
  · rename_i lo2 k h1
    have g1 := digit_rng h1
    split at h
    · split at h
      · cases h; omega
      · split at h
        · cases h
        · rename_i hi2 k2 h2
          have g2 := digit_rng h2
          split at h
          · cases h; omega
          · cases h
    · split at h
      · cases h; omega
      · cases h

theorem wf_all (s : List UInt8) (B : Nat) (hB : s.length + 1 ≤ B) : ∀ n,
    (∀ {d i g r j g'}, altE n d s i g = .ok (r, j, g') → i ≤ s.length → g ≤ i → wfRe B r) ∧
    (∀ {d i g l r j g'}, altsE n d s i g l = .ok (r, j, g') → i ≤ s.length → g ≤ i → l.length ≤ i + 1 → wfRe.wfRes B l → wfRe B r) ∧
    (∀ {d i g l r j g'}, rowE n d s i g l = .ok (r, j, g') → i ≤ s.length → g ≤ i → l.length ≤ i → wfRe.wfRes B l → wfRe B r) ∧
    (∀ {d i g r j g'}, pieceE n d s i g = .ok (r, j, g') → i ≤ s.length → g ≤ i → wfRe B r) ∧
    (∀ {d i g r j g'}, atomE n d s i g = .ok (r, j, g') → i ≤ s.length → g ≤ i → wfRe B r)
  | 0 => ⟨fun h => by simp [altE] at h, fun h => by simp [altsE] at h, fun h => by simp [rowE] at h, fun h => by simp [pieceE] at h, fun h => by simp [atomE] at h⟩
  | n + 1 => by
    obtain ⟨w1, w2, w3, w4, w5⟩ := wf_all s B hB n
    obtain ⟨p1, p2, p3, p4, p5⟩ := prog_all s n
    refine ⟨fun {d i g r j g'} h hi hg => ?_, fun {d i g l r j g'} h hi hg hl hw => ?_, fun {d i g l r j g'} h hi hg hl hw => ?_, fun {d i g r j g'} h hi hg => ?_, fun {d i g r j g'} h hi hg => ?_⟩
    · rw [altE] at h
      split at h
      · cases h
      · rename_i r1 i1 g1 h1
        have a1 := p3 h1 hi hg
        exact w2 h a1.2.1 a1.2.2 (by simp) (by rw [wfRe.wfRes, wfRe.wfRes]; exact ⟨w3 h1 hi hg (Nat.zero_le _) (by rw [wfRe.wfRes]; trivial), trivial⟩)
    · rw [altsE] at h
      split at h
      · rename_i h0
        have hlt := (List.getElem?_eq_some_iff.1 h0).1
        split at h
        · cases h
        · rename_i r1 i1 g1 h1
          have a1 := p3 h1 (by omega) (by omega)
          exact w2 h a1.2.1 a1.2.2 (by simp; omega) (wfs_append hw (by rw [wfRe.wfRes, wfRe.wfRes]; exact ⟨w3 h1 (by omega) (by omega) (Nat.zero_le _) (by rw [wfRe.wfRes]; trivial), trivial⟩))
      · cases h; exact wf_sev (.inr rfl) (by omega) hw
    · rw [rowE] at h
      split at h
      · cases h; exact wf_sev (.inl rfl) (by omega) hw
      · split at h
        · cases h; exact wf_sev (.inl rfl) (by omega) hw
        · split at h
          · cases h
          · rename_i r1 i1 g1 h1
            have a1 := p4 h1 hi hg
            exact w3 h a1.2.1 a1.2.2 (by simp; omega) (wfs_append hw (by rw [wfRe.wfRes, wfRe.wfRes]; exact ⟨w4 h1 hi hg, trivial⟩))
    · rw [pieceE] at h
      split at h
      · cases h
      · rename_i r1 i1 g1 h1
        have a1 := w5 h1 hi hg
        split at h
        · cases h; exact a1
        · split at h
          · split at h
            · cases h
            · split at h
              · cases h; exact wf_one (by omega) (.inr ⟨rfl, by omega⟩) a1
              · split at h
                · cases h; exact wf_one (by omega) (.inr ⟨rfl, by omega⟩) a1
                · split at h
                  · cases h; exact wf_one (by omega) (.inr ⟨rfl, by omega⟩) a1
                  · split at h
                    · cases h
                    · rename_i lo hi2 j2 h2
                      cases h; exact wf_one (by omega) (.inr ⟨rfl, braces_rng h2⟩) a1
          · cases h; exact a1
    · rw [atomE] at h
      split at h
      · cases h
      · rename_i c hc
        have hl := (List.getElem?_eq_some_iff.1 hc).1
        split at h
        · cases h
        · split at h
          · split at h
            · cases h
            · split at h
              · cases h
              · rename_i r1 i1 g1 h1
                split at h
                · cases h; exact wf_one (by omega) (.inl rfl) (w1 h1 (by omega) (by omega))
                · cases h
          · split at h
            · split at h
              · cases h
              · cases h; exact wf_leaf (.inl rfl)
            · split at h
              · cases h; exact wf_leaf (.inl rfl)
              · split at h
                · cases h; exact wf_leaf (.inr (.inl rfl))
                · split at h
                  · cases h; exact wf_leaf (.inr (.inr rfl))
                  · split at h
                    · split at h
                      · cases h
                      · cases h; exact wf_leaf (.inl rfl)
                    · cases h; exact wf_leaf (.inl rfl)
theorem parse_wf {s : List UInt8} {r : Re} (h : parseE s = .ok r) : wfRe 201 r := by
  unfold parseE at h
  split at h
  · cases h
  · split at h
    · cases h
    · rename_i r1 i1 g1 h1
      split at h
      · cases h
      · cases h
        exact (wf_all s 201 (by omega) _).1 h1 (Nat.zero_le _) (Nat.zero_le _)

mutual
theorem ok_of_wf {B : Nat} : ∀ (r : Re), wfRe B r → anchB r = false → okRe r
  | .mk kind set kids lo hi n, h, g => by
    rw [wfRe] at h
    rw [anchB] at g
    simp only [Bool.or_eq_false_iff, beq_eq_false_iff_ne] at g
    obtain ⟨⟨g1, g2⟩, g3⟩ := g
    rw [okRe]
    refine ⟨g1, g2, fun e => ?_, oks_of_wf kids h.2.2.2 g3⟩
    obtain ⟨h1, h2, h3, h4⟩ := h.1 e
    exact ⟨h1, by omega, fun e => by rw [e] at h4; simp at h4⟩
theorem oks_of_wf {B : Nat} : ∀ (l : List Re), wfRe.wfRes B l → anchB.anchs l = false → okRe.okRes l
  | [], _, _ => by rw [okRe.okRes]; trivial
  | r :: l, h, g => by
    rw [wfRe.wfRes] at h
    rw [anchB.anchs, Bool.or_eq_false_iff] at g
    rw [okRe.okRes]
    exact ⟨ok_of_wf r h.1 g.1, oks_of_wf l h.2 g.2⟩
end

def cntRe : Re → Nat
  | .mk kind _ kids lo hi _ => if kind = 1 then 1 else if kind = 6 then timesF lo hi * cnts kids else cnts kids
where
  cnts : List Re → Nat
    | [] => 0
    | r :: l => cntRe r + cnts l
def spotN : Re → Nat
  | .mk kind _ kids lo hi _ => min (if kind = 6 then spots kids (if kind = 1 then 1 else 0) * timesF lo hi else spots kids (if kind = 1 then 1 else 0)) 301
where
  spots : List Re → Nat → Nat
    | [], n => n
    | r :: l, n => spots l (min (n + spotN r) 301)
theorem times_le {lo hi : Int} (h : lo ≤ 8) (g : hi ≤ 8) : timesF lo hi ≤ 8 := by
  unfold timesF; split <;> omega
mutual
theorem spot_cnt {B : Nat} : ∀ (r : Re), wfRe B r → (spotN r ≤ 301 ∧ (cntRe r ≤ 300 → spotN r = cntRe r) ∧ (300 < cntRe r → spotN r = 301))
  | .mk kind set kids lo hi n, h => by
    rw [wfRe] at h
    obtain ⟨h1, h2, _, h4⟩ := h
    rw [spotN, cntRe]
    by_cases e1 : kind = 1
    · have : kids = [] := h2 (by omega) (by omega) (by omega) (by omega)
      subst this
      rw [if_neg (by omega), if_pos e1, if_pos e1, spotN.spots]
      omega
    · rw [if_neg e1, if_neg e1]
      obtain ⟨a1, a2, a3⟩ := spots_cnt kids h4 0 (by omega)
      rw [Nat.zero_add] at a2 a3
      by_cases e6 : kind = 6
      · rw [if_pos e6, if_pos e6]
        have ht : timesF lo hi ≤ 8 := times_le (by have := h1 e6; omega) (by have := h1 e6; omega)
        generalize timesF lo hi = t at ht
        generalize spotN.spots kids 0 = x at a1 a2 a3
        generalize cntRe.cnts kids = y at a2 a3
        refine ⟨by omega, fun hy => ?_, fun hy => ?_⟩
        · by_cases ht0 : t = 0
          · subst ht0; simp
          · have hle : y ≤ t * y := Nat.le_mul_of_pos_left y (by omega)
            have := a2 (by omega)
            subst this
            rw [Nat.mul_comm]; omega
        · by_cases hy3 : y ≤ 300
          · have := a2 hy3
            subst this
            rw [Nat.mul_comm]; omega
          · have := a3 (by omega)
            subst this
            have ht0 : t ≠ 0 := fun e => by subst e; simp at hy
            have : 301 ≤ 301 * t := Nat.le_mul_of_pos_right 301 (by omega)
            omega
      · rw [if_neg e6, if_neg e6]
        refine ⟨by omega, fun hy => ?_, fun hy => ?_⟩
        · rw [a2 hy]; omega
        · rw [a3 hy]; rfl
theorem spots_cnt {B : Nat} : ∀ (l : List Re), wfRe.wfRes B l → ∀ n ≤ 301, (spotN.spots l n ≤ 301 ∧ (n + cntRe.cnts l ≤ 300 → spotN.spots l n = n + cntRe.cnts l) ∧ (300 < n + cntRe.cnts l → spotN.spots l n = 301))
  | [], _, n, hn => by rw [spotN.spots, cntRe.cnts]; omega
  | r :: l, h, n, hn => by
    rw [wfRe.wfRes] at h
    rw [spotN.spots, cntRe.cnts]
    obtain ⟨b1, b2, b3⟩ := spot_cnt r h.1
    obtain ⟨a1, a2, a3⟩ := spots_cnt l h.2 (min (n + spotN r) 301) (by omega)
    refine ⟨a1, fun hc => ?_, fun hc => ?_⟩
    · have := b2 (by omega)
      rw [a2 (by omega)]; omega
    · by_cases hr : cntRe r ≤ 300
      · have := b2 hr
        by_cases h3 : n + cntRe r ≤ 301
        · rw [a3 (by omega)]
        · rw [a3 (by omega)]
      · have := b3 (by omega)
        rw [a3 (by omega)]
end
theorem spots_few {B : Nat} {r : Re} (h : wfRe B r) (hs : spotN r ≤ 300) : cntRe r ≤ 300 := by
  obtain ⟨_, _, h3⟩ := spot_cnt r h
  by_cases hc : cntRe r ≤ 300
  · exact hc
  · rw [h3 (by omega)] at hs; omega
end Go.Y
