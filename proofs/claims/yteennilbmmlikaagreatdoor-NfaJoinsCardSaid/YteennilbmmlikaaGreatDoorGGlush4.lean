/- Parts put together: what they run over. Plain. -/
import Derived.Test.YteennilbmmlikaaGreatDoorGReD
namespace Go.Y
open Gl

variable {bo : List Nat → List Nat → List Nat} (hbo : ∀ a b x, x ∈ bo a b ↔ x ∈ a ∨ x ∈ b) {has : S4 → UInt8 → Bool}

def hasA (has : S4 → UInt8 → Bool) (A : Au0) (x : Nat) (c : UInt8) : Bool := match A.sets[x]? with | some s => has s c | none => false
abbrev folA (A : Au0) (x y : Nat) : Prop := y ∈ A.fol.getD x []
abbrev accA (has : S4 → UInt8 → Bool) (A : Au0) (p : Part) (w : List UInt8) : Prop := Acc (hasA has A) (folA A) (· ∈ p.first) (· ∈ p.last) (p.empty = true) w

structure Frag (has : S4 → UInt8 → Bool) (A A' : Au0) (p : Part) (L : List UInt8 → Prop) : Prop where
  wf : A'.fol.length = A'.sets.length
  le : A.sets.length ≤ A'.sets.length
  os : ∀ x, x < A.sets.length → A'.sets[x]? = A.sets[x]?
  of : ∀ x, x < A.sets.length → ∀ y, folA A' x y ↔ folA A x y
  fi : ∀ x ∈ p.first, A.sets.length ≤ x ∧ x < A'.sets.length
  la : ∀ x ∈ p.last, A.sets.length ≤ x ∧ x < A'.sets.length
  cl : ∀ x, A.sets.length ≤ x → x < A'.sets.length → ∀ y, folA A' x y → A.sets.length ≤ y ∧ y < A'.sets.length
  ac : ∀ w, accA has A' p w ↔ L w

include hbo in
theorem linkF_spec : ∀ (src : List Nat) (fol : List (List Nat)) (to : List Nat), (∀ x ∈ src, x < fol.length) → (linkF bo fol src to).length = fol.length ∧ ∀ x y, y ∈ (linkF bo fol src to).getD x [] ↔ y ∈ fol.getD x [] ∨ (x ∈ src ∧ y ∈ to)
  | [], fol, to, _ => ⟨rfl, fun x y => by simp [linkF]⟩
  | p :: src, fol, to, h => by
    have hp := h p (by simp)
    obtain ⟨h1, h2⟩ := linkF_spec src (fol.set p (bo (fol.getD p []) to)) to (fun x hx => by rw [List.length_set]; exact h x (by simp [hx]))
    refine ⟨by simp only [linkF, List.foldl_cons] at h1 ⊢; rw [h1, List.length_set], fun x y => ?_⟩
    have e : linkF bo fol (p :: src) to = linkF bo (fol.set p (bo (fol.getD p []) to)) src to := rfl
    rw [e, h2]
    by_cases hx : p = x
    · subst hx
      have : (fol.set p (bo (fol.getD p []) to)).getD p [] = bo (fol.getD p []) to := by simp [List.getD_eq_getElem?_getD, hp]
      rw [this, hbo]
      simp only [List.mem_cons, true_or, true_and]
      constructor
      · rintro ((h3 | h3) | h3)
        · exact .inl h3
        · exact .inr h3
        · exact .inr h3.2
      · rintro (h3 | h3)
        · exact .inl (.inl h3)
        · exact .inl (.inr h3)
    · have : (fol.set p (bo (fol.getD p []) to)).getD x [] = fol.getD x [] := by
        simp only [List.getD_eq_getElem?_getD, List.getElem?_set, if_neg hx]
      rw [this]
      have hx' : ¬ x = p := fun e => hx e.symm
      simp [hx']

theorem Frag.nil (A : Au0) (hw : A.fol.length = A.sets.length) (e : Bool) : Frag has A A ⟨[], [], e⟩ (fun w => w = [] ∧ e = true) :=
  ⟨hw, Nat.le_refl _, fun _ _ => rfl, fun _ _ _ => Iff.rfl, fun x h => (by cases h), fun x h => (by cases h), fun x h1 h2 => by omega, fun w => by simp [accA, Gl.Acc]⟩

theorem Frag.congr {A A' : Au0} {p : Part} {L L' : List UInt8 → Prop} (f : Frag has A A' p L) (h : ∀ w, L w ↔ L' w) : Frag has A A' p L' :=
  ⟨f.wf, f.le, f.os, f.of, f.fi, f.la, f.cl, fun w => (f.ac w).trans (h w)⟩

def catW (L M : List UInt8 → Prop) (w : List UInt8) : Prop := ∃ w1 w2, w = w1 ++ w2 ∧ L w1 ∧ M w2

theorem acc_keep {A A1 A2 : Au0} {p : Part} {L : List UInt8 → Prop} (f : Frag has A A1 p L) (hs : ∀ x, x < A1.sets.length → A2.sets[x]? = A1.sets[x]?) (hf : ∀ x, A.sets.length ≤ x → x < A1.sets.length → ∀ y, folA A2 x y ↔ folA A1 x y) (w : List UInt8) : accA has A2 p w ↔ L w := by
  rw [← f.ac w]
  have key : ∀ x, (A.sets.length ≤ x ∧ x < A1.sets.length) → (From (hasA has A2) (folA A2) (· ∈ p.last) x w ↔ From (hasA has A1) (folA A1) (· ∈ p.last) x w) := fun x hx =>
    From.congr (R := fun x => A.sets.length ≤ x ∧ x < A1.sets.length) (fun x hx => by funext c; simp only [hasA]; rw [hs x hx.2]) (fun x hx y => hf x hx.1 hx.2 y) (fun _ _ => Iff.rfl) (fun x hx y h => f.cl x hx.1 hx.2 y ((hf x hx.1 hx.2 y).1 h)) w x hx
  constructor
  · rintro (h | ⟨x, h1, h2⟩)
    · exact .inl h
    · exact .inr ⟨x, h1, (key x (f.fi x h1)).1 h2⟩
  · rintro (h | ⟨x, h1, h2⟩)
    · exact .inl h
    · exact .inr ⟨x, h1, (key x (f.fi x h1)).2 h2⟩

include hbo in
theorem Frag.cat {A A1 A2 : Au0} {a b : Part} {L M : List UInt8 → Prop} (f : Frag has A A1 a L) (g : Frag has A1 A2 b M) : Frag has A (catP bo A2 a b).1 (catP bo A2 a b).2 (catW L M) := by
  have hsrc : ∀ x ∈ a.last, x < A2.fol.length := fun x hx => by rw [g.wf]; have := (f.la x hx).2; have := g.le; omega
  obtain ⟨h1, h2⟩ := linkF_spec hbo a.last A2.fol b.first hsrc
  have hle := f.le
  have hle2 := g.le
  have hfi : ∀ x, x ∈ (catP bo A2 a b).2.first ↔ x ∈ a.first ∨ (a.empty = true ∧ x ∈ b.first) := fun x => by
    simp only [catP]
    cases a.empty <;> simp [hbo]
  have hla : ∀ x, x ∈ (catP bo A2 a b).2.last ↔ x ∈ b.last ∨ (b.empty = true ∧ x ∈ a.last) := fun x => by
    simp only [catP]
    cases b.empty <;> simp [hbo, or_comm]
  have hem : (catP bo A2 a b).2.empty = true ↔ a.empty = true ∧ b.empty = true := by simp [catP]
  have hfol : ∀ x y, folA (catP bo A2 a b).1 x y ↔ folA A2 x y ∨ (x ∈ a.last ∧ y ∈ b.first) := h2
  have hA : ∀ x, (A.sets.length ≤ x ∧ x < A1.sets.length) → ∀ y, folA (catP bo A2 a b).1 x y ↔ folA A1 x y ∨ (x ∈ a.last ∧ y ∈ b.first) := fun x hx y => by
    rw [hfol, g.of x hx.2 y]
  have hB : ∀ x, (A1.sets.length ≤ x ∧ x < A2.sets.length) → ∀ y, folA (catP bo A2 a b).1 x y ↔ folA A2 x y := fun x hx y => by
    rw [hfol]
    constructor
    · rintro (h | ⟨h, _⟩)
      · exact h
      · have := (f.la x h).2; omega
    · exact .inl
  have hlaA : ∀ x, (A.sets.length ≤ x ∧ x < A1.sets.length) → (x ∈ (catP bo A2 a b).2.last ↔ x ∈ a.last ∧ b.empty = true) := fun x hx => by
    rw [hla]
    constructor
    · rintro (h | ⟨h, h'⟩)
      · have := (g.la x h).1; omega
      · exact ⟨h', h⟩
    · rintro ⟨h, h'⟩; exact .inr ⟨h', h⟩
  have hlaB : ∀ x, (A1.sets.length ≤ x ∧ x < A2.sets.length) → (x ∈ (catP bo A2 a b).2.last ↔ x ∈ b.last) := fun x hx => by
    rw [hla]
    constructor
    · rintro (h | ⟨_, h'⟩)
      · exact h
      · have := (f.la x h').2; omega
    · exact .inl
  refine ⟨by simp only [catP]; rw [h1, g.wf], by simp only [catP]; omega, fun x hx => by simp only [catP]; rw [g.os x (by omega), f.os x hx], fun x hx y => ?_, fun x hx => ?_, fun x hx => ?_, fun x h3 h4 y hy => ?_, fun w => ?_⟩
  · rw [hfol, g.of x (by omega) y, f.of x hx y]
    constructor
    · rintro (h | ⟨h, _⟩)
      · exact h
      · have := (f.la x h).1; omega
    · exact .inl
  · simp only [catP] at hx ⊢
    rcases (hfi x).1 (by simpa only [catP] using hx) with h | ⟨_, h⟩
    · have := f.fi x h; omega
    · have := g.fi x h; omega
  · simp only [catP] at hx ⊢
    rcases (hla x).1 (by simpa only [catP] using hx) with h | ⟨_, h⟩
    · have := g.la x h; omega
    · have := f.la x h; omega
  · have h4 : x < A2.sets.length := h4
    show A.sets.length ≤ y ∧ y < A2.sets.length
    by_cases hx : x < A1.sets.length
    · rcases (hA x ⟨h3, hx⟩ y).1 hy with h | ⟨_, h⟩
      · have := f.cl x h3 hx y h; omega
      · have := g.fi y h; omega
    · have := g.cl x (by omega) h4 y ((hB x ⟨by omega, h4⟩ y).1 hy); omega
  · have hM : ∀ w, accA has (catP bo A2 a b).1 b w ↔ M w := fun w => acc_keep g (A2 := (catP bo A2 a b).1) (fun _ _ => rfl) (fun x h3 h4 y => hB x ⟨h3, h4⟩ y) w
    have hLf : ∀ x w, (A.sets.length ≤ x ∧ x < A1.sets.length) → (From (hasA has A1) (folA A1) (· ∈ a.last) x w ↔ From (hasA has (catP bo A2 a b).1) (folA A1) (· ∈ a.last) x w) := fun x w hx =>
      From.congr (R := fun x => A.sets.length ≤ x ∧ x < A1.sets.length) (fun x hx => by funext c; simp only [hasA, catP]; rw [g.os x hx.2]) (fun _ _ _ => Iff.rfl) (fun _ _ => Iff.rfl) (fun x hx y h => f.cl x hx.1 hx.2 y h) w x hx
    have hBf : ∀ x w, (A1.sets.length ≤ x ∧ x < A2.sets.length) → (From (hasA has (catP bo A2 a b).1) (folA (catP bo A2 a b).1) (· ∈ (catP bo A2 a b).2.last) x w ↔ From (hasA has (catP bo A2 a b).1) (folA A2) (· ∈ b.last) x w) := fun x w hx =>
      From.congr (R := fun x => A1.sets.length ≤ x ∧ x < A2.sets.length) (fun _ _ => rfl) hB hlaB (fun x hx y h => g.cl x hx.1 hx.2 y ((hB x hx y).1 h)) w x hx
    have hcat := from_cat (has := hasA has (catP bo A2 a b).1) (fa := folA A1) (fb := folA A2) (f := folA (catP bo A2 a b).1) (la := (· ∈ a.last)) (lb := (· ∈ b.last)) (l := (· ∈ (catP bo A2 a b).2.last)) (fst := (· ∈ b.first)) (RA := fun x => A.sets.length ≤ x ∧ x < A1.sets.length) (RB := fun x => A1.sets.length ≤ x ∧ x < A2.sets.length) (eb := b.empty = true)
      (fun x hx y h => f.cl x hx.1 hx.2 y h) (fun y h => g.fi y h) (fun x hx y h => g.cl x hx.1 hx.2 y h) hA hB hlaA hlaB
    have hMb : ∀ w, Acc (hasA has (catP bo A2 a b).1) (folA A2) (· ∈ b.first) (· ∈ b.last) (b.empty = true) w ↔ M w := fun w => g.ac w
    constructor
    · rintro (⟨h3, h4⟩ | ⟨x, h3, h4⟩)
      · obtain ⟨h5, h6⟩ := hem.1 h4
        exact ⟨[], [], by simp [h3], (f.ac []).1 (.inl ⟨rfl, h5⟩), (g.ac []).1 (.inl ⟨rfl, h6⟩)⟩
      · rcases (hfi x).1 h3 with h5 | ⟨h5, h6⟩
        · obtain ⟨w1, w2, e, g1, g2⟩ := (hcat w x (f.fi x h5)).1 h4
          exact ⟨w1, w2, e, (f.ac w1).1 (.inr ⟨x, h5, (hLf x w1 (f.fi x h5)).2 g1⟩), (hMb w2).1 g2⟩
        · exact ⟨[], w, rfl, (f.ac []).1 (.inl ⟨rfl, h5⟩), (hMb w).1 (.inr ⟨x, h6, (hBf x w (g.fi x h6)).1 h4⟩)⟩
    · rintro ⟨w1, w2, e, g1, g2⟩
      have g2' := (hMb w2).2 g2
      rcases (f.ac w1).2 g1 with ⟨h3, h4⟩ | ⟨x, h3, h4⟩
      · subst h3
        rw [List.nil_append] at e
        subst e
        rcases g2' with ⟨h5, h6⟩ | ⟨y, h5, h6⟩
        · exact .inl ⟨h5, hem.2 ⟨h4, h6⟩⟩
        · exact .inr ⟨y, (hfi y).2 (.inr ⟨h4, h5⟩), (hBf y w (g.fi y h5)).2 h6⟩
      · exact .inr ⟨x, (hfi x).2 (.inl h3), (hcat w x (f.fi x h3)).2 ⟨w1, w2, e, (hLf x w1 (f.fi x h3)).1 h4, g2'⟩⟩
end Go.Y

/- The automaton of an expression. Plain. -/
namespace Go.Y
open Gl

variable {bo : List Nat → List Nat → List Nat} (hbo : ∀ a b x, x ∈ bo a b ↔ x ∈ a ∨ x ∈ b) {has : S4 → UInt8 → Bool}

include hbo in
theorem Frag.alt {A A1 A2 : Au0} {a b : Part} {L M : List UInt8 → Prop} (f : Frag has A A1 a L) (g : Frag has A1 A2 b M) : Frag has A A2 ⟨bo a.first b.first, bo a.last b.last, a.empty || b.empty⟩ (fun w => L w ∨ M w) := by
  have hle := f.le
  have hle2 := g.le
  have hfol : ∀ x, A.sets.length ≤ x ∧ x < A1.sets.length → ∀ y, folA A2 x y ↔ folA A1 x y := fun x hx y => g.of x hx.2 y
  refine ⟨g.wf, by omega, fun x hx => by rw [g.os x (by omega), f.os x hx], fun x hx y => by rw [g.of x (by omega) y, f.of x hx y], fun x hx => ?_, fun x hx => ?_, fun x h3 h4 y hy => ?_, fun w => ?_⟩
  · rcases (hbo _ _ _).1 hx with h | h
    · have := f.fi x h; omega
    · have := g.fi x h; omega
  · rcases (hbo _ _ _).1 hx with h | h
    · have := f.la x h; omega
    · have := g.la x h; omega
  · by_cases hx : x < A1.sets.length
    · have := f.cl x h3 hx y ((hfol x ⟨h3, hx⟩ y).1 hy); omega
    · have := g.cl x (by omega) h4 y hy; omega
  · have ha : ∀ x, A.sets.length ≤ x ∧ x < A1.sets.length → (From (hasA has A2) (folA A2) (· ∈ bo a.last b.last) x w ↔ From (hasA has A1) (folA A1) (· ∈ a.last) x w) := fun x hx =>
      From.congr (R := fun x => A.sets.length ≤ x ∧ x < A1.sets.length) (fun x hx => by funext c; simp only [hasA]; rw [g.os x hx.2]) hfol (fun x hx => by
        rw [hbo]
        exact ⟨fun h => h.elim id fun h => by have := (g.la x h).1; omega, .inl⟩) (fun x hx y h => f.cl x hx.1 hx.2 y ((hfol x hx y).1 h)) w x hx
    have hb : ∀ x, A1.sets.length ≤ x ∧ x < A2.sets.length → (From (hasA has A2) (folA A2) (· ∈ bo a.last b.last) x w ↔ From (hasA has A2) (folA A2) (· ∈ b.last) x w) := fun x hx =>
      From.congr (R := fun x => A1.sets.length ≤ x ∧ x < A2.sets.length) (fun _ _ => rfl) (fun _ _ _ => Iff.rfl) (fun x hx => by
        rw [hbo]
        exact ⟨fun h => h.elim (fun h => by have := (f.la x h).2; omega) id, .inr⟩) (fun x hx y h => g.cl x hx.1 hx.2 y h) w x hx
    rw [← f.ac w, ← g.ac w]
    constructor
    · rintro (⟨h1, h2⟩ | ⟨x, h1, h2⟩)
      · simp only [Bool.or_eq_true] at h2
        exact h2.elim (fun h => .inl (.inl ⟨h1, h⟩)) (fun h => .inr (.inl ⟨h1, h⟩))
      · rcases (hbo _ _ _).1 h1 with h | h
        · exact .inl (.inr ⟨x, h, (ha x (f.fi x h)).1 h2⟩)
        · exact .inr (.inr ⟨x, h, (hb x (g.fi x h)).1 h2⟩)
    · rintro (h | h)
      · rcases h with ⟨h1, h2⟩ | ⟨x, h1, h2⟩
        · exact .inl ⟨h1, by simp [h2]⟩
        · exact .inr ⟨x, (hbo _ _ _).2 (.inl h1), (ha x (f.fi x h1)).2 h2⟩
      · rcases h with ⟨h1, h2⟩ | ⟨x, h1, h2⟩
        · exact .inl ⟨h1, by simp [h2]⟩
        · exact .inr ⟨x, (hbo _ _ _).2 (.inr h1), (hb x (g.fi x h1)).2 h2⟩

def plusW (L : List UInt8 → Prop) (w : List UInt8) : Prop := ∃ m, Pow L (m + 1) w
def optW (e : Prop) (L : List UInt8 → Prop) (w : List UInt8) : Prop := L w ∨ (w = [] ∧ e)

theorem Frag.opt {A A1 : Au0} {a : Part} {L : List UInt8 → Prop} (f : Frag has A A1 a L) (e : Bool) : Frag has A A1 ⟨a.first, a.last, a.empty || e⟩ (optW (e = true) L) :=
  ⟨f.wf, f.le, f.os, f.of, f.fi, f.la, f.cl, fun w => by
    unfold optW
    rw [← f.ac w]
    constructor
    · rintro (⟨h1, h2⟩ | h)
      · simp only [Bool.or_eq_true] at h2
        exact h2.elim (fun h => .inl (.inl ⟨h1, h⟩)) (fun h => .inr ⟨h1, h⟩)
      · exact .inl (.inr h)
    · rintro ((⟨h1, h2⟩ | h) | ⟨h1, h2⟩)
      · exact .inl ⟨h1, by simp [h2]⟩
      · exact .inr h
      · exact .inl ⟨h1, by simp [h2]⟩⟩

theorem pow_mono {L M : List UInt8 → Prop} (h : ∀ w, L w → M w) : ∀ (m : Nat) (w : List UInt8), Pow L m w → Pow M m w
  | 0, _, hp => hp
  | m + 1, w, ⟨w1, w2, e, h1, h2⟩ => ⟨w1, w2, e, h w1 h1, pow_mono h m w2 h2⟩
theorem pow_congr {L M : List UInt8 → Prop} (h : ∀ w, L w ↔ M w) (m : Nat) (w : List UInt8) : Pow L m w ↔ Pow M m w := ⟨pow_mono (fun w => (h w).1) m w, pow_mono (fun w => (h w).2) m w⟩

theorem pow_drop {F : List UInt8 → Prop} {e : Prop} : ∀ (m : Nat) (w : List UInt8), Pow (fun w => (w = [] ∧ e) ∨ F w) m w → ∃ k, k ≤ m ∧ Pow F k w ∧ (k = m ∨ e)
  | 0, w, h => ⟨0, Nat.le_refl _, h, .inl rfl⟩
  | m + 1, w, ⟨w1, w2, ew, h1, h2⟩ => by
    obtain ⟨k, hk, hp, hd⟩ := pow_drop m w2 h2
    rcases h1 with ⟨h3, h4⟩ | h3
    · subst h3
      rw [List.nil_append] at ew
      subst ew
      exact ⟨k, by omega, hp, .inr h4⟩
    · refine ⟨k + 1, by omega, ⟨w1, w2, ew, h3, hp⟩, ?_⟩
      rcases hd with hd | hd
      · exact .inl (by omega)
      · exact .inr hd

include hbo in
theorem Frag.loop {A A1 : Au0} {a : Part} {L : List UInt8 → Prop} (f : Frag has A A1 a L) : Frag has A (loopP bo A1 a) a (plusW L) := by
  have hsrc : ∀ x ∈ a.last, x < A1.fol.length := fun x hx => by rw [f.wf]; exact (f.la x hx).2
  obtain ⟨h1, h2⟩ := linkF_spec hbo a.last A1.fol a.first hsrc
  have hfol : ∀ x y, folA (loopP bo A1 a) x y ↔ folA A1 x y ∨ (x ∈ a.last ∧ y ∈ a.first) := h2
  refine ⟨by simp only [loopP]; rw [h1, f.wf], f.le, f.os, fun x hx y => ?_, f.fi, f.la, fun x h3 h4 y hy => ?_, fun w => ?_⟩
  · rw [hfol, f.of x hx y]
    constructor
    · rintro (h | ⟨h, _⟩)
      · exact h
      · have := (f.la x h).1; omega
    · exact .inl
  · rcases (hfol x y).1 hy with h | ⟨_, h⟩
    · exact f.cl x h3 h4 y h
    · exact f.fi y h
  · have hl : ∀ w x, (A.sets.length ≤ x ∧ x < A1.sets.length) → _ := fun w x hx =>
      from_loop (has := hasA has A1) (fa := folA A1) (f := folA (loopP bo A1 a)) (la := (· ∈ a.last)) (fst := (· ∈ a.first)) (RA := fun x => A.sets.length ≤ x ∧ x < A1.sets.length) (fun x hx y h => f.cl x hx.1 hx.2 y h) (fun y h => f.fi y h) (fun x _ y => hfol x y) w.length w x (Nat.le_refl _) hx
    have hac : ∀ w, ((w = [] ∧ a.empty = true) ∨ ∃ y, y ∈ a.first ∧ From (hasA has A1) (folA A1) (· ∈ a.last) y w) ↔ L w := f.ac
    unfold plusW
    constructor
    · rintro (⟨h3, h4⟩ | ⟨x, h3, h4⟩)
      · exact ⟨0, w, [], by simp, (hac w).1 (.inl ⟨h3, h4⟩), rfl⟩
      · obtain ⟨w1, w2, m, e, g1, g2⟩ := (hl w x (f.fi x h3)).1 h4
        exact ⟨m, w1, w2, e, (hac w1).1 (.inr ⟨x, h3, g1⟩), pow_mono (fun v hv => (hac v).1 (.inr hv)) m w2 g2⟩
    · rintro ⟨m, hp⟩
      obtain ⟨k, hk, hp2, hd⟩ := pow_drop (m + 1) w ((pow_congr (fun w => (hac w).symm) (m + 1) w).1 hp)
      cases k with
      | zero =>
        rcases hd with hd | hd
        · omega
        · exact .inl ⟨hp2, hd⟩
      | succ k =>
        obtain ⟨w1, w2, e, ⟨y, g1, g2⟩, g3⟩ := hp2
        exact .inr ⟨y, g1, (hl w y (f.fi y g1)).2 ⟨w1, w2, k, e, g2, g3⟩⟩
end Go.Y
