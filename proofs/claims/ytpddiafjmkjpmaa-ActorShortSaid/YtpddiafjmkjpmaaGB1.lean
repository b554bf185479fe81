/- What the pieces of functions come to: printed by program. -/
import Derived.Test.YtpddiafjmkjpmaaYTryP
import Derived.Test.YtpddiafjmkjpmaaYLoop
import Derived.Test.YtpddiafjmkjpmaaGClone
namespace Go.Y
open Go.Proofs
set_option maxRecDepth 100000
set_option maxHeartbeats 0
theorem f63_0 (id : Nat) (c : Int) (h : Heap) (K : Out → Nat → List V → Heap → Prop) : (codeP Try.Y (Try.Y.loc 63) 100 ((flat (bodyOf Try.f63))) ⟨(V.p (some (id, 0)) :: V.i IntKind.u8 c :: List.replicate 15 .undef), [], h⟩ (VQ [4] K)) =
  (Con Try.Y (104 : Nat) [V.p (some (id, 0))] h fun (v : V) (h' : Heap) =>
  v = V.tup [] ∧
    ∃ (a : Option (Nat × Nat)),
      ∃ (l : Nat),
        ∃ (c_1 : Option Nat),
          ∃ (k : Nat),
            hcells h' id 1 1 = some [V.sl a l c_1 k] ∧
              ∃ (a_1 : Option (Nat × Nat)),
                ∃ (l_1 : Nat),
                  ∃ (c_2 : Option Nat),
                    ∃ (k_1 : Nat),
                      ∃ (h : Heap),
                        appendH Try.Y h' 90 90 (V.sl a l c_1 k)
                              (V.ts [V.i IntKind.u8 c] 1 (some 1)) =
                            some (V.sl a_1 l_1 c_2 k_1, h) ∧
                          ∃ (h_1 : Heap),
                            hstore h id 1 [V.sl a_1 l_1 c_2 k_1] = some h_1 ∧
                              K Out.ret 17 [V.nilifc] h_1) := by kernel_rfl
theorem f64_0 (id : Nat) (s : List UInt8) (h : Heap) (K : Out → Nat → List V → Heap → Prop) : (codeP Try.Y (Try.Y.loc 64) 100 ((flat (bodyOf Try.f64))) ⟨(V.p (some (id, 0)) :: V.s s :: List.replicate 17 .undef), [], h⟩ (VQ [4, 5] K)) =
  (Con Try.Y (104 : Nat) [V.p (some (id, 0))] h fun (v : V) (h' : Heap) =>
  v = V.tup [] ∧
    ∃ (a : Option (Nat × Nat)),
      ∃ (l : Nat),
        ∃ (c : Option Nat),
          ∃ (k : Nat),
            hcells h' id 1 1 = some [V.sl a l c k] ∧
              ∃ (a_1 : Option (Nat × Nat)),
                ∃ (l_1 : Nat),
                  ∃ (c_1 : Option Nat),
                    ∃ (k_1 : Nat),
                      ∃ (h : Heap),
                        appendH Try.Y h' 90 9 (V.sl a l c k) (V.s s) =
                            some (V.sl a_1 l_1 c_1 k_1, h) ∧
                          ∃ (h_1 : Heap),
                            hstore h id 1 [V.sl a_1 l_1 c_1 k_1] = some h_1 ∧
                              K Out.ret 19 [V.i IntKind.i64 (↑s.length : Int), V.nilifc] h_1) := by kernel_rfl
theorem f67_0 (id : Nat) (h : Heap) (K : Out → Nat → List V → Heap → Prop) : (codeP Try.Y (Try.Y.loc 67) 100 ((flat (bodyOf Try.f67))) ⟨(V.p (some (id, 0)) :: List.replicate 7 .undef), [], h⟩ (VQ [2] K)) =
  (∃ (a : Option (Nat × Nat)),
  ∃ (l : Nat),
    ∃ (c : Option Nat),
      ∃ (k : Nat),
        hcells h id 1 1 = some [V.sl a l c k] ∧ K Out.ret 8 [V.i IntKind.i64 (↑l : Int)] h) := by kernel_rfl
theorem f68_0 (id : Nat) (h : Heap) (K : Out → Nat → List V → Heap → Prop) : (codeP Try.Y (Try.Y.loc 68) 100 ((flat (bodyOf Try.f68))) ⟨(V.p (some (id, 0)) :: List.replicate 13 .undef), [], h⟩ (VQ [2] K)) =
  (∃ (a : Option (Nat × Nat)),
  ∃ (l : Nat),
    ∃ (c : Option Nat),
      ∃ (k : Nat),
        hcells h id 1 1 = some [V.sl a l c k] ∧
          (l = 0 → a = none) ∧
            ∃ (a_1 : Option (Nat × Nat)),
              ∃ (l : Nat),
                ∃ (c : Option Nat),
                  ∃ (k : Nat),
                    hcells h id 1 1 = some [V.sl a_1 l c k] ∧
                      ∃ (s : List UInt8),
                        ∃ (h_1 : Heap),
                          strH Try.Y h 133 a (↑l : Int) = some (h_1, s) ∧ K Out.ret 14 [V.s s] h_1) := by kernel_rfl
theorem f104_0 (id : Nat) (h : Heap) (K : Out → Nat → List V → Heap → Prop) : (codeP Try.Y (Try.Y.loc 104) 100 ((flat (bodyOf Try.f104))) ⟨(V.p (some (id, 0)) :: List.replicate 19 .undef), [], h⟩ (VQ [] K)) =
  (∃ (a : Option (Nat × Nat)),
  hcells h id 0 1 = some [V.p a] ∧
    (Try.Y.ty 92).isSome = true ∧
      If a.isNone
        ((∃ (id_1 : Nat),
            ∃ (cs : List V),
              ∃ (wr : Bool),
                ∃ (ti : TI),
                  some (id, 0) = some (id_1, 0) ∧
                    h.get id_1 = some (YObj.arr cs wr) ∧
                      h.tagOf id_1 = some 92 ∧
                        some
                              { size := (2 : Nat), bytes := (32 : Nat),
                                kd := Kd.struct [((0 : Nat), 89), ((1 : Nat), 90)],
                                zero := [V.p none, V.sl none (0 : Nat) (some (0 : Nat)) (0 : Nat)] } =
                            some ti ∧
                          (ti.size = 0 → False) ∧ ti.size ≤ cs.length) ∧
          (∃ (id_1 : Nat),
              ∃ (cs : List V),
                ∃ (wr : Bool),
                  ∃ (ti : TI),
                    some (id, 0) = some (id_1, 0) ∧
                      h.get id_1 = some (YObj.arr cs wr) ∧
                        h.tagOf id_1 = some 92 ∧
                          some
                                { size := (2 : Nat), bytes := (32 : Nat),
                                  kd := Kd.struct [((0 : Nat), 89), ((1 : Nat), 90)],
                                  zero := [V.p none, V.sl none (0 : Nat) (some (0 : Nat)) (0 : Nat)] } =
                              some ti ∧
                            (ti.size = 0 → False) ∧ ti.size ≤ cs.length) ∧
            ∃ (h_1 : Heap),
              hstore h id 0 [V.p (some (id, 0))] = some h_1 ∧ K Out.normal 20 [] h_1)
        (∃ (a : Option (Nat × Nat)),
          hcells h id 0 1 = some [V.p a] ∧
            (Try.Y.ty 92).isSome = true ∧
              (∃ (p : Nat × Nat), a = some p ∧ some (id, 0) = some p ∧ (h.get p.fst).isSome = true) ∧
                K Out.normal 20 [] h)) := by kernel_rfl
theorem f66_0 (x0 : Int) (s1 : List UInt8) (h : Heap) (K : Out → Nat → List V → Heap → Prop) : (codeP Try.Y (Try.Y.loc 66) 100 ((flat (bodyOf Try.f66))) ⟨(V.i IntKind.u8 x0 :: V.s s1 :: List.replicate 13 .undef), [], h⟩ (VQ [4] K)) =
  (∃ (n : Int),
  (PCon Try.Y (100 : Nat) [V.s s1, V.i IntKind.u8 x0] fun (v : V) => v = V.i IntKind.i64 n) ∧
    If (leI (0 : Int) n)
      (∃ (l : List UInt8),
        some
              (Q.val
                (V.s
                  ((fun (x : List UInt8) => UInt8.ofNat (Int.toNat (92 : Int)) :: x)
                    ((fun (x : List UInt8) => UInt8.ofNat x0.toNat :: x) [])))) =
            some (Q.val (V.s l)) ∧
          K Out.ret 15 [V.s l] h)
      (∃ (l : List UInt8),
        some (Q.val (V.s ((fun (x : List UInt8) => UInt8.ofNat x0.toNat :: x) []))) = some (Q.val (V.s l)) ∧
          K Out.ret 15 [V.s l] h)) := by kernel_rfl
theorem f100_0 (s0 : List UInt8) (x1 : Int) (h : Heap) (K : Out → Nat → List V → Heap → Prop) : (codeP Try.Y (Try.Y.loc 100) 100 ((flat (bodyOf Try.f100))) ⟨(V.s s0 :: V.i IntKind.u8 x1 :: List.replicate 6 .undef), [], h⟩ (VQ [4] K)) =
  (∃ (n : Int),
  (PCon Try.Y (119 : Nat) [V.s s0, V.i IntKind.u8 x1] fun (v : V) => v = V.i IntKind.i64 n) ∧
    K Out.ret 8 [V.i IntKind.i64 n] h) := by kernel_rfl
theorem f119_0 (s0 : List UInt8) (x1 : Int) (h : Heap) (K : Out → Nat → List V → Heap → Prop) : (codeP Try.Y (Try.Y.loc 119) 100 ((flat (bodyOf Try.f119))) ⟨(V.s s0 :: V.i IntKind.u8 x1 :: List.replicate 6 .undef), [], h⟩ (VQ [4] K)) =
  (K Out.ret 8 [V.i IntKind.i64 (idxFrom s0 x1.toNat.toUInt8 (0 : Nat))] h) := by kernel_rfl
end Go.Y

/- What patterns stand for: by definition; the way of going back to the last piece for many; the table. -/
namespace Go.Y

/-- Does a piece stand for a byte? -/
def fitsS (g : Glob) (c : Int) : Bool := if g.k = 0 then g.b == c else g.k == 1 || g.sp.any fun x => leI x.lo c && leI c x.hi

/-- Do pieces stand for a text? -/
def M : List Glob → List UInt8 → Bool
  | [], [] => true
  | [], _ :: _ => false
  | g :: l, [] => g.k == 2 && M l []
  | g :: l, c :: r => if g.k = 2 then M l (c :: r) || M (g :: l) r else fitsS g c.toNat && M l r
termination_by l s => (l.length, s.length)

theorem M_many (g : Glob) (hg : g.k = 2) (l : List Glob) (s : List UInt8) : M (g :: l) s = true ↔ ∃ t, t <:+ s ∧ M l t = true := by
  induction s with
  | nil =>
    rw [M, hg]
    simp
  | cons c r ih =>
    rw [M, if_pos hg]
    simp only [Bool.or_eq_true, ih]
    constructor
    · rintro (h | ⟨t, h1, h2⟩)
      · exact ⟨_, List.suffix_refl _, h⟩
      · exact ⟨t, h1.trans (List.suffix_cons c r), h2⟩
    · rintro ⟨t, h1, h2⟩
      rcases List.suffix_cons_iff.1 h1 with rfl | h1
      · exact .inl h2
      · exact .inr ⟨t, h1, h2⟩

theorem M_one (g : Glob) (hg : g.k ≠ 2) (l : List Glob) (s : List UInt8) : M (g :: l) s = true ↔ ∃ c r, s = c :: r ∧ fitsS g c.toNat = true ∧ M l r = true := by
  cases s with
  | nil => rw [M]; simp [hg]
  | cons c r =>
    rw [M, if_neg hg, Bool.and_eq_true]
    exact ⟨fun h => ⟨c, r, rfl, h⟩, fun ⟨c', r', he, h⟩ => by cases he; exact h⟩

/-- Pieces in two parts. -/
theorem M_append : ∀ (l m : List Glob) (s : List UInt8), M (l ++ m) s = true ↔ ∃ a b, s = a ++ b ∧ M l a = true ∧ M m b = true
  | [], m, s => by
    rw [List.nil_append]
    constructor
    · intro h; exact ⟨[], s, rfl, by rw [M], h⟩
    · rintro ⟨a, b, rfl, h1, h2⟩
      cases a with
      | nil => exact h2
      | cons c r => rw [M] at h1; cases h1
  | g :: l, m, s => by
    rw [List.cons_append]
    by_cases hg : g.k = 2
    · rw [M_many g hg]
      constructor
      · rintro ⟨t, ⟨p, rfl⟩, h2⟩
        obtain ⟨a, b, rfl, h3, h4⟩ := (M_append l m t).1 h2
        exact ⟨p ++ a, b, by simp, (M_many g hg l (p ++ a)).2 ⟨a, List.suffix_append p a, h3⟩, h4⟩
      · rintro ⟨a, b, rfl, h1, h2⟩
        obtain ⟨t, ⟨p, rfl⟩, h3⟩ := (M_many g hg l a).1 h1
        exact ⟨t ++ b, ⟨p, by simp⟩, (M_append l m (t ++ b)).2 ⟨t, b, rfl, h3, h2⟩⟩
    · rw [M_one g hg]
      constructor
      · rintro ⟨c, r, rfl, h1, h2⟩
        obtain ⟨a, b, rfl, h3, h4⟩ := (M_append l m r).1 h2
        exact ⟨c :: a, b, rfl, (M_one g hg l (c :: a)).2 ⟨c, a, rfl, h1, h3⟩, h4⟩
      · rintro ⟨a, b, rfl, h1, h2⟩
        obtain ⟨c, r, rfl, h3, h4⟩ := (M_one g hg l a).1 h1
        exact ⟨c, r ++ b, rfl, h3, (M_append l m (r ++ b)).2 ⟨r, b, rfl, h4, h2⟩⟩

/-- One of the two. -/
theorem M_many_step (g : Glob) (hg : g.k = 2) (l : List Glob) (c : UInt8) (r : List UInt8) : M (g :: l) (c :: r) = (M l (c :: r) || M (g :: l) r) := by rw [M, if_pos hg]
theorem M_one_step (g : Glob) (hg : g.k ≠ 2) (l : List Glob) (c : UInt8) (r : List UInt8) : M (g :: l) (c :: r) = (fitsS g c.toNat && M l r) := by rw [M, if_neg hg]
theorem M_nil (s : List UInt8) : M [] s = s.isEmpty := by cases s <;> rw [M] <;> rfl
theorem M_empty (l : List Glob) : M l [] = l.all fun g => g.k == 2 := by
  induction l with
  | nil => rw [M]; rfl
  | cons g l ih => rw [M, ih]; rfl

def star (l : List Glob) (s : List UInt8) : Bool := M (⟨2, 0, []⟩ :: l) s
theorem star_iff (l : List Glob) (s : List UInt8) : star l s = true ↔ ∃ t, t <:+ s ∧ M l t = true := M_many _ rfl _ _
theorem star_of (g : Glob) (hg : g.k = 2) (l : List Glob) (s : List UInt8) : M (g :: l) s = star l s := by
  rw [Bool.eq_iff_iff, star_iff, M_many g hg]
theorem star_up {l : List Glob} {s t : List UInt8} (h : t <:+ s) (hs : star l t = true) : star l s = true := by
  rw [star_iff] at hs ⊢
  obtain ⟨u, h1, h2⟩ := hs
  exact ⟨u, h1.trans h, h2⟩

/-- So many pieces, none for many, use so many bytes. -/
theorem M_exact : ∀ (p : List Glob) (q : List Glob) (s : List UInt8), (∀ g ∈ p, g.k ≠ 2) → M (p ++ q) s = true → p.length ≤ s.length ∧ M q (s.drop p.length) = true
  | [], q, s, _, h => ⟨Nat.zero_le _, by simpa using h⟩
  | g :: p, q, s, hp, h => by
    rw [List.cons_append, M_one g (hp g (by simp))] at h
    obtain ⟨c, r, rfl, _, h2⟩ := h
    obtain ⟨h3, h4⟩ := M_exact p q r (fun x hx => hp x (by simp [hx])) h2
    exact ⟨by simp; omega, by simpa using h4⟩

/-- What is left to be found, from a state of the way. 'many': the place behind the last piece for many, and from where it is tried. -/
def goal (l : List Glob) (s : List UInt8) (i k : Nat) (many : Option (Nat × Nat)) : Bool :=
  M (l.drop i) (s.drop k) || match many with
    | none => false
    | some (q, f) => star (l.drop q) (s.drop (f + 1))

/-- What is known of the state. -/
def wayOK (l : List Glob) (i k : Nat) (many : Option (Nat × Nat)) : Prop := match many with
  | none => True
  | some (q, f) => q ≤ i ∧ k = f + (i - q) ∧ ∀ j g, q ≤ j → j < i → l[j]? = some g → g.k ≠ 2

theorem goal_many {l : List Glob} {s : List UInt8} {i k : Nat} {many : Option (Nat × Nat)} (hi : i < l.length) (hg : l[i].k = 2) (hk : k < s.length) (hw : wayOK l i k many) :
    goal l s i k many = goal l s (i + 1) k (some (i + 1, k)) := by
  have e1 : M (l.drop i) (s.drop k) = star (l.drop (i + 1)) (s.drop k) := by rw [List.drop_eq_getElem_cons hi]; exact star_of _ hg _ _
  have e2 : star (l.drop (i + 1)) (s.drop k) = (M (l.drop (i + 1)) (s.drop k) || star (l.drop (i + 1)) (s.drop (k + 1))) := by
    rw [List.drop_eq_getElem_cons hk]
    exact M_many_step _ rfl _ _ _
  unfold goal
  rw [e1]
  simp only
  rw [← e2]
  cases many with
  | none => simp
  | some qf =>
    obtain ⟨q, f⟩ := qf
    obtain ⟨h1, h2, h3⟩ := hw
    simp only
    rw [Bool.eq_iff_iff, Bool.or_eq_true]
    refine ⟨fun h => h.elim id fun h => ?_, .inl⟩
    rw [star_iff] at h
    obtain ⟨t, ht, hm⟩ := h
    have hsplit : l.drop q = (l.drop q).take (i - q) ++ l.drop i := by
      have := List.take_append_drop (i - q) (l.drop q)
      rw [List.drop_drop, show q + (i - q) = i by omega] at this
      exact this.symm
    rw [hsplit] at hm
    obtain ⟨h5, h6⟩ := M_exact _ _ _ (fun g hg => by
      obtain ⟨j, hj, rfl⟩ := List.mem_iff_getElem.1 hg
      simp only [List.length_take, List.length_drop] at hj
      have : ((l.drop q).take (i - q))[j]? = l[q + j]? := by rw [List.getElem?_take_of_lt (by omega), List.getElem?_drop]
      refine h3 (q + j) _ (by omega) (by omega) ?_
      rw [← this]; exact List.getElem?_eq_getElem _) hm
    have hlen : ((l.drop q).take (i - q)).length = i - q := by simp; omega
    rw [hlen] at h5 h6
    rw [List.drop_eq_getElem_cons hi, star_of _ hg] at h6
    refine star_up ?_ h6
    obtain ⟨p, hp⟩ := ht
    have hpl : p.length + t.length = s.length - (f + 1) := by
      have := congrArg List.length hp
      simpa using this
    refine ⟨(s.drop k).take (p.length + 1), ?_⟩
    have e3 : t.drop (i - q) = (s.drop k).drop (p.length + 1) := by
      have : t = s.drop (f + 1 + p.length) := by
        rw [← List.drop_drop, ← hp]; simp
      rw [this, List.drop_drop, List.drop_drop]
      congr 1; omega
    rw [e3, List.take_append_drop]

theorem goal_fits {l : List Glob} {s : List UInt8} {i k : Nat} {many : Option (Nat × Nat)} (hi : i < l.length) (hg : l[i].k ≠ 2) (hk : k < s.length) (hf : fitsS l[i] s[k].toNat = true) : goal l s i k many = goal l s (i + 1) (k + 1) many := by
  unfold goal
  rw [List.drop_eq_getElem_cons hi, List.drop_eq_getElem_cons hk, M_one_step _ hg, hf, Bool.true_and]

theorem goal_back {l : List Glob} {s : List UInt8} {i k q f : Nat} (hk : k < s.length) (hno : ∀ (h : i < l.length), l[i].k ≠ 2 ∧ fitsS l[i] s[k].toNat = false) :
    goal l s i k (some (q, f)) = goal l s q (f + 1) (some (q, f + 1)) := by
  have e1 : M (l.drop i) (s.drop k) = false := by
    rw [List.drop_eq_getElem_cons hk]
    by_cases hi : i < l.length
    · obtain ⟨h1, h2⟩ := hno hi
      rw [List.drop_eq_getElem_cons hi, M_one_step _ h1, h2, Bool.false_and]
    · rw [List.drop_of_length_le (by omega), M_nil]; rfl
  unfold goal
  rw [e1, Bool.false_or]
  simp only
  by_cases hfl : f + 1 < s.length
  · rw [List.drop_eq_getElem_cons hfl]
    exact M_many_step _ rfl _ _ _
  · rw [show s.drop (f + 1) = [] from List.drop_of_length_le (by omega), show s.drop (f + 1 + 1) = [] from List.drop_of_length_le (by omega)]
    unfold star
    rw [M]
    simp
theorem goal_none {l : List Glob} {s : List UInt8} {i k : Nat} (hk : k < s.length) (hno : ∀ (h : i < l.length), l[i].k ≠ 2 ∧ fitsS l[i] s[k].toNat = false) : goal l s i k none = false := by
  unfold goal
  rw [Bool.or_false, List.drop_eq_getElem_cons hk]
  by_cases hi : i < l.length
  · obtain ⟨h1, h2⟩ := hno hi
    rw [List.drop_eq_getElem_cons hi, M_one_step _ h1, h2, Bool.false_and]
  · rw [List.drop_of_length_le (by omega), M_nil]; rfl

theorem goal_end {l : List Glob} {s : List UInt8} {i k : Nat} {many : Option (Nat × Nat)} (hk : k = s.length) (hw : wayOK l i k many) : goal l s i k many = (l.drop i).all fun g => g.k == 2 := by
  have e1 : M (l.drop i) (s.drop k) = (l.drop i).all fun g => g.k == 2 := by
    rw [show s.drop k = [] from List.drop_of_length_le (by omega), M_empty]
  unfold goal
  rw [e1]
  cases many with
  | none => simp
  | some qf =>
    obtain ⟨q, f⟩ := qf
    obtain ⟨h1, h2, h3⟩ := hw
    simp only
    rw [Bool.eq_iff_iff, Bool.or_eq_true]
    refine ⟨fun h => h.elim id fun h => ?_, .inl⟩
    rw [star_iff] at h
    obtain ⟨t, ht, hm⟩ := h
    have htl : t.length ≤ s.length - (f + 1) := by
      have := ht.length_le
      simpa using this
    by_cases hil : i ≤ l.length
    · have hsplit : l.drop q = (l.drop q).take (i - q) ++ l.drop i := by
        have := List.take_append_drop (i - q) (l.drop q)
        rw [List.drop_drop, show q + (i - q) = i by omega] at this
        exact this.symm
      rw [hsplit] at hm
      obtain ⟨h5, h6⟩ := M_exact _ _ _ (fun g hg => by
        obtain ⟨j, hj, rfl⟩ := List.mem_iff_getElem.1 hg
        simp only [List.length_take, List.length_drop] at hj
        have : ((l.drop q).take (i - q))[j]? = l[q + j]? := by rw [List.getElem?_take_of_lt (by omega), List.getElem?_drop]
        refine h3 (q + j) _ (by omega) (by omega) ?_
        rw [← this]; exact List.getElem?_eq_getElem _) hm
      have hlen : ((l.drop q).take (i - q)).length = i - q := by simp; omega
      rw [hlen] at h5
      -- too few bytes are left
      by_cases hz : i = q
      · subst hz
        have : t = [] := by
          apply List.eq_nil_of_length_eq_zero
          omega
        subst this
        simp only [Nat.sub_self, List.take_zero, List.length_nil, List.drop_nil] at h6
        rw [M_empty] at h6
        exact h6
      · omega
    · rw [List.drop_of_length_le (by omega)]; rfl
end Go.Y
