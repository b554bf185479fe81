/- The pattern's reader, by contracts. -/
import Derived.Test.YtpddiafjmkjpmaaGSpec
import Derived.Test.YtpddiafjmkjpmaaGA1
namespace Go.Y
open Go.Proofs
set_option maxRecDepth 100000

structure Rd (h : Heap) (id : Nat) (s : List UInt8) (i : Nat) (b : Bool) : Prop where
  get : h.get id = some (.arr [.s s, .i .i64 (i : Nat), .b b] true)
  lt : id < h.nx

section
variable {h : Heap} {id : Nat} {s : List UInt8} {i : Nat} {b : Bool}
theorem Rd.c0 (r : Rd h id s i b) : hcells h id 0 1 = some [.s s] := by simp [hcells, r.get, takeX]
theorem Rd.c1 (r : Rd h id s i b) : hcells h id 1 1 = some [.i .i64 (i : Nat)] := by simp [hcells, r.get, takeX]
theorem Rd.c2 (r : Rd h id s i b) : hcells h id 2 1 = some [.b b] := by simp [hcells, r.get, takeX]
theorem Rd.s1 (r : Rd h id s i b) (j : Nat) : ∃ h1, hstore h id 1 [.i .i64 (j : Nat)] = some h1 ∧ Rd h1 id s j b ∧ FrO h id h1 := by
  refine ⟨h.set id (some (.arr [.s s, .i .i64 (j : Nat), .b b] true)), ?_, ⟨by simp, r.lt⟩, .set _ _ _⟩
  simp [hstore, r.get, splice]
theorem Rd.s2 (r : Rd h id s i b) (c : Bool) : ∃ h1, hstore h id 2 [.b c] = some h1 ∧ Rd h1 id s i c ∧ FrO h id h1 := by
  refine ⟨h.set id (some (.arr [.s s, .i .i64 (i : Nat), .b c] true)), ?_, ⟨by simp, r.lt⟩, .set _ _ _⟩
  simp [hstore, r.get, splice]
end

/-- What a call leaves: a value, the reader, and the rest of memory. -/
def RdQ (h : Heap) (id : Nat) (s : List UInt8) (v0 : V) (j : Nat) (c : Bool) (v : V) (h' : Heap) : Prop := v = v0 ∧ Rd h' id s j c ∧ FrO h id h'

theorem next_con {h : Heap} {id : Nat} {s : List UInt8} {i : Nat} {b : Bool} (r : Rd h id s i b) (hs : s.length < 2 ^ 30) (hi : i ≤ s.length) :
    Con Try.Y 90 [.p (some (id, 0))] h (RdQ h id s (.i .u8 (nextS s i b).1) (nextS s i b).2.1 (nextS s i b).2.2) := by
  refine conz_of Try.Yok (fn := Try.f90) (by kernel_rfl) (by kernel_rfl) (end_rule Try.Yok (loc := Try.Y.loc 90) 100 [2] ?_)
  rw [show (⟨[.p (some (id, 0))] ++ List.replicate (Try.f90.ntmps - [V.p (some (id, 0))].length) .undef, [], h⟩ : St) = ⟨.p (some (id, 0)) :: List.replicate 32 .undef, [], h⟩ by rfl, f90_0]
  refine ⟨_, r.c1, _, r.c0, if_le (fun hle => ?_) (fun hlt => ?_)⟩
  · have : s[i]? = none := List.getElem?_eq_none (by omega)
    obtain ⟨h1, g1, g2, g3⟩ := r.s2 true
    refine ⟨h1, g1, finC (.inr rfl) rfl (.now ⟨?_, ?_, g3⟩)⟩
    · simp [nextS, this, V.plain]
    · simpa [nextS, this] using g2
  · have hlt' : i < s.length := by omega
    obtain ⟨h1, g1, g2, g3⟩ := r.s1 (i + 1)
    refine ⟨_, r.c1, h1, by rw [wrap_succ (by omega)]; exact g1, _, g2.c0, _, g2.c1, s[i], ?_, finC (.inr rfl) rfl (.now ⟨?_, ?_, g3⟩)⟩
    · rw [wrap_ok (by omega) (by omega)]
      refine ⟨by omega, ?_⟩
      rw [show (((i + 1 : Nat) : Int) - 1).toNat = i by omega]
      simp [hlt']
    · simp [nextS, hlt', V.plain]
    · simpa [nextS, hlt'] using g2

theorem peek_con {h : Heap} {id : Nat} {s : List UInt8} {i : Nat} {b : Bool} (r : Rd h id s i b) (c : UInt8) :
    RCon Try.Y 112 [.p (some (id, 0)), .i .u8 (c.toNat : Nat)] h (.b (s[i]? == some c)) := by
  refine ⟨h, ?_, fun _ _ => rfl, fun _ h => h⟩
  refine conz_of Try.Yok (fn := Try.f112) (by kernel_rfl) (by kernel_rfl) (end_rule Try.Yok (loc := Try.Y.loc 112) 100 [4] ?_)
  rw [show (⟨[.p (some (id, 0)), .i .u8 (c.toNat : Nat)] ++ List.replicate (Try.f112.ntmps - [V.p (some (id, 0)), .i .u8 (c.toNat : Nat)].length) .undef, [], h⟩ : St) = ⟨.p (some (id, 0)) :: .i .u8 (c.toNat : Nat) :: List.replicate 26 .undef, [], h⟩ by rfl, f112_0]
  refine ⟨_, r.c1, _, r.c0, if_lt (fun hlt => ?_) (fun hge => ?_)⟩
  · have hlt' : i < s.length := by omega
    refine ⟨_, r.c0, _, r.c1, s[i], ⟨by omega, by simp [hlt']⟩, finC (.inr rfl) rfl (.now ⟨?_, rfl⟩)⟩
    rw [u8_eq]; simp [hlt', V.plain]
  · have : s[i]? = none := List.getElem?_eq_none (by omega)
    refine finC (.inr rfl) rfl (.now ⟨?_, rfl⟩)
    simp [this, V.plain]

/-- What 'end' leaves, by what the place comes to. -/
def endQ (r : Except Nat (Int × Nat)) (h : Heap) (id : Nat) (s : List UInt8) (b : Bool) (v : V) (h' : Heap) : Prop := match r with
  | .error e => ∃ n, v = .i .u8 n ∧ Rd h' id s e true ∧ FrO h id h'
  | .ok (c, j) => v = .i .u8 c ∧ Rd h' id s j b ∧ FrO h id h'

theorem end_con {h : Heap} {id : Nat} {s : List UInt8} {i : Nat} (r : Rd h id s i false) (hs : s.length < 2 ^ 30) (hi : i ≤ s.length) :
    Con Try.Y 121 [.p (some (id, 0))] h (endQ (endS s i) h id s false) := by
  refine conz_of Try.Yok (fn := Try.f121) (by kernel_rfl) (by kernel_rfl) (end_rule Try.Yok (loc := Try.Y.loc 121) 100 [2] ?_)
  rw [show (⟨[.p (some (id, 0))] ++ List.replicate (Try.f121.ntmps - [V.p (some (id, 0))].length) .undef, [], h⟩ : St) = ⟨.p (some (id, 0)) :: List.replicate 26 .undef, [], h⟩ by rfl, f121_0]
  have bad : (s[i]? = none ∨ s[i]? = some 93 ∨ s[i]? = some 45) → endS s i = .error i := by
    rintro (h | h | h) <;> simp [endS, h]
  have fail : (s[i]? = none ∨ s[i]? = some 93 ∨ s[i]? = some 45) → ∃ h1, hstore h id 2 [.b true] = some h1 ∧ Fin Try.Y Try.f121 [2] (AfterZ (endQ (endS s i) h id s false)) .ret 27 [.i .u8 0] h1 := by
    intro hb
    obtain ⟨h1, g1, g2, g3⟩ := r.s2 true
    refine ⟨h1, g1, finC (.inr rfl) rfl (.now ?_)⟩
    rw [bad hb]
    exact ⟨0, rfl, g2, g3⟩
  refine ⟨_, peek_con r 93, if_mk (fun hc => fail (.inr (.inl (by simpa using hc)))) (fun hc1 => ?_)⟩
  refine ⟨_, peek_con r 45, if_mk (fun hc => fail (.inr (.inr (by simpa using hc)))) (fun hc2 => ?_)⟩
  refine (next_con r hs hi).mono fun v h' ⟨hv, g1, g2⟩ => ⟨_, hv, ?_⟩
  cases hsi : s[i]? with
  | none =>
    simp only [nextS, hsi] at g1 ⊢
    refine if_mk (fun hc => by simp at hc) (fun _ => finC (.inr rfl) rfl (.now ?_))
    rw [bad (.inl hsi)]
    exact ⟨0, rfl, g1, g2⟩
  | some c =>
    rw [hsi] at hc1 hc2
    have n1 : c ≠ 93 := by simpa using hc1
    have n2 : c ≠ 45 := by simpa using hc2
    simp only [nextS, hsi] at g1 ⊢
    have hlt := (List.getElem?_eq_some_iff.1 hsi).1
    rw [show (92 : Int) = (((92 : UInt8).toNat : Nat) : Int) by decide, u8_eq]
    refine if_mk (fun hc => ?_) (fun hc => ?_)
    · have hc : c = 92 := by simpa using hc
      refine ⟨_, g1.c2, ?_⟩
      show Con Try.Y 90 [.p (some (id, 0))] h' _
      refine (next_con g1 hs (by omega)).mono fun v h2 ⟨hv, q1, q2⟩ => ⟨_, hv, finC (.inr rfl) rfl (.now ?_)⟩
      subst hc
      cases hs2 : s[i + 1]? with
      | none =>
        simp only [nextS, hs2] at q1 ⊢
        simp only [endS, hsi, hs2]
        exact ⟨0, rfl, q1, g2.trans q2⟩
      | some d =>
        simp only [nextS, hs2] at q1 ⊢
        simp only [endS, hsi, hs2]
        exact ⟨rfl, q1, g2.trans q2⟩
    · have hc : c ≠ 92 := by simpa using hc
      refine finC (.inr rfl) rfl (.now ?_)
      simp only [endS, hsi, n1, n2, hc, or_self, if_false]
      exact ⟨rfl, g1, g2⟩
end Go.Y
