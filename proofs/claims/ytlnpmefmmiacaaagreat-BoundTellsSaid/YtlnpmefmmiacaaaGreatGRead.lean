/- The pattern's reader, by contracts. -/
import Derived.Test.YtlnpmefmmiacaaaGreatGWk
import Derived.Test.YtlnpmefmmiacaaaGreatGA1
import Derived.Test.YtlnpmefmmiacaaaGreatGRule
namespace Go.Y
open Go.Proofs
set_option maxRecDepth 100000

structure Rd (h : Heap) (id : Nat) (s : List UInt8) (i : Nat) (b : Bool) : Prop where
  get : h.get id = some (.arr [.s s, .i .i64 (i : Nat), .b b] true)
  lt : id < h.nx

section
variable {h : Heap} {id : Nat} {s : List UInt8} {i : Nat} {b : Bool}
theorem Rd.c0 (r : Rd h id s i b) : hcells h id 0 1 = some [.s s] := by simp [hcells, r.get, takeX]
theorem Rd.c1 (r : Rd h id s i b) : hcells h id 1 1 = some [.i .i64 (i : Nat)] := by simp [hcells, r.get, takeX]
theorem Rd.c2 (r : Rd h id s i b) : hcells h id 2 1 = some [.b b] := by simp [hcells, r.get, takeX]
theorem Rd.s1 (r : Rd h id s i b) (j : Nat) : ∃ h1, hstore h id 1 [.i .i64 (j : Nat)] = some h1 ∧ Rd h1 id s j b ∧ FrO h id h1 := by
  refine ⟨h.set id (some (.arr [.s s, .i .i64 (j : Nat), .b b] true)), ?_, ⟨by simp, r.lt⟩, .set _ _ _⟩
  simp [hstore, r.get, splice]
theorem Rd.s2 (r : Rd h id s i b) (c : Bool) : ∃ h1, hstore h id 2 [.b c] = some h1 ∧ Rd h1 id s i c ∧ FrO h id h1 := by
  refine ⟨h.set id (some (.arr [.s s, .i .i64 (i : Nat), .b c] true)), ?_, ⟨by simp, r.lt⟩, .set _ _ _⟩
  simp [hstore, r.get, splice]
end

/-- What a call leaves: a value, the reader, and the rest of memory. -/
def RdQ (h : Heap) (id : Nat) (s : List UInt8) (v0 : V) (j : Nat) (c : Bool) (v : V) (h' : Heap) : Prop := v = v0 ∧ Rd h' id s j c ∧ FrO h id h'

theorem next_con {h : Heap} {id : Nat} {s : List UInt8} {i : Nat} {b : Bool} (r : Rd h id s i b) (hs : s.length < 2 ^ 30) (hi : i ≤ s.length) :
    Con Tryz.Y 117 [.p (some (id, 0))] h (RdQ h id s (.i .u8 (nextS s i b).1) (nextS s i b).2.1 (nextS s i b).2.2) := by
  refine conz_of Tryz.Yok (fn := Tryz.f117) (by kernel_rfl) (by kernel_rfl) (end_rule Tryz.Yok (loc := Tryz.Y.loc 117) 100 [2] ?_)
  rw [show (⟨[.p (some (id, 0))] ++ List.replicate (Tryz.f117.ntmps - [V.p (some (id, 0))].length) .undef, [], h⟩ : St) = ⟨.p (some (id, 0)) :: List.replicate 32 .undef, [], h⟩ by rfl, f117_0]
  refine ⟨_, r.c1, _, r.c0, if_le (fun hle => ?_) (fun hlt => ?_)⟩
  · have : s[i]? = none := List.getElem?_eq_none (by omega)
    obtain ⟨h1, g1, g2, g3⟩ := r.s2 true
    refine ⟨h1, g1, finC (.inr rfl) rfl (.now ⟨?_, ?_, g3⟩)⟩
    · simp [nextS, this, V.plain]
    · simpa [nextS, this] using g2
  · have hlt' : i < s.length := by omega
    obtain ⟨h1, g1, g2, g3⟩ := r.s1 (i + 1)
    refine ⟨_, r.c1, h1, by rw [wrap_succ (by omega)]; exact g1, _, g2.c0, _, g2.c1, s[i], ?_, finC (.inr rfl) rfl (.now ⟨?_, ?_, g3⟩)⟩
    · rw [wrap_ok (by omega) (by omega)]
      refine ⟨by omega, ?_⟩
      rw [show (((i + 1 : Nat) : Int) - 1).toNat = i by omega]
      simp [hlt']
    · simp [nextS, hlt', V.plain]
    · simpa [nextS, hlt'] using g2

theorem peek_con {h : Heap} {id : Nat} {s : List UInt8} {i : Nat} {b : Bool} (r : Rd h id s i b) (c : UInt8) :
    RCon Tryz.Y 123 [.p (some (id, 0)), .i .u8 (c.toNat : Nat)] h (.b (s[i]? == some c)) := by
  refine ⟨h, ?_, fun _ _ => rfl, fun _ h => h⟩
  refine conz_of Tryz.Yok (fn := Tryz.f123) (by kernel_rfl) (by kernel_rfl) (end_rule Tryz.Yok (loc := Tryz.Y.loc 123) 100 [4] ?_)
  rw [show (⟨[.p (some (id, 0)), .i .u8 (c.toNat : Nat)] ++ List.replicate (Tryz.f123.ntmps - [V.p (some (id, 0)), .i .u8 (c.toNat : Nat)].length) .undef, [], h⟩ : St) = ⟨.p (some (id, 0)) :: .i .u8 (c.toNat : Nat) :: List.replicate 26 .undef, [], h⟩ by rfl, f123_0]
  refine ⟨_, r.c1, _, r.c0, if_lt (fun hlt => ?_) (fun hge => ?_)⟩
  · have hlt' : i < s.length := by omega
    refine ⟨_, r.c0, _, r.c1, s[i], ⟨by omega, by simp [hlt']⟩, finC (.inr rfl) rfl (.now ⟨?_, rfl⟩)⟩
    rw [u8_eq]; simp [hlt', V.plain]
  · have : s[i]? = none := List.getElem?_eq_none (by omega)
    refine finC (.inr rfl) rfl (.now ⟨?_, rfl⟩)
    simp [this, V.plain]

/-- What 'end' leaves, by what the place comes to. -/
def endQ (r : Except Nat (Int × Nat)) (h : Heap) (id : Nat) (s : List UInt8) (b : Bool) (v : V) (h' : Heap) : Prop := match r with
  | .error e => ∃ n, v = .i .u8 n ∧ Rd h' id s e true ∧ FrO h id h'
  | .ok (c, j) => v = .i .u8 c ∧ Rd h' id s j b ∧ FrO h id h'

theorem end_con {h : Heap} {id : Nat} {s : List UInt8} {i : Nat} (r : Rd h id s i false) (hs : s.length < 2 ^ 30) (hi : i ≤ s.length) :
    Con Tryz.Y 128 [.p (some (id, 0))] h (endQ (endS s i) h id s false) := by
  refine conz_of Tryz.Yok (fn := Tryz.f128) (by kernel_rfl) (by kernel_rfl) (end_rule Tryz.Yok (loc := Tryz.Y.loc 128) 100 [2] ?_)
  rw [show (⟨[.p (some (id, 0))] ++ List.replicate (Tryz.f128.ntmps - [V.p (some (id, 0))].length) .undef, [], h⟩ : St) = ⟨.p (some (id, 0)) :: List.replicate 26 .undef, [], h⟩ by rfl, f128_0]
  have bad : (s[i]? = none ∨ s[i]? = some 93 ∨ s[i]? = some 45) → endS s i = .error i := by
    rintro (h | h | h) <;> simp [endS, h]
  have fail : (s[i]? = none ∨ s[i]? = some 93 ∨ s[i]? = some 45) → ∃ h1, hstore h id 2 [.b true] = some h1 ∧ Fin Tryz.Y Tryz.f128 [2] (AfterZ (endQ (endS s i) h id s false)) .ret 27 [.i .u8 0] h1 := by
    intro hb
    obtain ⟨h1, g1, g2, g3⟩ := r.s2 true
    refine ⟨h1, g1, finC (.inr rfl) rfl (.now ?_)⟩
    rw [bad hb]
    exact ⟨0, rfl, g2, g3⟩
  refine ⟨_, peek_con r 93, if_mk (fun hc => fail (.inr (.inl (by simpa using hc)))) (fun hc1 => ?_)⟩
  refine ⟨_, peek_con r 45, if_mk (fun hc => fail (.inr (.inr (by simpa using hc)))) (fun hc2 => ?_)⟩
  refine (next_con r hs hi).mono fun v h' ⟨hv, g1, g2⟩ => ⟨_, hv, ?_⟩
  cases hsi : s[i]? with
  | none =>
    simp only [nextS, hsi] at g1 ⊢
    refine if_mk (fun hc => by simp at hc) (fun _ => finC (.inr rfl) rfl (.now ?_))
    rw [bad (.inl hsi)]
    exact ⟨0, rfl, g1, g2⟩
  | some c =>
    rw [hsi] at hc1 hc2
    have n1 : c ≠ 93 := by simpa using hc1
    have n2 : c ≠ 45 := by simpa using hc2
    simp only [nextS, hsi] at g1 ⊢
    have hlt := (List.getElem?_eq_some_iff.1 hsi).1
    rw [show (92 : Int) = (((92 : UInt8).toNat : Nat) : Int) by decide, u8_eq]
    refine if_mk (fun hc => ?_) (fun hc => ?_)
    · have hc : c = 92 := by simpa using hc
      refine ⟨_, g1.c2, ?_⟩
      show Con Tryz.Y 117 [.p (some (id, 0))] h' _
      refine (next_con g1 hs (by omega)).mono fun v h2 ⟨hv, q1, q2⟩ => ⟨_, hv, finC (.inr rfl) rfl (.now ?_)⟩
      subst hc
      cases hs2 : s[i + 1]? with
      | none =>
        simp only [nextS, hs2] at q1 ⊢
        simp only [endS, hsi, hs2]
        exact ⟨0, rfl, q1, g2.trans q2⟩
      | some d =>
        simp only [nextS, hs2] at q1 ⊢
        simp only [endS, hsi, hs2]
        exact ⟨rfl, q1, g2.trans q2⟩
    · have hc : c ≠ 92 := by simpa using hc
      refine finC (.inr rfl) rfl (.now ?_)
      simp only [endS, hsi, n1, n2, hc, or_self, if_false]
      exact ⟨rfl, g1, g2⟩
end Go.Y

/- Sets and pieces of patterns, by contracts. -/
namespace Go.Y
open Go.Proofs
set_option maxRecDepth 100000

def itemQ (r : Except Nat (Span × Nat)) (h : Heap) (id : Nat) (s : List UInt8) (v : V) (h' : Heap) : Prop := match r with
  | .error e => ∃ x : Span, v = .agg (encS x) ∧ Rd h' id s e true ∧ FrO h id h'
  | .ok (x, j) => v = .agg (encS x) ∧ Rd h' id s j false ∧ FrO h id h'

theorem item_con {h : Heap} {id : Nat} {s : List UInt8} {i : Nat} (r : Rd h id s i false) (hs : s.length < 2 ^ 30) (hi : i ≤ s.length) :
    Con Tryz.Y 124 [.p (some (id, 0))] h (itemQ (itemS s i) h id s) := by
  refine conz_of Tryz.Yok (fn := Tryz.f124) (by kernel_rfl) (by kernel_rfl) (end_rule Tryz.Yok (loc := Tryz.Y.loc 124) 100 [2] ?_)
  rw [show (⟨[.p (some (id, 0))] ++ List.replicate (Tryz.f124.ntmps - [V.p (some (id, 0))].length) .undef, [], h⟩ : St) = ⟨.p (some (id, 0)) :: List.replicate 52 .undef, [], h⟩ by rfl, f124_0]
  refine (end_con r hs hi).mono fun v h1 hq => ?_
  cases he : endS s i with
  | error e =>
    rw [he] at hq
    obtain ⟨n, hv, g1, g2⟩ := hq
    refine ⟨n, hv, _, g1.c2, if_mk (fun _ => finC (.inr rfl) rfl (.now ?_)) (fun hc => by cases hc)⟩
    simp only [itemS, he]
    exact ⟨⟨n, n⟩, rfl, g1, g2⟩
  | ok x =>
    obtain ⟨lo, j⟩ := x
    rw [he] at hq
    obtain ⟨hv, g1, g2⟩ := hq
    have hj := endS_ok he
    refine ⟨lo, hv, _, g1.c2, if_mk (fun hc => by cases hc) (fun _ => ?_)⟩
    refine ⟨_, peek_con g1 45, if_mk (fun hc => ?_) (fun hc => ?_)⟩
    · have hne : ¬ (s[j]? = some 45) := by simpa using hc
      refine finC (.inr rfl) rfl (.now ?_)
      simp only [itemS, he, hne, if_false]
      exact ⟨rfl, g1, g2⟩
    · have heq : s[j]? = some 45 := by simpa using hc
      have hjl := (List.getElem?_eq_some_iff.1 heq).1
      obtain ⟨h2, q1, q2, q3⟩ := g1.s1 (j + 1)
      refine ⟨_, g1.c1, h2, by rw [wrap_succ (by omega)]; exact q1, ?_⟩
      refine (end_con q2 hs (by omega)).mono fun v h3 hq => ?_
      have g23 := g2.trans q3
      cases he2 : endS s (j + 1) with
      | error e =>
        rw [he2] at hq
        obtain ⟨n, hv2, p1, p2⟩ := hq
        refine ⟨n, hv2, _, p1.c2, if_mk (fun hc => by cases hc) (fun _ => finC (.inr rfl) rfl (.now ?_))⟩
        simp only [itemS, he, heq, if_true, he2]
        exact ⟨⟨lo, n⟩, rfl, p1, g23.trans p2⟩
      | ok y =>
        obtain ⟨hi2, k⟩ := y
        rw [he2] at hq
        obtain ⟨hv2, p1, p2⟩ := hq
        have hk := endS_ok he2
        refine ⟨hi2, hv2, _, p1.c2, if_mk (fun _ => if_lt (fun hlt => ?_) (fun hge => ?_)) (fun hc => by cases hc)⟩
        · obtain ⟨h4, u1, u2, u3⟩ := p1.s2 true
          obtain ⟨h5, w1, w2, w3⟩ := u2.s1 (k - 1)
          refine ⟨h4, u1, _, u2.c1, h5, by rw [wrap_ok (by omega) (by omega), show ((k : Int) - 1) = ((k - 1 : Nat) : Int) by omega]; exact w1, finC (.inr rfl) rfl (.now ?_)⟩
          simp only [itemS, he, heq, if_true, he2, hlt]
          exact ⟨⟨lo, hi2⟩, rfl, w2, ((g23.trans p2).trans u3).trans w3⟩
        · refine finC (.inr rfl) rfl (.now ?_)
          have hn : ¬ hi2 < lo := by omega
          simp only [itemS, he, heq, if_true, he2, hn, if_false]
          exact ⟨rfl, p1, g23.trans p2⟩

/-- What 'set' leaves. -/
def setQ (r : Except Nat (List Span × Nat)) (h : Heap) (id : Nat) (s : List UInt8) (v : V) (h' : Heap) : Prop := match r with
  | .error e => v = lst encS [] ∧ Rd h' id s e true ∧ FrO h id h'
  | .ok (l, j) => v = lst encS l ∧ Rd h' id s j false ∧ FrO h id h'

def SetI (h0 : Heap) (id : Nat) (s : List UInt8) (R : Except Nat (List Span × Nat)) (m : Nat) (vs : List V) (h : Heap) : Prop :=
  ∃ (i : Nat) (out : List Span) (a : Option (Nat × Nat)) (l : Nat) (c : Option Nat) (k : Nat), vs = [.p (some (id, 0)), .sl a l c k] ∧ Lst encS 2 h a l c k out ∧ (∀ j, a = some (j, 0) → h0.nx ≤ j) ∧
    Rd h id s i false ∧ FrO h0 id h ∧ i ≤ s.length ∧ out.length ≤ i ∧ s.length - i < m ∧ setS m s i out = R

theorem span_app {h : Heap} {a : Option (Nat × Nat)} {l : Nat} {c : Option Nat} {kk : Nat} {out : List Span} (x : Span) (hl : Lst encS 2 h a l c kk out) (hb : out.length < 2 ^ 29) :
    ∃ a' l' c' k' h', appendH Tryz.Y h 142 142 (.sl a l c kk) (.ts (encS x) 1 (some 1)) = some (.sl a' l' c' k', h') ∧ Lst encS 2 h' a' l' c' k' (out ++ [x]) ∧ Fr h a h' ∧ ∃ j, a' = some (j, 0) ∧ h.nx ≤ j :=
  Lst.app1 (Y := Tryz.Y) (e := 172) (te := ⟨2, 2, .struct [(0, 5), (1, 5)], [.i .u8 0, .i .u8 0]⟩) x (by kernel_rfl) (by kernel_rfl) rfl (by decide) hl (colds1_ok _ rfl) rfl rfl rfl (by decide) hb

theorem set_con {h : Heap} {id : Nat} {s : List UInt8} {i : Nat} (r : Rd h id s i false) (hs : s.length < 2 ^ 28) (hi : i ≤ s.length) :
    Con Tryz.Y 118 [.p (some (id, 0))] h (setQ (setS (s.length + 1) s i []) h id s) := by
  refine conz_of Tryz.Yok (fn := Tryz.f118) (by kernel_rfl) (by kernel_rfl) ?_
  refine pre_rule Tryz.Yok (n := 29) (loc := Tryz.Y.loc 118) 100 [0, 3] (by kernel_rfl) ?_
  rw [show (⟨[.p (some (id, 0))] ++ List.replicate (Tryz.f118.ntmps - [V.p (some (id, 0))].length) .undef, [], h⟩ : St) = ⟨.p (some (id, 0)) :: List.replicate 28 .undef, [], h⟩ by rfl, f118_0]
  generalize hR : setS (s.length + 1) s i [] = R
  refine ⟨rfl, loop2 [0, 3] [0, 2, 3] rfl (by kernel_rfl) (SetI h id s R) (s.length + 1) mk_len ⟨i, [], none, 0, some 0, 0, rfl, Lst.nil _ _ _ _ _, by simp, r, .refl _ _, hi, by simp, by omega, hR⟩ ?_⟩
  rintro m vs h1 ⟨i, out, a, l, c, k, rfl, hL, hnew, hr, hfr, hi, hol, hm, hg⟩
  refine all_rule Tryz.Yok (loc := Tryz.Y.loc 118) 100 [0, 2, 3] ?_
  rw [f118_1]
  obtain ⟨m, rfl⟩ : ∃ m', m = m' + 1 := ⟨m - 1, by omega⟩
  have hll := hL.len
  -- an item
  have item : ∀ (K : Out → Nat → List V → Heap → Prop), K = RoundW Tryz.Y 29 [0, 2, 3] [0, 3] (SetI h id s R) (m + 1) (loopId (post (flat (bodyOf Tryz.f118)))) ((post (flat (bodyOf Tryz.f118))).drop 1) (FinS Tryz.Y Tryz.f118 (AfterZ (setQ R h id s))) →
      ¬ (out ≠ [] ∧ s[i]? = some 93) → Con Tryz.Y 124 [.p (some (id, 0))] h1 fun v h' => ∃ n n_1, v = .agg [.i .u8 n, .i .u8 n_1] ∧ ∃ a' l' c' k' h'', appendH Tryz.Y h' 142 142 (.sl a l c k) (.ts [.i .u8 n, .i .u8 n_1] 1 (some 1)) = some (.sl a' l' c' k', h'') ∧
      ∃ b : Bool, hcells h'' id 2 1 = some [.b b] ∧ If b (K .ret 29 [.p (some (id, 0)), .sl none 0 (some 0) 0, .sl a' l' c' k'] h'') (K .normal 29 [.p (some (id, 0)), .undef, .sl a' l' c' k'] h'') := by
    rintro K rfl hn
    refine (item_con hr (by omega) hi).mono fun v h2 hq => ?_
    have hkeep : FrO h1 id h2 → ∀ j, a = some (j, 0) → j < h1.nx → h2.get j = h1.get j := fun f j hj hl => f.2 j hl (fun e => by have := hnew j hj; have := r.lt; omega)
    have hne : ∀ o, a ≠ some (id, o) := by
      intro o ho
      have h0 := hL.off ho
      subst h0
      have := hnew id ho
      have := r.lt
      omega
    simp only [setS, hn, if_false] at hg
    cases he : itemS s i with
    | error e =>
      rw [he] at hq hg
      obtain ⟨x, rfl, g1, g2⟩ := hq
      obtain ⟨a', l', c', k', h3, q1, q2, q3, j, q4, q5⟩ := span_app x (hL.fr g2.1 (hkeep g2)) (by omega)
      have g1' : Rd h3 id s e true := ⟨by rw [q3.2 id g1.lt hne]; exact g1.get, Nat.lt_of_lt_of_le g1.lt q3.1⟩
      refine ⟨_, _, rfl, a', l', c', k', h3, q1, true, g1'.c2, ?_⟩
      refine fin_at (.inr rfl) rfl ?_
      subst hg
      refine ⟨[], _, .inl (.frz _ _ (.sln _ _ none (fun x hx => by cases hx))), rfl, g1', ?_⟩
      exact (hfr.trans g2).app (hL.fr g2.1 (hkeep g2)) hnew q3
    | ok y =>
      obtain ⟨x, j⟩ := y
      rw [he] at hq hg
      have hj := itemS_ok he
      obtain ⟨rfl, g1, g2⟩ := hq
      obtain ⟨a', l', c', k', h3, q1, q2, q3, jj, q4, q5⟩ := span_app x (hL.fr g2.1 (hkeep g2)) (by omega)
      have g1' : Rd h3 id s j false := ⟨by rw [q3.2 id g1.lt hne]; exact g1.get, Nat.lt_of_lt_of_le g1.lt q3.1⟩
      refine ⟨_, _, rfl, a', l', c', k', h3, q1, false, g1'.c2, rfl, m, by omega, j, out ++ [x], a', l', c', k', rfl, q2, ?_, g1', ?_, hj.2, by simp; omega, by omega, hg⟩
      · intro j' hj'; rw [q4] at hj'; cases hj'
        have := (hfr.trans g2).1
        omega
      · exact (hfr.trans g2).app (hL.fr g2.1 (hkeep g2)) hnew q3
  refine if_mk (fun hc => item _ rfl ?_) (fun hc => ?_)
  · rintro ⟨h1, _⟩
    have : out.length = 0 := by rw [← hll]; simpa using hc
    exact h1 (List.eq_nil_of_length_eq_zero this)
  · have hne : out ≠ [] := by
      intro he; subst he; rw [hll] at hc; simp at hc
    refine ⟨_, peek_con hr 93, if_mk (fun hc2 => item _ rfl ?_) (fun hc2 => ?_)⟩
    · rintro ⟨_, h1⟩; rw [h1] at hc2; simp at hc2
    · have h93 : s[i]? = some 93 := by simpa using hc2
      have hil := (List.getElem?_eq_some_iff.1 h93).1
      simp only [setS, hne, h93, ne_eq, not_false_eq_true, and_self, if_true] at hg
      refine roundW_exit [0, 3] (by kernel_rfl) rfl rfl ?_
      refine end_rule Tryz.Yok (loc := Tryz.Y.loc 118) 100 [2] ?_
      rw [show pick [0, 2, 3] [0, 3] [V.p (some (id, 0)), V.undef, V.sl a l c k] = [V.p (some (id, 0)), V.sl a l c k] by rfl, f118_2]
      obtain ⟨h2, q1, q2, q3⟩ := hr.s1 (i + 1)
      refine ⟨_, hr.c1, h2, by rw [wrap_succ (by omega)]; exact q1, finC (.inr rfl) rfl ?_⟩
      subst hg
      have hL2 := hL.fr (h' := h2) q3.1 (fun j hj hl => q3.2 j hl (fun e => by have := hnew j hj; have := r.lt; omega))
      obtain ⟨D, hz, hD⟩ := hL2.afterZ (by decide) encS_len
      have hDn : ∀ j, j ∈ D → h.nx ≤ j := fun j hj => hnew j (hD j hj)
      refine ⟨D, _, .inl (.frz _ _ hz), rfl, ⟨?_, by rw [killD_nx]; exact q2.lt⟩, ?_⟩
      · rw [killD_get, if_neg (fun hm => by have := hDn id hm; have := r.lt; omega)]; exact q2.get
      · have f := hfr.trans q3
        exact ⟨by rw [killD_nx]; exact f.1, fun j hj hn => by rw [killD_get, if_neg (fun hm => by have := hDn j hm; omega)]; exact f.2 j hj hn⟩
end Go.Y
