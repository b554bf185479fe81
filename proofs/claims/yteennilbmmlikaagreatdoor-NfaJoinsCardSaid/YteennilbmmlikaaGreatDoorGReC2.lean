/- The reader of expressions of the document: pieces, rows, alternatives, Parse. -/
import Derived.Test.YteennilbmmlikaaGreatDoorGReC
namespace Go.Y
open Go.Proofs
set_option maxRecDepth 100000
set_option maxHeartbeats 2000000

abbrev zeroLb : V := .lb [.i .i64 0, .i .u64 0, .i .u64 0, .i .u64 0, .i .u64 0, .sl none 0 (some 0) 0, .i .i64 0, .i .i64 0, .i .i64 0]

theorem pieceC {n : Nat} (ih : ∀ m, m < n → AllC m) {h : Heap} {id : Nat} {s : List UInt8} {i g d : Nat} (r : RdE h id s i g 0) (hs : s.length < 2 ^ 27) (hi : i < s.length) (hg : g ≤ i) (hd : d ≤ 64) (hn : 6 * (s.length - i) + 4 ≤ n) :
    Con Tryz.Y 112 [.p (some (id, 0)), .i .i64 (d : Nat)] h (reQ (pieceE n d s i g) h id s) := by
  obtain ⟨n, rfl⟩ : ∃ m, n = m + 1 := ⟨n - 1, by omega⟩
  refine conz_of Tryz.Yok (fn := Tryz.f112) (by kernel_rfl) (by kernel_rfl) (end_tree Tryz.Yok (fun K => f112_0 id (d : Nat) h K) rfl ?_)
  generalize hR : pieceE (n + 1) d s i g = R
  rw [pieceE] at hR
  refine ((ih n (by omega)).atom r hs hi hg hd (by omega)).mono fun v h1 ⟨x, j, gg, e, hv, u1, u2, u3⟩ => ?_
  subst hv
  obtain ⟨xk, xs, xl, xlo, xhi, xn⟩ := x
  have keep : ∀ (h2 : Heap) (j2 : Nat) (e2 : Int), RdE h2 id s j2 gg e2 → FrO h id h2 → ((e2 = 0 ∧ R = .ok (.mk xk xs xl xlo xhi xn, j2, gg)) ∨ (e2 ≠ 0 ∧ R = .error (e2, j2))) →
      Go.Y.Fin Tryz.Y Tryz.f112 [4] (AfterZ (reQ R h id s)) .ret 88 [.lb [.i .i64 xk, .i .u64 xs.1, .i .u64 xs.2.1, .i .u64 xs.2.2.1, .i .u64 xs.2.2.2, lst encRe xl, .i .i64 xlo, .i .i64 xhi, .i .i64 xn]] h2 := fun h2 j2 e2 q1 q2 q3 =>
    finC (.inr rfl) rfl (.now (by rw [← agg_mk]; exact ⟨_, j2, gg, e2, rfl, q1, q2, q3⟩))
  rcases u3 with ⟨rfl, hr⟩ | ⟨he, hr⟩
  · rw [hr] at hR; simp only [] at hR
    have hj := (prog_all s n).2.2.2.2 hr (by omega) hg
    refine ⟨_, _, _, _, _, _, _, _, _, _, _, agg_mk _ _ _ _ _ _, _, u1.c3, if_mk (fun hc => by simp at hc) (fun _ => ⟨_, u1.c1, _, u1.c0, if_le (fun hle => ?_) (fun hlt => ?_)⟩)⟩
    · have hn1 : s[j]? = none := List.getElem?_eq_none (by omega)
      rw [hn1] at hR
      exact keep h1 j 0 u1 u2 (.inl ⟨rfl, hR.symm⟩)
    have hl : j < s.length := by omega
    have hn1 : s[j]? = some s[j] := by simp [hl]
    rw [hn1] at hR; simp only [] at hR
    refine ⟨_, u1.c0, _, u1.c1, s[j], at_lt hl, ?_⟩
    -- repeated
    have kinds : isRep s[j] = true → ∀ body : Prop, ((if s[j] = 42 then (.ok (.mk 6 (0, 0, 0, 0) [.mk xk xs xl xlo xhi xn] 0 (-1) 0, j + 1, gg) : PR Re) else if s[j] = 43 then .ok (.mk 6 (0, 0, 0, 0) [.mk xk xs xl xlo xhi xn] 1 (-1) 0, j + 1, gg) else if s[j] = 63 then .ok (.mk 6 (0, 0, 0, 0) [.mk xk xs xl xlo xhi xn] 0 1 0, j + 1, gg) else match bracesS s (j + 1) with | .error e => .error (1, e) | .ok (lo, hi, j) => .ok (.mk 6 (0, 0, 0, 0) [.mk xk xs xl xlo xhi xn] lo hi 0, j, gg)) = R → body) →
        If (xk == 2) (Con Tryz.Y 28 [.p (some (id, 0)), .i .i64 1] h1 fun v h' => v = .tup [] ∧ Go.Y.Fin Tryz.Y Tryz.f112 [4] (AfterZ (reQ R h id s)) .ret 88 [.lb [.i .i64 xk, .i .u64 xs.1, .i .u64 xs.2.1, .i .u64 xs.2.2.1, .i .u64 xs.2.2.2, lst encRe xl, .i .i64 xlo, .i .i64 xhi, .i .i64 xn]] h')
          (If (xk == 3) (Con Tryz.Y 28 [.p (some (id, 0)), .i .i64 1] h1 fun v h' => v = .tup [] ∧ Go.Y.Fin Tryz.Y Tryz.f112 [4] (AfterZ (reQ R h id s)) .ret 88 [.lb [.i .i64 xk, .i .u64 xs.1, .i .u64 xs.2.1, .i .u64 xs.2.2.1, .i .u64 xs.2.2.2, lst encRe xl, .i .i64 xlo, .i .i64 xhi, .i .i64 xn]] h') body) := by
      intro hrep body hb
      rw [if_pos hrep] at hR
      have bad : (xk = 2 ∨ xk = 3) → Con Tryz.Y 28 [.p (some (id, 0)), .i .i64 1] h1 fun v h' => v = .tup [] ∧ Go.Y.Fin Tryz.Y Tryz.f112 [4] (AfterZ (reQ R h id s)) .ret 88 [.lb [.i .i64 xk, .i .u64 xs.1, .i .u64 xs.2.1, .i .u64 xs.2.2.1, .i .u64 xs.2.2.2, lst encRe xl, .i .i64 xlo, .i .i64 xhi, .i .i64 xn]] h' := fun hk =>
        failE0 u1 1 fun h' w1 w2 => ⟨rfl, keep h' j 1 w1 (u2.trans w2) (.inr ⟨by decide, by rw [if_pos (show (Re.mk xk xs xl xlo xhi xn).kind = 2 ∨ (Re.mk xk xs xl xlo xhi xn).kind = 3 from hk)] at hR; exact hR.symm⟩)⟩
      refine if_mk (fun k2 => bad (.inl (by simpa using k2))) (fun k2 => if_mk (fun k3 => bad (.inr (by simpa using k3))) (fun k3 => hb ?_))
      have k2 : xk ≠ 2 := by simpa using k2
      have k3 : xk ≠ 3 := by simpa using k3
      rw [if_neg (fun hk : (Re.mk xk xs xl xlo xhi xn).kind = 2 ∨ (Re.mk xk xs xl xlo xhi xn).kind = 3 => hk.elim k2 k3)] at hR
      exact hR
    have rep : ∀ (h2 : Heap) (lo hi : Int) (j2 : Nat) (e2 : Int), RdE h2 id s j2 gg e2 → FrO h id h2 → ((e2 = 0 ∧ R = .ok (.mk 6 (0, 0, 0, 0) [.mk xk xs xl xlo xhi xn] lo hi 0, j2, gg)) ∨ (e2 ≠ 0 ∧ R = .error (e2, j2))) →
        Go.Y.Fin Tryz.Y Tryz.f112 [4] (AfterZ (reQ R h id s)) .ret 88 [.lb [.i .i64 6, .i .u64 0, .i .u64 0, .i .u64 0, .i .u64 0, .ts [.i .i64 xk, .i .u64 xs.1, .i .u64 xs.2.1, .i .u64 xs.2.2.1, .i .u64 xs.2.2.2, lst encRe xl, .i .i64 xlo, .i .i64 xhi, .i .i64 xn] 1 (some 1), .i .i64 lo, .i .i64 hi, .i .i64 0]] h2 := fun h2 lo hi j2 e2 q1 q2 q3 =>
      finC (.inr rfl) rfl (re_fin (D := []) 6 lo hi 0 (0, 0, 0, 0) [.mk xk xs xl xlo xhi xn] (frz_oneRe _ _ (encRe_mk _ _ _ _ _ _) _) ⟨_, j2, gg, e2, rfl, q1, q2, q3⟩)
    obtain ⟨h2, g1, g2, g3⟩ := u1.s1 (j + 1)
    have st : hstore h1 id 1 [.i .i64 (IntKind.i64.wrap (((j : Nat) : Int) + 1))] = some h2 := by rw [wrap_succ (by omega)]; exact g1
    have fr2 := u2.trans g3
    refine if_mk (fun c1 => if_mk (fun c2 => if_mk (fun c3 => if_mk (fun c4 => ?_) (fun c4 => ?_)) (fun c3 => ?_)) (fun c2 => ?_)) (fun c1 => ?_)
    · have d1 := u8_false (c := s[j]) (d := 42) (by simpa using c1)
      have d2 := u8_false (c := s[j]) (d := 43) (by simpa using c2)
      have d3 := u8_false (c := s[j]) (d := 63) (by simpa using c3)
      have d4 := u8_false (c := s[j]) (d := 123) (by simpa using c4)
      rw [if_neg (by simp [isRep, d1, d2, d3, d4])] at hR
      exact keep h1 j 0 u1 u2 (.inl ⟨rfl, hR.symm⟩)
    · have d4 := u8_true (c := s[j]) (d := 123) (by simpa using c4)
      rw [d4] at kinds ⊢
      refine kinds rfl _ fun hR => ⟨_, u1.c1, h2, st, ifF rfl (ifF rfl (ifT rfl ?_))⟩
      rw [if_neg (by decide), if_neg (by decide), if_neg (by decide)] at hR
      refine (bracesE_con g2 (by omega)).mono fun v h3 hq => ?_
      cases hb : bracesS s (j + 1) with
      | error e =>
        rw [hb] at hq hR
        obtain ⟨rfl, w1, w2⟩ := hq
        exact ⟨_, _, rfl, rep h3 _ _ e 1 w1 (fr2.trans w2) (.inr ⟨by decide, hR.symm⟩)⟩
      | ok y =>
        obtain ⟨lo, hi2, j2⟩ := y
        rw [hb] at hq hR
        obtain ⟨rfl, w1, w2⟩ := hq
        exact ⟨_, _, rfl, rep h3 _ _ j2 0 w1 (fr2.trans w2) (.inl ⟨rfl, hR.symm⟩)⟩
    · have d3 := u8_true (c := s[j]) (d := 63) (by simpa using c3)
      rw [d3] at kinds ⊢
      refine kinds rfl _ fun hR => ⟨_, u1.c1, h2, st, ifF rfl (ifT rfl (ifF rfl ?_))⟩
      exact rep h2 0 1 (j + 1) 0 g2 fr2 (.inl ⟨rfl, hR.symm⟩)
    · have d2 := u8_true (c := s[j]) (d := 43) (by simpa using c2)
      rw [d2] at kinds ⊢
      refine kinds rfl _ fun hR => ⟨_, u1.c1, h2, st, ifT rfl (ifF rfl (ifF rfl ?_))⟩
      exact rep h2 1 (-1) (j + 1) 0 g2 fr2 (.inl ⟨rfl, hR.symm⟩)
    · have d1 := u8_true (c := s[j]) (d := 42) (by simpa using c1)
      rw [d1] at kinds ⊢
      refine kinds rfl _ fun hR => ⟨_, u1.c1, h2, st, ifF rfl (ifF rfl (ifF rfl ?_))⟩
      exact rep h2 0 (-1) (j + 1) 0 g2 fr2 (.inl ⟨rfl, hR.symm⟩)
  · rw [hr] at hR
    exact ⟨_, _, _, _, _, _, _, _, _, _, _, agg_mk _ _ _ _ _ _, _, u1.c3, if_mk (fun _ => keep h1 j e u1 u2 (.inr ⟨he, hR.symm⟩)) (fun hc => absurd (by simpa using hc) he)⟩

theorem one_cells (k : Int) (st : S4) (kids : List Re) (lo hi n : Int) : takeX 9 (List.drop 0 (row encRe [.mk k st kids lo hi n])) = some [.i .i64 k, .i .u64 st.1, .i .u64 st.2.1, .i .u64 st.2.2.1, .i .u64 st.2.2.2, lst encRe kids, .i .i64 lo, .i .i64 hi, .i .i64 n] := by
  have := row_get (f := encRe) (k := 9) encRe_len (l := [.mk k st kids lo hi n]) (i := 0) (by simp)
  rw [Nat.zero_mul] at this
  rw [this]
  show some (encRe (.mk k st kids lo hi n)) = _
  rw [encRe_mk]
theorem sev_many (k : Int) {out : List Re} (h : 2 ≤ out.length) : sevS k out = .mk k (0, 0, 0, 0) out 0 0 0 := by
  match out, h with
  | _ :: _ :: _, _ => rfl

def RowI (h0 : Heap) (id : Nat) (s : List UInt8) (d : Nat) (R : PR Re) (N m : Nat) (vs : List V) (h : Heap) : Prop :=
  ∃ (a : Option (Nat × Nat)) (l : Nat) (c : Option Nat) (k : Nat) (out : List Re) (i g : Nat) (e : Int), vs = [.p (some (id, 0)), .i .i64 (d : Nat), zeroLb, .sl a l c k] ∧ LX encRe 9 h a l c k out ∧ (∀ j, a = some (j, 0) → h0.nx ≤ j) ∧
    RdE h id s i g e ∧ FrO h0 id h ∧ out.length ≤ s.length + 1 ∧ ((e = 0 ∧ i ≤ s.length ∧ g ≤ i ∧ out.length ≤ i ∧ 6 * (s.length - i) + 5 ≤ m ∧ m ≤ N ∧ rowE m d s i g out = R) ∨ (e ≠ 0 ∧ R = .error (e, i)))

theorem rowC {n : Nat} (ih : ∀ m, m < n → AllC m) {h : Heap} {id : Nat} {s : List UInt8} {i g d : Nat} (r : RdE h id s i g 0) (hs : s.length < 2 ^ 27) (hi : i ≤ s.length) (hg : g ≤ i) (hd : d ≤ 64) (hn : 6 * (s.length - i) + 5 ≤ n) :
    Con Tryz.Y 67 [.p (some (id, 0)), .i .i64 (d : Nat)] h (reQ (rowE n d s i g []) h id s) := by
  refine conz_of Tryz.Yok (fn := Tryz.f67) (by kernel_rfl) (by kernel_rfl) (pre_tree Tryz.Yok 65 (fun K => f67_0 id (d : Nat) h K) rfl (by kernel_rfl) ?_)
  generalize hR : rowE n d s i g [] = R
  refine ⟨rfl, loop2 [0, 1, 4, 5] [0, 1, 4, 5] rfl (by kernel_rfl) (RowI h id s d R n) n mk_len ⟨none, 0, some 0, 0, [], i, g, 0, rfl, LX.start _ _ _ _ _, by simp, r, .refl _ _, by simp, .inl ⟨rfl, hi, hg, by simp, hn, Nat.le_refl _, hR⟩⟩ ?_⟩
  have hid := r.lt
  clear r hi hg hn hR
  rintro m vs h1 ⟨a, l, c, k, out, j, gg, e, rfl, hL, hnew, hr, hfr, hol, hst⟩
  refine all_tree Tryz.Yok (fun K => f67_1 id (d : Nat) a l c k h1 K) rfl ?_
  have stop : ((e = 0 ∧ R = .ok (sevS 4 out, j, gg)) ∨ (e ≠ 0 ∧ R = .error (e, j))) → RoundW Tryz.Y 65 [0, 1, 4, 5] [0, 1, 4, 5] (RowI h id s d R n) m (loopId (post (flat (bodyOf Tryz.f67)))) ((post (flat (bodyOf Tryz.f67))).drop 1) (FinS Tryz.Y Tryz.f67 (AfterZ (reQ R h id s))) (.exit 0) 65
      [.p (some (id, 0)), .i .i64 (d : Nat), zeroLb, .sl a l c k] h1 := fun hf => by
    refine roundW_exit [4, 5] (by kernel_rfl) rfl rfl ?_
    have hq : ∀ D : List Nat, (∀ x, x ∈ D → h.nx ≤ x) → reQ R h id s (.agg (encRe (sevS 4 out))) (killD h1 D) := fun D hD => ⟨_, j, gg, e, rfl, hr.kill hD hid, hfr.kill hD, hf⟩
    have hlen := hL.len
    by_cases hne : out = []
    · have ha := hL.nil hne
      subst hne ha hlen
      refine end_tree Tryz.Yok (fun K => f227_2n c k h1 K) rfl ?_
      exact finC (.inr rfl) rfl (zero_fin (hq [] (by simp)))
    · obtain ⟨q, rfl, rfl, hq1, hq2, hq3⟩ := hL.cells hne
      refine end_tree Tryz.Yok (fun K => f67_2 q l c 9 h1 K) rfl ?_
      have hpos : out.length ≠ 0 := fun h0 => hne (List.eq_nil_of_length_eq_zero h0)
      refine if_mk (fun h0 => ?_) (fun h0 => if_mk (fun h1' => ?_) (fun h1' => ?_))
      · have : (l : Int) = 0 := by simpa using h0
        omega
      · have h1' : (l : Int) = 1 := by simpa using h1'
        obtain ⟨x, rfl⟩ := List.length_eq_one_iff.1 (show out.length = 1 by omega)
        obtain ⟨xk, xs, xl, xlo, xhi, xn⟩ := x
        refine ⟨⟨by omega, by omega⟩, rfl, _, _, _, _, _, _, _, _, _, _, _, (hcells_of hq2 0 9).trans (one_cells _ _ _ _ _ _), finC (.inr rfl) rfl (.now ?_)⟩
        rw [← agg_mk]
        exact hq [] (by simp)
      · have h1' : (l : Int) ≠ 1 := by simpa using h1'
        obtain ⟨D, hz, hD⟩ := hL.afterZ (by decide) encRe_len encRe_cold
        refine finC (.inr rfl) rfl (re_fin (D := D) 4 0 0 0 (0, 0, 0, 0) out (.frz _ _ hz) ?_)
        rw [← sev_many 4 (by omega)]
        exact hq D fun x hx => hnew x (hD x hx)
  refine ⟨_, hr.c3, if_mk (fun h0 => ?_) (fun h0 => stop ?_)⟩
  · have h0 : e = 0 := by simpa using h0
    rcases hst with ⟨_, hj, hgg, hoj, hm, hmN, hR⟩ | ⟨he, _⟩
    · subst h0
      obtain ⟨m, rfl⟩ : ∃ m', m = m' + 1 := ⟨m - 1, by omega⟩
      rw [rowE] at hR
      refine ⟨_, hr.c1, _, hr.c0, if_lt_nat (fun hlt => ?_) (fun hge => stop (.inl ⟨rfl, ?_⟩))⟩
      · have hsj : s[j]? = some s[j] := by simp [hlt]
        rw [hsj] at hR; simp only [] at hR
        refine ⟨_, hr.c0, _, hr.c1, s[j], at_lt hlt, if_mk (fun c1 => ⟨_, hr.c0, _, hr.c1, s[j], at_lt hlt, if_mk (fun c2 => ?_) (fun c2 => stop (.inl ⟨rfl, ?_⟩))⟩) (fun c1 => stop (.inl ⟨rfl, ?_⟩))⟩
        · have c1 := u8_false (c := s[j]) (d := 124) (by simpa using c1)
          have c2 := u8_false (c := s[j]) (d := 41) (by simpa using c2)
          rw [if_neg (fun hc => hc.elim c1 c2)] at hR
          refine ((ih m (by omega)).piece hr hs hlt hgg hd (by omega)).mono fun v h2 ⟨x, j2, g2, e2, hv, u1, u2, u3⟩ => ?_
          subst hv
          obtain ⟨xk, xs, xl, xlo, xhi, xn⟩ := x
          obtain ⟨a', l', c', k', h3, q1, q2, q3, q, q4, q5⟩ := re_app (.mk xk xs xl xlo xhi xn) (encRe_mk _ _ _ _ _ _) (hL.keep hnew hid u2) (by omega)
          have hnew' : ∀ x, a' = some (x, 0) → h.nx ≤ x := fun x hx => by rw [q4] at hx; cases hx; have := hfr.1; have := u2.1; omega
          have u1' := u1.app q3 fun o => hL.ne hnew hid
          have fr' := (hL.keep hnew hid u2).frO hnew (hfr.trans u2) q3
          have hlen' : (out ++ [Re.mk xk xs xl xlo xhi xn]).length ≤ s.length + 1 := by simp; omega
          rcases u3 with ⟨rfl, hr2⟩ | ⟨he2, hr2⟩
          · rw [hr2] at hR; simp only [] at hR
            have hp := (prog_all s m).2.2.2.1 hr2 (by omega) hgg
            exact ⟨_, _, _, _, _, _, _, _, _, _, _, agg_mk _ _ _ _ _ _, a', l', c', k', h3, q1, rfl, m, by omega, a', l', c', k', _, j2, g2, 0, rfl, q2, hnew', u1', fr', hlen', .inl ⟨rfl, by omega, by omega, by simp; omega, by omega, by omega, hR⟩⟩
          · rw [hr2] at hR
            exact ⟨_, _, _, _, _, _, _, _, _, _, _, agg_mk _ _ _ _ _ _, a', l', c', k', h3, q1, rfl, m, by omega, a', l', c', k', _, j2, g2, e2, rfl, q2, hnew', u1', fr', hlen', .inr ⟨he2, hR.symm⟩⟩
        · have c2 := u8_true (c := s[j]) (d := 41) (by simpa using c2)
          rw [if_pos (.inr c2)] at hR; exact hR.symm
        · have c1 := u8_true (c := s[j]) (d := 124) (by simpa using c1)
          rw [if_pos (.inl c1)] at hR; exact hR.symm
      · rw [List.getElem?_eq_none (by omega)] at hR; exact hR.symm
    · exact absurd h0 he
  · have h0 : e ≠ 0 := by simpa using h0
    rcases hst with ⟨he, _⟩ | hst
    · exact absurd he h0
    · exact .inr hst

def AltI (h0 : Heap) (id : Nat) (s : List UInt8) (d : Nat) (R : PR Re) (N m : Nat) (vs : List V) (h : Heap) : Prop :=
  ∃ (q : Nat) (l : Nat) (c : Option Nat) (out : List Re) (i g : Nat) (e : Int), vs = [.p (some (id, 0)), .i .i64 (d : Nat), zeroLb, .sl (some (q, 0)) l c 9] ∧ LX encRe 9 h (some (q, 0)) l c 9 out ∧ out ≠ [] ∧ h0.nx ≤ q ∧
    RdE h id s i g e ∧ FrO h0 id h ∧ out.length ≤ s.length + 2 ∧ ((e = 0 ∧ i ≤ s.length ∧ g ≤ i ∧ out.length ≤ i + 1 ∧ 6 * (s.length - i) + 5 ≤ m ∧ m < N ∧ altsE m d s i g out = R) ∨ (e ≠ 0 ∧ R = .error (e, i)))

theorem altC {n : Nat} (ih : ∀ m, m < n → AllC m) {h : Heap} {id : Nat} {s : List UInt8} {i g d : Nat} (r : RdE h id s i g 0) (hs : s.length < 2 ^ 27) (hi : i ≤ s.length) (hg : g ≤ i) (hd : d ≤ 64) (hn : 6 * (s.length - i) + 6 ≤ n) :
    Con Tryz.Y 27 [.p (some (id, 0)), .i .i64 (d : Nat)] h (reQ (altE n d s i g) h id s) := by
  obtain ⟨n, rfl⟩ : ∃ m, n = m + 1 := ⟨n - 1, by omega⟩
  refine conz_of Tryz.Yok (fn := Tryz.f27) (by kernel_rfl) (by kernel_rfl) (pre_tree Tryz.Yok 33 (fun K => f27_0 id (d : Nat) h K) rfl (by kernel_rfl) ?_)
  generalize hR : altE (n + 1) d s i g = R
  rw [altE] at hR
  refine ((ih n (by omega)).row r hs hi hg hd (by omega)).mono fun v h1 ⟨x, j, gg, e, hv, u1, u2, u3⟩ => ?_
  subst hv
  obtain ⟨xk, xs, xl, xlo, xhi, xn⟩ := x
  have hid := r.lt
  have hL0 : LX encRe 9 (h1.push (.arr (encRe (.mk xk xs xl xlo xhi xn)) true)) (some (h1.nx, 0)) 1 (some 1) 9 [.mk xk xs xl xlo xhi xn] := LX.one _ _ _ _
  rw [encRe_mk] at hL0
  have u1' : RdE (h1.push (.arr [.i .i64 xk, .i .u64 xs.1, .i .u64 xs.2.1, .i .u64 xs.2.2.1, .i .u64 xs.2.2.2, lst encRe xl, .i .i64 xlo, .i .i64 xhi, .i .i64 xn] true)) id s j gg e := ⟨by rw [Heap.get_push, if_neg (by have := u1.lt; omega)]; exact u1.get, by have := u1.lt; simp; omega⟩
  have u2' : FrO h id (h1.push (.arr [.i .i64 xk, .i .u64 xs.1, .i .u64 xs.2.1, .i .u64 xs.2.2.1, .i .u64 xs.2.2.2, lst encRe xl, .i .i64 xlo, .i .i64 xhi, .i .i64 xn] true)) := ⟨by have := u2.1; simp; omega, fun q hq hne => by rw [Heap.get_push, if_neg (by have := u2.1; omega)]; exact u2.2 q hq hne⟩
  refine ⟨_, _, _, _, _, _, _, _, _, _, _, agg_mk _ _ _ _ _ _, rfl, loop2 [0, 1, 4, 5] [0, 1, 4, 5] rfl (by kernel_rfl) (AltI h id s d R (n + 1)) n mk_len ⟨h1.nx, 1, some 1, _, j, gg, e, rfl, hL0, by simp, u2.1, u1', u2', by simp, ?_⟩ ?_⟩
  · rcases u3 with ⟨rfl, hr⟩ | ⟨he, hr⟩
    · have hp := (prog_all s n).2.2.1 hr hi hg
      rw [hr] at hR
      exact .inl ⟨rfl, by omega, by omega, by simp, by omega, by omega, hR⟩
    · rw [hr] at hR
      exact .inr ⟨he, hR.symm⟩
  clear r hi hg hn hR u1 u2 u3 hL0 u1' u2'
  rintro m vs h1 ⟨q, l, c, out, j, gg, e, rfl, hL, hne, hqn, hr, hfr, hol, hst⟩
  refine all_tree Tryz.Yok (fun K => f27_1 id (d : Nat) q l c 9 h1 K) rfl ?_
  have hnew : ∀ x, (some (q, 0) : Option (Nat × Nat)) = some (x, 0) → h.nx ≤ x := fun x hx => by cases hx; exact hqn
  have stop : ((e = 0 ∧ R = .ok (sevS 5 out, j, gg)) ∨ (e ≠ 0 ∧ R = .error (e, j))) → RoundW Tryz.Y 33 [0, 1, 4, 5] [0, 1, 4, 5] (AltI h id s d R (n + 1)) m (loopId (post (flat (bodyOf Tryz.f27)))) ((post (flat (bodyOf Tryz.f27))).drop 1) (FinS Tryz.Y Tryz.f27 (AfterZ (reQ R h id s))) (.exit 0) 33
      [.p (some (id, 0)), .i .i64 (d : Nat), zeroLb, .sl (some (q, 0)) l c 9] h1 := fun hf => by
    refine roundW_exit [4, 5] (by kernel_rfl) rfl rfl ?_
    have hq : ∀ D : List Nat, (∀ x, x ∈ D → h.nx ≤ x) → reQ R h id s (.agg (encRe (sevS 5 out))) (killD h1 D) := fun D hD => ⟨_, j, gg, e, rfl, hr.kill hD hid, hfr.kill hD, hf⟩
    have hlen := hL.len
    obtain ⟨q', hq', _, hq1, hq2, hq3⟩ := hL.cells hne
    cases hq'
    refine end_tree Tryz.Yok (fun K => f27_2 q l c 9 h1 K) rfl ?_
    have hpos : out.length ≠ 0 := fun h0 => hne (List.eq_nil_of_length_eq_zero h0)
    refine if_mk (fun h1' => ?_) (fun h1' => ?_)
    · have h1' : (l : Int) = 1 := by simpa using h1'
      obtain ⟨x, rfl⟩ := List.length_eq_one_iff.1 (show out.length = 1 by omega)
      obtain ⟨xk, xs, xl, xlo, xhi, xn⟩ := x
      refine ⟨⟨by omega, by omega⟩, rfl, _, _, _, _, _, _, _, _, _, _, _, (hcells_of hq2 0 9).trans (one_cells _ _ _ _ _ _), finC (.inr rfl) rfl (.now ?_)⟩
      rw [← agg_mk]
      exact hq [] (by simp)
    · have h1' : (l : Int) ≠ 1 := by simpa using h1'
      obtain ⟨D, hz, hD⟩ := hL.afterZ (by decide) encRe_len encRe_cold
      refine finC (.inr rfl) rfl (re_fin (D := D) 5 0 0 0 (0, 0, 0, 0) out (.frz _ _ hz) ?_)
      rw [← sev_many 5 (by omega)]
      exact hq D fun x hx => hnew x (hD x hx)
  refine ⟨_, isE_con hr 124, if_mk (fun hb => ?_) (fun hb => stop ?_)⟩
  · have h0 : e = 0 ∧ s[j]? = some 124 := by simpa using hb
    obtain ⟨rfl, h124⟩ := h0
    rcases hst with ⟨_, hj, hgg, hoj, hm, hmN, hR⟩ | ⟨he, _⟩
    · obtain ⟨m, rfl⟩ : ∃ m', m = m' + 1 := ⟨m - 1, by omega⟩
      rw [altsE, if_pos h124] at hR
      have hlt := (List.getElem?_eq_some_iff.1 h124).1
      obtain ⟨h2, g1, g2, g3⟩ := hr.s1 (j + 1)
      have hL2 := hL.keep hnew hid g3
      refine ⟨_, hr.c1, h2, by rw [wrap_succ (by omega)]; exact g1, ?_⟩
      refine ((ih m (by omega)).row g2 hs (by omega) (by omega) hd (by omega)).mono fun v h3 ⟨x, j2, gg2, e2, hv, u1, u2, u3⟩ => ?_
      subst hv
      obtain ⟨xk, xs, xl, xlo, xhi, xn⟩ := x
      have hL3 := hL2.keep hnew hid u2
      obtain ⟨a', l', c', k', h4, q1, q2, q3, q', q4, q5⟩ := re_app (.mk xk xs xl xlo xhi xn) (encRe_mk _ _ _ _ _ _) hL3 (by omega)
      subst q4
      obtain ⟨_, _, hk', _⟩ := q2.cells (by simp)
      subst hk'
      have hq' : h.nx ≤ q' := by have := hfr.1; have := g3.1; have := u2.1; omega
      have u1' := u1.app q3 fun o => hL3.ne hnew hid
      have fr' := hL3.frO hnew ((hfr.trans g3).trans u2) q3
      have hlen' : (out ++ [Re.mk xk xs xl xlo xhi xn]).length ≤ s.length + 2 := by simp; omega
      rcases u3 with ⟨rfl, hr2⟩ | ⟨he2, hr2⟩
      · rw [hr2] at hR; simp only [] at hR
        have hp := (prog_all s m).2.2.1 hr2 (by omega) (by omega)
        exact ⟨_, _, _, _, _, _, _, _, _, _, _, agg_mk _ _ _ _ _ _, _, l', c', _, h4, q1, rfl, m, by omega, q', l', c', _, j2, gg2, 0, rfl, q2, by simp, hq', u1', fr', hlen', .inl ⟨rfl, by omega, by omega, by simp; omega, by omega, by omega, hR⟩⟩
      · rw [hr2] at hR
        exact ⟨_, _, _, _, _, _, _, _, _, _, _, agg_mk _ _ _ _ _ _, _, l', c', _, h4, q1, rfl, m, by omega, q', l', c', _, j2, gg2, e2, rfl, q2, by simp, hq', u1', fr', hlen', .inr ⟨he2, hR.symm⟩⟩
    · exact absurd rfl he
  · rcases hst with ⟨rfl, hj, hgg, hoj, hm, hmN, hR⟩ | hst
    · have h124 : s[j]? ≠ some 124 := by simpa using hb
      obtain ⟨m, rfl⟩ : ∃ m', m = m' + 1 := ⟨m - 1, by omega⟩
      rw [altsE, if_neg h124] at hR
      exact .inl ⟨rfl, hR.symm⟩
    · exact .inr hst

theorem allC (n : Nat) : AllC n := by
  induction n using Nat.strongRecOn with
  | ind n ih => exact ⟨altC ih, rowC ih, pieceC ih, atomC ih⟩

def erV : Except (Int × Nat) Re → V
  | .error (e, p) => .tup [.agg (encRe zeroRe), .i .i64 (p : Nat), .i .i64 e]
  | .ok x => .tup [.agg (encRe x), .i .i64 0, .i .i64 0]
def parseER (s : List UInt8) : V := erV (parseE s)

theorem frz_aggRe (h : Heap) (x : Re) : Frz h (.agg (encRe x)) (.agg (encRe x)) := .agg _ _ (colds1_ok _ (encRe_cold x))
theorem frz_aggZ (h : Heap) : Frz h (.agg [.i .i64 0, .i .u64 0, .i .u64 0, .i .u64 0, .i .u64 0, .sl none 0 (some 0) 0, .i .i64 0, .i .i64 0, .i .i64 0]) (.agg (encRe zeroRe)) := by
  unfold zeroRe
  rw [encRe_mk]
  exact .agg _ _ (.cons _ _ _ _ (.i _ _) (.cons _ _ _ _ (.i _ _) (.cons _ _ _ _ (.i _ _) (.cons _ _ _ _ (.i _ _) (.cons _ _ _ _ (.i _ _) (.cons _ _ _ _ (.sln _ _ none (fun x hx => by cases hx)) (.cons _ _ _ _ (.i _ _) (.cons _ _ _ _ (.i _ _) (.cons _ _ _ _ (.i _ _) .nil)))))))))

theorem parseE_con (s : List UInt8) : PCon Tryz.Y 8 [.s s] (· = parseER s) := by
  refine tree_con Tryz.Yok (fn := Tryz.f8) (by kernel_rfl) (by kernel_rfl) rfl (fun K => f8_0 s .empty K) rfl ?_
  unfold parseER
  generalize hP : parseE s = P
  unfold parseE at hP
  refine if_lt (fun hlt => ?_) (fun hge => ?_)
  · rw [if_pos (by omega)] at hP
    subst hP
    exact fin3Z (.inr rfl) rfl (frz_aggZ _) (.i _ _) (.i _ _) rfl
  rw [if_neg (by omega)] at hP
  have r : RdE (Heap.empty.push (.arr [.s s, .i .i64 0, .i .i64 0, .i .i64 0] true)) Heap.empty.nx s 0 0 0 := ⟨by rw [Heap.get_push, if_pos rfl]; rfl, by simp⟩
  refine ((allC (6 * s.length + 10)).alt (d := 0) r (by omega) (by omega) (by omega) (by omega) (by omega)).mono fun v h1 ⟨x, j, g, e, hv, u1, u2, u3⟩ => ?_
  subst hv
  obtain ⟨xk, xs, xl, xlo, xhi, xn⟩ := x
  have good : ∀ h2 : Heap, P = .ok (.mk xk xs xl xlo xhi xn) → Go.Y.Fin Tryz.Y Tryz.f8 [2, 3, 4] (fun v h => ∃ r, Frz h v r ∧ r = erV P) .ret 47
      [.lb [.i .i64 xk, .i .u64 xs.1, .i .u64 xs.2.1, .i .u64 xs.2.2.1, .i .u64 xs.2.2.2, lst encRe xl, .i .i64 xlo, .i .i64 xhi, .i .i64 xn], .i .i64 0, .i .i64 0] h2 := fun h2 hp => by
    subst hp
    refine fin3Z (.inr rfl) rfl ?_ (.i _ _) (.i _ _) rfl
    rw [← agg_mk]; exact frz_aggRe _ _
  have bad : ∀ (h2 : Heap) (p : Nat) (e : Int), P = .error (e, p) → Go.Y.Fin Tryz.Y Tryz.f8 [2, 3, 4] (fun v h => ∃ r, Frz h v r ∧ r = erV P) .ret 47
      [.lb [.i .i64 0, .i .u64 0, .i .u64 0, .i .u64 0, .i .u64 0, .sl none 0 (some 0) 0, .i .i64 0, .i .i64 0, .i .i64 0], .i .i64 (p : Nat), .i .i64 e] h2 := fun h2 p e hp => by
    subst hp
    exact fin3Z (.inr rfl) rfl (frz_aggZ _) (.i _ _) (.i _ _) rfl
  refine ⟨_, _, _, _, _, _, _, _, _, _, _, agg_mk _ _ _ _ _ _, _, u1.c3, ?_⟩
  rcases u3 with ⟨rfl, hr⟩ | ⟨he, hr⟩
  · rw [hr] at hP; simp only [] at hP
    refine if_mk (fun _ => ⟨_, u1.c1, if_lt_nat (fun hlt => ?_) (fun hge2 => ⟨_, u1.c3, if_mk (fun hc => by simp at hc) (fun _ => good h1 ?_)⟩)⟩) (fun hc => by simp at hc)
    · rw [if_pos hlt] at hP
      exact failE0 u1 1 fun h2 w1 w2 => ⟨rfl, _, w1.c3, if_mk (fun _ => ⟨_, w1.c1, _, w1.c3, bad h2 j 1 hP.symm⟩) (fun hc => by simp at hc)⟩
    · rw [if_neg (by omega)] at hP; exact hP.symm
  · rw [hr] at hP
    refine if_mk (fun hc => absurd (by simpa using hc) he) (fun _ => ⟨_, u1.c3, if_mk (fun _ => ⟨_, u1.c1, _, u1.c3, bad h1 j e hP.symm⟩) (fun hc => absurd (by simpa using hc) he)⟩)
end Go.Y
