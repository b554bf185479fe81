/- The reader of expressions of the document: souffleurref04.Parse, by its contract. -/
import Derived.Test.YteennilbmmlikaaGreatDoorED3
import Derived.Test.YteennilbmmlikaaGreatDoorGReD
import Derived.Test.YteennilbmmlikaaGreatDoorEConc
import Derived.Test.YteennilbmmlikaaGreatDoorED2
import Derived.Test.YteennilbmmlikaaGreatDoorED5
import Derived.Test.YteennilbmmlikaaGreatDoorYTryzP
import Derived.Test.YteennilbmmlikaaGreatDoorYLoop
namespace Go.Y
open Go.Proofs
set_option maxRecDepth 100000
set_option maxHeartbeats 2000000

theorem ifT {x : Bool} {a b : Prop} (h : x = true) (ha : a) : If x a b := by subst h; exact ha
theorem ifF {x : Bool} {a b : Prop} (h : x = false) (hb : b) : If x a b := by subst h; exact hb
theorem agg_mk (k : Int) (st : S4) (kids : List Re) (lo hi n : Int) : V.agg (encRe (.mk k st kids lo hi n)) = .agg [.i .i64 k, .i .u64 st.1, .i .u64 st.2.1, .i .u64 st.2.2.1, .i .u64 st.2.2.2, lst encRe kids, .i .i64 lo, .i .i64 hi, .i .i64 n] := by rw [encRe_mk]
theorem lst_one (x : Re) : lst encRe [x] = .ts (encRe x) 1 none := by
  have : row encRe [x] = encRe x := by simp [row]
  show V.ts (row encRe [x]) 1 none = _
  rw [this]
theorem frz_nilRe (h : Heap) (c : Option Nat) (k : Nat) : FrzA h (.sl none 0 c k) (lst encRe []) := .frz _ _ (.sln _ _ none (fun x hx => by cases hx))
theorem frz_oneRe (h : Heap) (x : Re) {cs : List V} (hc : encRe x = cs) (c : Option Nat) : FrzA h (.ts cs 1 c) (lst encRe [x]) := by
  rw [lst_one, hc]; exact .frz _ _ (.ts _ _ _ none (fun x hx => by cases hx))
theorem re_fin {h : Heap} (k lo hi n : Int) (st : S4) (kids : List Re) {Kv : V} {D : List Nat} {Q : V → Heap → Prop} (hk : FrzA (takeD h D) Kv (lst encRe kids)) (hq : Q (.agg (encRe (.mk k st kids lo hi n))) (killD h D)) :
    AfterZ Q (.agg [.i .i64 k, .i .u64 st.1, .i .u64 st.2.1, .i .u64 st.2.2.1, .i .u64 st.2.2.2, Kv, .i .i64 lo, .i .i64 hi, .i .i64 n]) h := by
  rw [agg_mk] at hq
  exact ⟨D, _, .inl (.agg _ _ (.cons _ _ _ _ (.same _) (.cons _ _ _ _ (.same _) (.cons _ _ _ _ (.same _) (.cons _ _ _ _ (.same _) (.cons _ _ _ _ (.same _) (.cons _ _ _ _ hk (.cons _ _ _ _ (.same _) (.cons _ _ _ _ (.same _) (.cons _ _ _ _ (.same _) .nil)))))))))), hq⟩
theorem zero_fin {h : Heap} {Q : V → Heap → Prop} (hq : Q (.agg (encRe zeroRe)) h) : AfterZ Q (.agg [.i .i64 0, .i .u64 0, .i .u64 0, .i .u64 0, .i .u64 0, .sl none 0 (some 0) 0, .i .i64 0, .i .i64 0, .i .i64 0]) h :=
  re_fin (D := []) 0 0 0 0 (0, 0, 0, 0) [] (frz_nilRe _ _ _) hq
theorem set_fin {h : Heap} (s : S4) {Q : V → Heap → Prop} (hq : Q (.agg (encRe (setRe s))) h) : AfterZ Q (.agg [.i .i64 1, .i .u64 s.1, .i .u64 s.2.1, .i .u64 s.2.2.1, .i .u64 s.2.2.2, .sl none 0 (some 0) 0, .i .i64 0, .i .i64 0, .i .i64 0]) h :=
  re_fin (D := []) 1 0 0 0 s [] (frz_nilRe _ _ _) hq

theorem RdE.kill {h : Heap} {id n0 : Nat} {s : List UInt8} {i g : Nat} {e : Int} {D : List Nat} (r : RdE h id s i g e) (hD : ∀ j, j ∈ D → n0 ≤ j) (hid : id < n0) : RdE (killD h D) id s i g e :=
  ⟨by rw [killD_get, if_neg (fun hm => by have := hD id hm; omega)]; exact r.get, by rw [killD_nx]; exact r.lt⟩
theorem RdE.app {h h' : Heap} {id : Nat} {s : List UInt8} {i g : Nat} {e : Int} {a : Option (Nat × Nat)} (r : RdE h id s i g e) (q : Fr h a h') (hne : ∀ o, a ≠ some (id, o)) : RdE h' id s i g e :=
  ⟨by rw [q.2 id r.lt hne]; exact r.get, Nat.lt_of_lt_of_le r.lt q.1⟩

def reQ (R : PR Re) (h : Heap) (id : Nat) (s : List UInt8) (v : V) (h' : Heap) : Prop :=
  ∃ (x : Re) (j g : Nat) (e : Int), v = .agg (encRe x) ∧ RdE h' id s j g e ∧ FrO h id h' ∧ ((e = 0 ∧ R = .ok (x, j, g)) ∨ (e ≠ 0 ∧ R = .error (e, j)))

theorem re_app {h : Heap} {a : Option (Nat × Nat)} {l : Nat} {c : Option Nat} {kk : Nat} {out : List Re} (x : Re) {new : List V} (hx : encRe x = new) (hl : LX encRe 9 h a l c kk out) (hb : out.length < 2 ^ 29) :
    ∃ a' l' c' k' h', appendH Tryz.Y h 26 26 (.sl a l c kk) (.ts new 1 (some 1)) = some (.sl a' l' c' k', h') ∧ LX encRe 9 h' a' l' c' k' (out ++ [x]) ∧ Fr h a h' ∧ ∃ j, a' = some (j, 0) ∧ h.nx ≤ j :=
  LX.app (Y := Tryz.Y) (e := 28) (te := ⟨9, 88, .struct [(0, 3), (1, 25), (5, 26), (6, 3), (7, 3), (8, 3)], [.i .i64 0, .i .u64 0, .i .u64 0, .i .u64 0, .i .u64 0, .sl none 0 (some 0) 0, .i .i64 0, .i .i64 0, .i .i64 0]⟩) x hx encRe_len (by kernel_rfl) (by kernel_rfl) rfl (by decide) (by rw [← hx]; exact encRe_cells x) (by decide) hl hb

def classQ (R : Except Nat (S4 × Nat)) (h : Heap) (id : Nat) (s : List UInt8) (g : Nat) (v : V) (h' : Heap) : Prop := match R with
  | .error e => v = .agg (encRe zeroRe) ∧ RdE h' id s e g 1 ∧ FrO h id h'
  | .ok (x, j) => v = .agg (encRe (setRe x)) ∧ RdE h' id s j g 0 ∧ FrO h id h'

theorem classE_con {h : Heap} {id : Nat} {s : List UInt8} {i g : Nat} (r : RdE h id s i g 0) (hs : s.length < 2 ^ 27) (hi : i ≤ s.length) :
    Con Tryz.Y 173 [.p (some (id, 0))] h (classQ (classS s i) h id s g) := by
  refine conz_of Tryz.Yok (fn := Tryz.f173) (by kernel_rfl) (by kernel_rfl) (end_tree Tryz.Yok (fun K => f173_0 id h K) rfl ?_)
  have rest : ∀ (h1 : Heap) (i0 : Nat) (neg : Bool), RdE h1 id s i0 g 0 → FrO h id h1 → i0 ≤ s.length → (classS s i = match setS (s.length + 1) s i0 [] with | .error e => .error e | .ok (l, j) => .ok (setOf (ofP l neg), j)) →
      ∀ K : Out → Nat → List V → Heap → Prop, K = Go.Y.Fin Tryz.Y Tryz.f173 [2] (AfterZ (classQ (classS s i) h id s g)) →
      ∃ (cs : List V) (l : Nat) (c : Option Nat) (n_1 n_2 : Int), (PCon Tryz.Y 62 [.s s, .i .i64 (i0 : Nat)] fun v => v = .tup [.ts cs l c, .i .i64 n_1, .i .i64 n_2]) ∧
        If (ltI n_1 0)
          (∃ h_1, hstore h1 id 1 [.i .i64 n_2] = some h_1 ∧ Con Tryz.Y 28 [.p (some (id, 0)), .i .i64 1] h_1 fun v h' => v = .tup [] ∧ K .ret 47 [.lb [.i .i64 0, .i .u64 0, .i .u64 0, .i .u64 0, .i .u64 0, .sl none 0 (some 0) 0, .i .i64 0, .i .i64 0, .i .i64 0]] h')
          (∃ h_1, hstore h1 id 1 [.i .i64 n_1] = some h_1 ∧ ∃ n n_3 n_4 n_5 : Int, (PCon Tryz.Y 103 [.ts cs l c, .b neg] fun v => v = .agg [.i .u64 n, .i .u64 n_3, .i .u64 n_4, .i .u64 n_5]) ∧ K .ret 47 [.lb [.i .i64 1, .i .u64 n, .i .u64 n_3, .i .u64 n_4, .i .u64 n_5, .sl none 0 (some 0) 0, .i .i64 0, .i .i64 0, .i .i64 0]] h_1) := by
    rintro h1 i0 neg q1 q2 hi0 hcl K rfl
    have hc := spans_con s i0 (by omega) hi0
    cases hS : setS (s.length + 1) s i0 [] with
    | error e =>
      rw [hS] at hc hcl
      obtain ⟨h2, g1, g2, g3⟩ := q1.s1 e
      refine ⟨_, _, _, _, _, hc, if_lt (fun _ => ⟨h2, g1, failE0 g2 1 fun h3 u1 u2 => ⟨rfl, finC (.inr rfl) rfl (zero_fin ?_)⟩⟩) (fun h => by omega)⟩
      rw [hcl]; exact ⟨rfl, u1, (q2.trans g3).trans u2⟩
    | ok y =>
      obtain ⟨l, j⟩ := y
      rw [hS] at hc hcl
      obtain ⟨r1, r2⟩ := setS_rng hS (fun x hx => by cases hx)
      have hj := setS_ok hS
      have hll : l.length < 2 ^ 40 := by simp at r2; omega
      obtain ⟨h2, g1, g2, g3⟩ := q1.s1 j
      refine ⟨_, _, _, _, _, hc, if_lt (fun h => by omega) (fun _ => ⟨h2, g1, _, _, _, _, of_con l neg hll r1, finC (.inr rfl) rfl (set_fin (setOf (ofP l neg)) ?_)⟩)⟩
      rw [hcl]; exact ⟨rfl, g2, q2.trans g3⟩
  refine ⟨_, isE_con r 94, if_mk (fun hc => ?_) (fun hc => ?_)⟩
  · have hc : s[i]? = some 94 := by simpa using hc
    have hl := (List.getElem?_eq_some_iff.1 hc).1
    obtain ⟨h1, g1, g2, g3⟩ := r.s1 (i + 1)
    have hb : (0 == (0 : Int) && s[i]? == some (94 : UInt8)) = true := by rw [hc]; rfl
    rw [hb]
    refine ⟨_, r.c1, h1, by rw [wrap_succ (by omega)]; exact g1, _, g2.c0, _, g2.c1, rest h1 (i + 1) true g2 g3 hl ?_ _ rfl⟩
    unfold classS; simp only [hc, if_true, decide_true]; rfl
  · have hc : s[i]? ≠ some 94 := by simpa using hc
    have hb : (0 == (0 : Int) && s[i]? == some (94 : UInt8)) = false := by simpa using hc
    rw [hb]
    refine ⟨_, r.c0, _, r.c1, rest h i false r (.refl _ _) hi ?_ _ rfl⟩
    unfold classS; simp only [hc, if_false, decide_false]; rfl

structure AllC (n : Nat) : Prop where
  alt : ∀ {h : Heap} {id : Nat} {s : List UInt8} {i g d : Nat}, RdE h id s i g 0 → s.length < 2 ^ 27 → i ≤ s.length → g ≤ i → d ≤ 64 → 6 * (s.length - i) + 6 ≤ n → Con Tryz.Y 27 [.p (some (id, 0)), .i .i64 (d : Nat)] h (reQ (altE n d s i g) h id s)
  row : ∀ {h : Heap} {id : Nat} {s : List UInt8} {i g d : Nat}, RdE h id s i g 0 → s.length < 2 ^ 27 → i ≤ s.length → g ≤ i → d ≤ 64 → 6 * (s.length - i) + 5 ≤ n → Con Tryz.Y 67 [.p (some (id, 0)), .i .i64 (d : Nat)] h (reQ (rowE n d s i g []) h id s)
  piece : ∀ {h : Heap} {id : Nat} {s : List UInt8} {i g d : Nat}, RdE h id s i g 0 → s.length < 2 ^ 27 → i < s.length → g ≤ i → d ≤ 64 → 6 * (s.length - i) + 4 ≤ n → Con Tryz.Y 112 [.p (some (id, 0)), .i .i64 (d : Nat)] h (reQ (pieceE n d s i g) h id s)
  atom : ∀ {h : Heap} {id : Nat} {s : List UInt8} {i g d : Nat}, RdE h id s i g 0 → s.length < 2 ^ 27 → i < s.length → g ≤ i → d ≤ 64 → 6 * (s.length - i) + 3 ≤ n → Con Tryz.Y 141 [.p (some (id, 0)), .i .i64 (d : Nat)] h (reQ (atomE n d s i g) h id s)

theorem u8_true {c d : UInt8} (h : (((c.toNat : Nat) : Int) == ((d.toNat : Nat) : Int)) = true) : c = d := by rw [u8_lit] at h; simpa using h
theorem u8_false {c d : UInt8} (h : (((c.toNat : Nat) : Int) == ((d.toNat : Nat) : Int)) = false) : c ≠ d := by rw [u8_lit] at h; simpa using h

theorem atomC {n : Nat} (ih : ∀ m, m < n → AllC m) {h : Heap} {id : Nat} {s : List UInt8} {i g d : Nat} (r : RdE h id s i g 0) (hs : s.length < 2 ^ 27) (hi : i < s.length) (hg : g ≤ i) (hd : d ≤ 64) (hn : 6 * (s.length - i) + 3 ≤ n) :
    Con Tryz.Y 141 [.p (some (id, 0)), .i .i64 (d : Nat)] h (reQ (atomE n d s i g) h id s) := by
  obtain ⟨n, rfl⟩ : ∃ m, n = m + 1 := ⟨n - 1, by omega⟩
  refine conz_of Tryz.Yok (fn := Tryz.f141) (by kernel_rfl) (by kernel_rfl) (end_tree Tryz.Yok (fun K => f141_0 id (d : Nat) h K) rfl ?_)
  have hsi : s[i]? = some s[i] := by simp [hi]
  generalize hR : atomE (n + 1) d s i g = R
  rw [atomE, hsi] at hR
  simp only [] at hR
  -- it fails
  have bad : ∀ (h1 : Heap) (j g1 : Nat) (e x : Int), RdE h1 id s j g1 e → FrO h id h1 → x ≠ 0 → R = .error (if e = 0 then x else e, j) →
      Con Tryz.Y 28 [.p (some (id, 0)), .i .i64 x] h1 fun v h' => v = .tup [] ∧ Go.Y.Fin Tryz.Y Tryz.f141 [4] (AfterZ (reQ R h id s)) .ret 140 [.lb [.i .i64 0, .i .u64 0, .i .u64 0, .i .u64 0, .i .u64 0, .sl none 0 (some 0) 0, .i .i64 0, .i .i64 0, .i .i64 0]] h' := fun h1 j g1 e x q1 q2 hx hr =>
    (failE_con q1 x).mono fun v h' ⟨hv, u1, u2⟩ => ⟨hv, finC (.inr rfl) rfl (zero_fin ⟨zeroRe, j, g1, _, rfl, u1, q2.trans u2, .inr ⟨by split <;> assumption, hr⟩⟩)⟩
  have rep : isRep s[i] = true → R = .error (1, i) := fun hc => by rw [if_pos hc] at hR; exact hR.symm
  refine ⟨_, r.c0, _, r.c1, s[i], at_lt hi, if_mk (fun c1 => bad h i g 0 1 r (.refl _ _) (by decide) (rep (by rw [u8_true (d := 42) c1]; rfl))) (fun c1 => if_mk (fun c2 => bad h i g 0 1 r (.refl _ _) (by decide) (rep (by rw [u8_true (d := 43) c2]; rfl))) (fun c2 => if_mk (fun c3 => bad h i g 0 1 r (.refl _ _) (by decide) (rep (by rw [u8_true (d := 63) c3]; rfl))) (fun c3 => if_mk (fun c4 => bad h i g 0 1 r (.refl _ _) (by decide) (rep (by rw [u8_true (d := 123) c4]; rfl))) (fun c4 => ?_))))⟩
  have c1 := u8_false (d := 42) c1
  have c2 := u8_false (d := 43) c2
  have c3 := u8_false (d := 63) c3
  have c4 := u8_false (d := 123) c4
  rw [if_neg (by simp [isRep, c1, c2, c3, c4])] at hR
  clear rep
  refine if_mk (fun c5 => ?_) (fun c5 => ?_)
  · -- a group
    have c5 := u8_true (d := 40) c5
    rw [if_pos c5] at hR
    refine if_le (fun h64 => ?_) (fun h64 => ?_)
    · rw [if_pos (by omega)] at hR
      exact bad h i g 0 8 r (.refl _ _) (by decide) hR.symm
    rw [if_neg (by omega)] at hR
    obtain ⟨h1, g1, g2, g3⟩ := r.s1 (i + 1)
    obtain ⟨h2, k1, k2, k3⟩ := g2.s2 (g + 1)
    refine ⟨_, r.c1, h1, by rw [wrap_succ (by omega)]; exact g1, _, g2.c2, h2, by rw [wrap_succ (by omega)]; exact k1, _, k2.c2, ?_⟩
    rw [wrap_succ (by omega)]
    have hc := (ih n (by omega)).alt k2 hs (show i + 1 ≤ s.length by omega) (show g + 1 ≤ i + 1 by omega) (show d + 1 ≤ 64 by omega) (by omega)
    have go : ∀ (N : Int), N = (if g + 1 ≤ 9 then ((g + 1 : Nat) : Int) else 0) → ∀ (v : V) (h' : Heap), reQ (altE n (d + 1) s (i + 1) (g + 1)) h2 id s v h' → ∃ (n_1 n_2 n_3 n_4 n_5 : Int) (cs : List V) (l : Nat) (c : Option Nat) (n_6 n_7 n_8 : Int), v = .agg [.i .i64 n_1, .i .u64 n_2, .i .u64 n_3, .i .u64 n_4, .i .u64 n_5, .ts cs l c, .i .i64 n_6, .i .i64 n_7, .i .i64 n_8] ∧
        ∃ b, RCon Tryz.Y 68 [.p (some (id, 0)), .i .u8 41] h' (.b b) ∧ If (!b)
          (Con Tryz.Y 28 [.p (some (id, 0)), .i .i64 1] h' fun v h' => v = .tup [] ∧ Go.Y.Fin Tryz.Y Tryz.f141 [4] (AfterZ (reQ R h id s)) .ret 140 [.lb [.i .i64 0, .i .u64 0, .i .u64 0, .i .u64 0, .i .u64 0, .sl none 0 (some 0) 0, .i .i64 0, .i .i64 0, .i .i64 0]] h')
          (∃ n_9 : Int, hcells h' id 1 1 = some [.i .i64 n_9] ∧ ∃ h_1, hstore h' id 1 [.i .i64 (IntKind.i64.wrap (n_9 + 1))] = some h_1 ∧ Go.Y.Fin Tryz.Y Tryz.f141 [4] (AfterZ (reQ R h id s)) .ret 140 [.lb [.i .i64 7, .i .u64 0, .i .u64 0, .i .u64 0, .i .u64 0, .ts [.i .i64 n_1, .i .u64 n_2, .i .u64 n_3, .i .u64 n_4, .i .u64 n_5, .ts cs l c, .i .i64 n_6, .i .i64 n_7, .i .i64 n_8] 1 (some 1), .i .i64 0, .i .i64 0, .i .i64 N]] h_1) := by
      rintro N hN v h' ⟨x, j, gg, e, rfl, u1, u2, u3⟩
      obtain ⟨xk, xs, xl, xlo, xhi, xn⟩ := x
      refine ⟨_, _, _, _, _, _, _, _, _, _, _, agg_mk _ _ _ _ _ _, _, isE_con u1 41, if_mk (fun hb => ?_) (fun hb => ?_)⟩
      · rcases u3 with ⟨rfl, hr⟩ | ⟨he, hr⟩
        · have hb : s[j]? ≠ some 41 := by simpa using hb
          rw [hr] at hR; simp only [] at hR; rw [if_neg hb] at hR
          exact bad h' j gg 0 1 u1 ((g3.trans k3).trans u2) (by decide) hR.symm
        · rw [hr] at hR
          exact bad h' j gg e 1 u1 ((g3.trans k3).trans u2) (by decide) (by rw [if_neg he]; exact hR.symm)
      · rcases u3 with ⟨rfl, hr⟩ | ⟨he, hr⟩
        · have hb : s[j]? = some 41 := by simpa using hb
          rw [hr] at hR; simp only [] at hR; rw [if_pos hb] at hR
          have hl := (List.getElem?_eq_some_iff.1 hb).1
          obtain ⟨h4, w1, w2, w3⟩ := u1.s1 (j + 1)
          refine ⟨_, u1.c1, h4, by rw [wrap_succ (by omega)]; exact w1, finC (.inr rfl) rfl (re_fin (D := []) 7 0 0 N (0, 0, 0, 0) [.mk xk xs xl xlo xhi xn] (frz_oneRe _ _ (encRe_mk _ _ _ _ _ _) _) ⟨_, j + 1, gg, 0, rfl, w2, (((g3.trans k3).trans u2).trans w3), .inl ⟨rfl, ?_⟩⟩)⟩
          rw [← hR, hN]
        · exfalso
          have : (e == 0) = false := by simpa using he
          rw [this] at hb; simp at hb
    refine if_le (fun h9 => ⟨_, k2.c2, ?_⟩) (fun h9 => ?_)
    · exact hc.mono fun v h' hq => go _ (by rw [if_pos (by omega)]) v h' hq
    · exact hc.mono fun v h' hq => go _ (by rw [if_neg (by omega)]) v h' hq
  have c5 := u8_false (d := 40) c5
  rw [if_neg c5] at hR
  obtain ⟨h1, g1, g2, g3⟩ := r.s1 (i + 1)
  refine ⟨_, r.c1, h1, by rw [wrap_succ (by omega)]; exact g1, ?_⟩
  have done : ∀ (h2 : Heap) (x : Re) (j : Nat), RdE h2 id s j g 0 → FrO h id h2 → R = .ok (x, j, g) → reQ R h id s (.agg (encRe x)) h2 := fun h2 x j q1 q2 hr => ⟨x, j, g, 0, rfl, q1, q2, .inl ⟨rfl, hr⟩⟩
  refine if_mk (fun c6 => ?_) (fun c6 => ?_)
  · have c6 := u8_true (d := 91) c6
    rw [if_pos c6] at hR
    refine (classE_con g2 hs (by omega)).mono fun v h2 hq => ?_
    cases hcl : classS s (i + 1) with
    | error e =>
      rw [hcl] at hq hR
      obtain ⟨rfl, u1, u2⟩ := hq
      refine ⟨_, _, _, _, _, _, _, _, _, _, _, agg_mk _ _ _ _ _ _, finC (.inr rfl) rfl (.now ?_)⟩
      rw [← agg_mk]
      exact ⟨zeroRe, e, g, 1, rfl, u1, g3.trans u2, .inr ⟨by decide, hR.symm⟩⟩
    | ok y =>
      obtain ⟨x, j⟩ := y
      rw [hcl] at hq hR
      obtain ⟨rfl, u1, u2⟩ := hq
      refine ⟨_, _, _, _, _, _, _, _, _, _, _, agg_mk _ _ _ _ _ _, finC (.inr rfl) rfl (.now ?_)⟩
      rw [← agg_mk]
      exact done h2 _ j u1 (g3.trans u2) hR.symm
  have c6 := u8_false (d := 91) c6
  rw [if_neg c6] at hR
  refine if_mk (fun c7 => ?_) (fun c7 => ?_)
  · have c7 := u8_true (d := 46) c7
    rw [if_pos c7] at hR
    have hof := of_con [] true (by decide) (fun x hx => by cases hx)
    have hof2 : PCon Tryz.Y 103 [.sl none 0 (some 0) 0, .b true] (· = .agg (setC (setOf (ofP [] true)))) := PCon.wk (.one _ _ _ _ (.inr (.inl ⟨_, _, _, rfl, rfl, fun x hx => by cases hx⟩)) (.one _ _ _ _ (.refl _) .nil)) hof
    exact ⟨_, _, _, _, hof2, finC (.inr rfl) rfl (set_fin (setOf (ofP [] true)) (done h1 _ (i + 1) g2 g3 hR.symm))⟩
  have c7 := u8_false (d := 46) c7
  rw [if_neg c7] at hR
  refine if_mk (fun c8 => ?_) (fun c8 => ?_)
  · have c8 := u8_true (d := 94) c8
    rw [if_pos c8] at hR
    exact finC (.inr rfl) rfl (re_fin (D := []) 2 0 0 0 (0, 0, 0, 0) [] (frz_nilRe _ _ _) (done h1 _ (i + 1) g2 g3 hR.symm))
  have c8 := u8_false (d := 94) c8
  rw [if_neg c8] at hR
  refine if_mk (fun c9 => ?_) (fun c9 => ?_)
  · have c9 := u8_true (d := 36) c9
    rw [if_pos c9] at hR
    exact finC (.inr rfl) rfl (re_fin (D := []) 3 0 0 0 (0, 0, 0, 0) [] (frz_nilRe _ _ _) (done h1 _ (i + 1) g2 g3 hR.symm))
  have c9 := u8_false (d := 36) c9
  rw [if_neg c9] at hR
  refine if_mk (fun ca => ?_) (fun ca => ?_)
  · have ca := u8_true (d := 92) ca
    rw [if_pos ca] at hR
    refine ⟨_, g2.c1, _, g2.c0, if_le (fun hle => ?_) (fun hlt => ?_)⟩
    · have hn1 : s[i + 1]? = none := List.getElem?_eq_none (by omega)
      rw [hn1] at hR
      exact bad h1 (i + 1) g 0 1 g2 g3 (by decide) hR.symm
    · have hl : i + 1 < s.length := by omega
      have hn1 : s[i + 1]? = some s[i + 1] := by simp [hl]
      rw [hn1] at hR
      obtain ⟨h2, k1, k2, k3⟩ := g2.s1 (i + 2)
      exact ⟨_, g2.c0, _, g2.c1, s[i + 1], at_lt hl, _, g2.c1, h2, by rw [wrap_succ (by omega)]; exact k1, _, _, _, _, one_con s[i + 1], finC (.inr rfl) rfl (set_fin (setOf fun x => x == s[i + 1].toNat) (done h2 _ (i + 2) k2 (g3.trans k3) hR.symm))⟩
  have ca := u8_false (d := 92) ca
  rw [if_neg ca] at hR
  exact ⟨_, _, _, _, one_con s[i], finC (.inr rfl) rfl (set_fin (setOf fun x => x == s[i].toNat) (done h1 _ (i + 1) g2 g3 hR.symm))⟩
end Go.Y

/- What the pieces of functions come to: printed by program. -/
namespace Go.Y
open Go.Proofs
set_option maxRecDepth 100000
set_option maxHeartbeats 0
theorem f71_0 (k : Int) (s0 : Int) (s1 : Int) (s2 : Int) (s3 : Int) (kc : List V) (kn : Nat) (lo : Int) (hi : Int) (gn : Int) (h : Heap) (K : KT) : (codeP Tryz.Y (Tryz.Y.loc 71) 100 ((flat (bodyOf Tryz.f71))) ⟨(V.agg [V.i .i64 k, V.i .u64 s0, V.i .u64 s1, V.i .u64 s2, V.i .u64 s3, V.ts kc kn none, V.i .i64 lo, V.i .i64 hi, V.i .i64 gn] :: List.replicate 10 .undef), [], h⟩ (VQ [2] K)) =
  (If (leI (0 : Int) hi) (K Out.ret 11 [V.i IntKind.i64 hi] h)
  (K Out.ret 11 [V.i IntKind.i64 ((fun (x y : Int) => if y > x then y else x) lo (1 : Int))] h)) := by kernel_rfl
theorem f119_0 (id : Nat) (c1 : List V) (n1 : Nat) (c2 : List V) (n2 : Nat) (h : Heap) (K : KT) : (codeP Tryz.Y (Tryz.Y.loc 119) 100 (pre (flat (bodyOf Tryz.f119))) ⟨(V.p (some (id, 0)) :: V.ts c1 n1 none :: V.ts c2 n2 none :: List.replicate 29 .undef), [], h⟩ (VQ [0, 2, 8, 9, 10] K)) =
  (K Out.normal 32
  [V.p (some (id, 0)), V.ts c2 n2 none, V.ts c1 n1 none, V.i IntKind.i64 (↑n1 : Int), V.i IntKind.i64 (0 : Int)]
  h) := by kernel_rfl
theorem f119_1 (id : Nat) (c1 : List V) (n1 : Nat) (c2 : List V) (n2 : Nat) (x10 : Int) (h : Heap) (K : KT) : (codeP Tryz.Y (Tryz.Y.loc 119) 100 ((flat (loopB (post (flat (bodyOf Tryz.f119)))))) ⟨mk 32 (([0, 2, 8, 9, 10] : List Nat).zip [V.p (some (id, 0)), V.ts c2 n2 none, V.ts c1 n1 none, V.i IntKind.i64 (↑n1 : Int), V.i IntKind.i64 x10]), [], h⟩ (VQ [0, 2, 8, 9, 10] K)) =
  (If (ltI x10 (↑n1 : Int))
  (((0 : Int) ≤ x10 ∧ x10 < (↑n1 : Int)) ∧
 ∃ (n : Int),
 takeX 1 (List.drop (x10.toNat * (1 : Nat)) c1) = some [V.i IntKind.i64 n] ∧
 ∃ (a : Option (Nat × Nat)),
 ∃ (l : Nat),
 ∃ (c : Option Nat),
 ∃ (k : Nat),
 hcells h id 3 1 = some [V.sl a l c k] ∧
 ∃ (a_1 : Option (Nat × Nat)),
 ∃ (l_1 : Nat),
 ∃ (c : Option Nat),
 ∃ (k_1 : Nat),
 hcells h id 3 1 = some [V.sl a_1 l_1 c k_1] ∧
 SlO a_1 False fun (id_1 off : Nat) =>
 ((0 : Int) ≤ n ∧ n < (↑l_1 : Int)) ∧
 k_1 = 1 ∧
 ∃ (cs : List V),
 ∃ (l_2 : Nat),
 ∃ (c : Option Nat),
 hcells h id_1 (off + n.toNat * (1 : Nat)) 1 = some [V.ts cs l_2 c] ∧
 ∃ (cs_1 : List V),
 ∃ (l_3 : Nat),
 ∃ (c_1 : Option Nat),
 (PCon Tryz.Y (72 : Nat) [V.ts cs l_2 c, V.ts c2 n2 none] fun (v : V) =>
 v = V.ts cs_1 l_3 c_1) ∧
 SlO a False fun (id_2 off : Nat) =>
 ((0 : Int) ≤ n ∧ n < (↑l : Int)) ∧
 k = 1 ∧
 ∃ (h_1 : Heap),
 hstore h id_2 (off + n.toNat * (1 : Nat))
 [V.ts cs_1 l_3 c_1] =
 some h_1 ∧
 K Out.normal 32
 [V.p (some (id, 0)), V.ts c2 n2 none,
 V.ts c1 n1 none, V.i IntKind.i64 (↑n1 : Int),
 V.i IntKind.i64 (IntKind.i64.wrap (x10 + (1 : Int)))]
 h_1)
  (K (Out.exit 0) 32
 [V.p (some (id, 0)), V.ts c2 n2 none, V.ts c1 n1 none, V.i IntKind.i64 (↑n1 : Int), V.i IntKind.i64 x10] h)) := by kernel_rfl
theorem f73_0 (id : Nat) (fc1 : List V) (fn1 : Nat) (lc1 : List V) (ln1 : Nat) (e1 : Bool) (fc2 : List V) (fn2 : Nat) (lc2 : List V) (ln2 : Nat) (e2 : Bool) (h : Heap) (K : KT) : (codeP Tryz.Y (Tryz.Y.loc 73) 100 ((flat (bodyOf Tryz.f73))) ⟨(V.p (some (id, 0)) :: V.agg [V.ts fc1 fn1 none, V.ts lc1 ln1 none, V.b e1] :: V.agg [V.ts fc2 fn2 none, V.ts lc2 ln2 none, V.b e2] :: List.replicate 39 .undef), [], h⟩ (VQ [6] K)) =
  (Con Tryz.Y (119 : Nat) [V.p (some (id, 0)), V.ts lc1 ln1 none, V.ts fc2 fn2 none] h fun (v : V) (h' : Heap) =>
  v = V.tup [] ∧
 If e1
 (If e1
 (∃ (cs : List V),
 ∃ (l : Nat),
 ∃ (c : Option Nat),
 (PCon Tryz.Y (72 : Nat) [V.ts fc1 fn1 none, V.ts fc2 fn2 none] fun (v : V) => v = V.ts cs l c) ∧
 If e2
 (∃ (cs_1 : List V),
 ∃ (l_1 : Nat),
 ∃ (c_1 : Option Nat),
 (PCon Tryz.Y (72 : Nat) [V.ts lc1 ln1 none, V.ts lc2 ln2 none] fun (v : V) =>
 v = V.ts cs_1 l_1 c_1) ∧
 K Out.ret 42 [V.lb [V.ts cs l c, V.ts cs_1 l_1 c_1, V.b e2]] h')
 (K Out.ret 42 [V.lb [V.ts cs l c, V.ts lc2 ln2 none, V.b e2]] h'))
 (If e2
 (∃ (cs : List V),
 ∃ (l : Nat),
 ∃ (c : Option Nat),
 (PCon Tryz.Y (72 : Nat) [V.ts lc1 ln1 none, V.ts lc2 ln2 none] fun (v : V) => v = V.ts cs l c) ∧
 K Out.ret 42 [V.lb [V.ts fc1 fn1 none, V.ts cs l c, V.b e2]] h')
 (K Out.ret 42 [V.lb [V.ts fc1 fn1 none, V.ts lc2 ln2 none, V.b e2]] h')))
 (If e1
 (∃ (cs : List V),
 ∃ (l : Nat),
 ∃ (c : Option Nat),
 (PCon Tryz.Y (72 : Nat) [V.ts fc1 fn1 none, V.ts fc2 fn2 none] fun (v : V) => v = V.ts cs l c) ∧
 If e2
 (∃ (cs_1 : List V),
 ∃ (l_1 : Nat),
 ∃ (c_1 : Option Nat),
 (PCon Tryz.Y (72 : Nat) [V.ts lc1 ln1 none, V.ts lc2 ln2 none] fun (v : V) =>
 v = V.ts cs_1 l_1 c_1) ∧
 K Out.ret 42 [V.lb [V.ts cs l c, V.ts cs_1 l_1 c_1, V.b false]] h')
 (K Out.ret 42 [V.lb [V.ts cs l c, V.ts lc2 ln2 none, V.b false]] h'))
 (If e2
 (∃ (cs : List V),
 ∃ (l : Nat),
 ∃ (c : Option Nat),
 (PCon Tryz.Y (72 : Nat) [V.ts lc1 ln1 none, V.ts lc2 ln2 none] fun (v : V) => v = V.ts cs l c) ∧
 K Out.ret 42 [V.lb [V.ts fc1 fn1 none, V.ts cs l c, V.b false]] h')
 (K Out.ret 42 [V.lb [V.ts fc1 fn1 none, V.ts lc2 ln2 none, V.b false]] h')))) := by kernel_rfl
theorem f31_0 (k : Int) (s0 : Int) (s1 : Int) (s2 : Int) (s3 : Int) (kc : List V) (kn : Nat) (lo : Int) (hi : Int) (gn : Int) (h : Heap) (K : KT) : (codeP Tryz.Y (Tryz.Y.loc 31) 100 (pre (flat (bodyOf Tryz.f31))) ⟨(V.agg [V.i .i64 k, V.i .u64 s0, V.i .u64 s1, V.i .u64 s2, V.i .u64 s3, V.ts kc kn none, V.i .i64 lo, V.i .i64 hi, V.i .i64 gn] :: List.replicate 32 .undef), [], h⟩ (VQ [1, 3, 12, 13, 14] K)) =
  (If (k == (1 : Int))
  (K Out.normal 33
 [V.lb
 [V.i IntKind.i64 k, V.i IntKind.u64 s0, V.i IntKind.u64 s1, V.i IntKind.u64 s2, V.i IntKind.u64 s3,
 V.ts kc kn none, V.i IntKind.i64 lo, V.i IntKind.i64 hi, V.i IntKind.i64 gn],
 V.i IntKind.i64 (IntKind.i64.wrap ((0 : Int) + (1 : Int))), V.ts kc kn none, V.i IntKind.i64 (↑kn : Int),
 V.i IntKind.i64 (0 : Int)]
 h)
  (K Out.normal 33
 [V.lb
 [V.i IntKind.i64 k, V.i IntKind.u64 s0, V.i IntKind.u64 s1, V.i IntKind.u64 s2, V.i IntKind.u64 s3,
 V.ts kc kn none, V.i IntKind.i64 lo, V.i IntKind.i64 hi, V.i IntKind.i64 gn],
 V.i IntKind.i64 (0 : Int), V.ts kc kn none, V.i IntKind.i64 (↑kn : Int), V.i IntKind.i64 (0 : Int)]
 h)) := by kernel_rfl
theorem f31_1 (k : Int) (s0 : Int) (s1 : Int) (s2 : Int) (s3 : Int) (kc : List V) (kn : Nat) (lo : Int) (hi : Int) (gn : Int) (x3 : Int) (x14 : Int) (h : Heap) (K : KT) : (codeP Tryz.Y (Tryz.Y.loc 31) 100 ((flat (loopB (post (flat (bodyOf Tryz.f31)))))) ⟨mk 33 (([1, 3, 12, 13, 14] : List Nat).zip [V.lb [V.i IntKind.i64 k, V.i IntKind.u64 s0, V.i IntKind.u64 s1, V.i IntKind.u64 s2, V.i IntKind.u64 s3, V.ts kc kn none, V.i IntKind.i64 lo, V.i IntKind.i64 hi, V.i IntKind.i64 gn], V.i IntKind.i64 x3, V.ts kc kn none, V.i IntKind.i64 (↑kn : Int), V.i IntKind.i64 x14]), [], h⟩ (VQ [1, 3, 12, 13, 14] K)) =
  (If (ltI x14 (↑kn : Int))
  (((0 : Int) ≤ x14 ∧ x14 < (↑kn : Int)) ∧
 ∃ (n : Int),
 ∃ (n_1 : Int),
 ∃ (n_2 : Int),
 ∃ (n_3 : Int),
 ∃ (n_4 : Int),
 ∃ (cs : List V),
 ∃ (l : Nat),
 ∃ (c : Option Nat),
 ∃ (n_5 : Int),
 ∃ (n_6 : Int),
 ∃ (n_7 : Int),
 takeX 9 (List.drop (x14.toNat * (9 : Nat)) kc) =
 some
 [V.i IntKind.i64 n, V.i IntKind.u64 n_1, V.i IntKind.u64 n_2, V.i IntKind.u64 n_3,
 V.i IntKind.u64 n_4, V.ts cs l c, V.i IntKind.i64 n_5, V.i IntKind.i64 n_6,
 V.i IntKind.i64 n_7] ∧
 ∃ (n_8 : Int),
 (PCon Tryz.Y (31 : Nat)
 [V.agg
 [V.i IntKind.i64 n, V.i IntKind.u64 n_1, V.i IntKind.u64 n_2, V.i IntKind.u64 n_3,
 V.i IntKind.u64 n_4, V.ts cs l c, V.i IntKind.i64 n_5, V.i IntKind.i64 n_6,
 V.i IntKind.i64 n_7]]
 fun (v : V) => v = V.i IntKind.i64 n_8) ∧
 K Out.normal 33
 [V.lb
 [V.i IntKind.i64 k, V.i IntKind.u64 s0, V.i IntKind.u64 s1, V.i IntKind.u64 s2,
 V.i IntKind.u64 s3, V.ts kc kn none, V.i IntKind.i64 lo, V.i IntKind.i64 hi,
 V.i IntKind.i64 gn],
 V.i IntKind.i64
 ((fun (x y : Int) => if y < x then y else x) (IntKind.i64.wrap (x3 + n_8))
 (301 : Int)),
 V.ts kc kn none, V.i IntKind.i64 (↑kn : Int),
 V.i IntKind.i64 (IntKind.i64.wrap (x14 + (1 : Int)))]
 h)
  (K (Out.exit 0) 33
 [V.lb
 [V.i IntKind.i64 k, V.i IntKind.u64 s0, V.i IntKind.u64 s1, V.i IntKind.u64 s2, V.i IntKind.u64 s3,
 V.ts kc kn none, V.i IntKind.i64 lo, V.i IntKind.i64 hi, V.i IntKind.i64 gn],
 V.i IntKind.i64 x3, V.ts kc kn none, V.i IntKind.i64 (↑kn : Int), V.i IntKind.i64 x14]
 h)) := by kernel_rfl
theorem f31_2 (k : Int) (s0 : Int) (s1 : Int) (s2 : Int) (s3 : Int) (kc : List V) (kn : Nat) (lo : Int) (hi : Int) (gn : Int) (x3 : Int) (h : Heap) (K : KT) : (codeP Tryz.Y (Tryz.Y.loc 31) 100 (((post (flat (bodyOf Tryz.f31))).drop 1)) ⟨mk 33 (([1, 3] : List Nat).zip [V.lb [V.i IntKind.i64 k, V.i IntKind.u64 s0, V.i IntKind.u64 s1, V.i IntKind.u64 s2, V.i IntKind.u64 s3, V.ts kc kn none, V.i IntKind.i64 lo, V.i IntKind.i64 hi, V.i IntKind.i64 gn], V.i IntKind.i64 x3]), [], h⟩ (VQ [2] K)) =
  (If (k == (6 : Int))
  (∃ (n : Int),
 (PCon Tryz.Y (71 : Nat)
 [V.agg
 [V.i IntKind.i64 k, V.i IntKind.u64 s0, V.i IntKind.u64 s1, V.i IntKind.u64 s2, V.i IntKind.u64 s3,
 V.ts kc kn none, V.i IntKind.i64 lo, V.i IntKind.i64 hi, V.i IntKind.i64 gn]]
 fun (v : V) => v = V.i IntKind.i64 n) ∧
 K Out.ret 33
 [V.i IntKind.i64 ((fun (x y : Int) => if y < x then y else x) (IntKind.i64.wrap (x3 * n)) (301 : Int))] h)
  (K Out.ret 33 [V.i IntKind.i64 ((fun (x y : Int) => if y < x then y else x) x3 (301 : Int))] h)) := by kernel_rfl
theorem f30_0 (k : Int) (s0 : Int) (s1 : Int) (s2 : Int) (s3 : Int) (kc : List V) (kn : Nat) (lo : Int) (hi : Int) (gn : Int) (h : Heap) (K : KT) : (codeP Tryz.Y (Tryz.Y.loc 30) 100 ((flat (bodyOf Tryz.f30))) ⟨(V.agg [V.i .i64 k, V.i .u64 s0, V.i .u64 s1, V.i .u64 s2, V.i .u64 s3, V.ts kc kn none, V.i .i64 lo, V.i .i64 hi, V.i .i64 gn] :: List.replicate 15 .undef), [], h⟩ (VQ [2] K)) =
  (If (k == (2 : Int)) (K Out.ret 16 [V.b true] h)
  (If (k == (3 : Int)) (K Out.ret 16 [V.b true] h)
 (Con Tryz.Y (70 : Nat) [V.ts kc kn none, V.fn (Fn.func (30 : Nat)) [] []] h fun (v : V) (h' : Heap) =>
 ∃ (b : Bool), v = V.b b ∧ K Out.ret 16 [V.b b] h'))) := by kernel_rfl
end Go.Y

/- What the pieces of functions come to: printed by program. -/
namespace Go.Y
open Go.Proofs
set_option maxRecDepth 100000
set_option maxHeartbeats 0
theorem f72_0 (cs0 : List V) (n0 : Nat) (cs1 : List V) (n1 : Nat) (h : Heap) (K : KT) : (codeP Tryz.Y (Tryz.Y.loc 72) 100 ((flat (bodyOf Tryz.f72))) ⟨(V.ts cs0 n0 none :: V.ts cs1 n1 none :: List.replicate 12 .undef), [], h⟩ (VQ [4] K)) =
  (Con Tryz.Y (118 : Nat) [V.ts [V.ts cs0 n0 none, V.ts cs1 n1 none] 2 (some 2)] h
  fun (v : V) (h' : Heap) =>
  ∃ (a : Option (Nat × Nat)),
 ∃ (l : Nat),
 ∃ (c : Option Nat),
 ∃ (k : Nat),
 v = V.sl a l c k ∧
 Con Tryz.Y (75 : Nat) [V.sl a l c k] h' fun (v : V) (h' : Heap) =>
 v = V.tup [] ∧
 Con Tryz.Y (76 : Nat) [V.sl a l c k] h' fun (v : V) (h' : Heap) =>
 ∃ (a : Option (Nat × Nat)),
 ∃ (l : Nat),
 ∃ (c : Option Nat), ∃ (k : Nat), v = V.sl a l c k ∧ K Out.ret 14 [V.sl a l c k] h') := by kernel_rfl
end Go.Y
