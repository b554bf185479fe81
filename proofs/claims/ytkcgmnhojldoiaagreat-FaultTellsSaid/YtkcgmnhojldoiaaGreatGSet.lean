/- Sets and pieces of patterns, by contracts. -/
import Derived.Test.YtkcgmnhojldoiaaGreatGD2
import Derived.Test.YtkcgmnhojldoiaaGreatYRow
import Derived.Test.YtkcgmnhojldoiaaGreatYTryzP
import Derived.Test.YtkcgmnhojldoiaaGreatYLoop
namespace Go.Y
open Go.Proofs
set_option maxRecDepth 1000000
set_option maxHeartbeats 0
def ZA7 (r : Except Nat (Span × Nat)) (h : Heap) (id : Nat) (s : List UInt8) (v : V) (h' : Heap) : Prop := match r with
 | .error e => ∃ x : Span, v = .agg (encS x) ∧ Rd h' id s e true ∧ FrO h id h'
 | .ok (x, j) => v = .agg (encS x) ∧ Rd h' id s j false ∧ FrO h id h'

theorem Zp8 {h : Heap} {id : Nat} {s : List UInt8} {i : Nat} (r : Rd h id s i false) (hs : s.length < 2 ^ 30) (hi : i ≤ s.length) :
  Con UY 291 [.p (some (id, 0))] h (ZA7 (Jb s i) h id s) := by
 refine ZL UK (fn := Tryz.f291) (by kernel_rfl) (by kernel_rfl) (Zm UK (loc := UY.loc 291) 100 [2] ?_)
 rw [show (⟨[.p (some (id, 0))] ++ List.replicate (Tryz.f291.ntmps - [V.p (some (id, 0))].length) .undef, [], h⟩ : St) = ⟨.p (some (id, 0)) :: List.replicate 52 .undef, [], h⟩ by rfl, Zvp]
 refine (Zng r hs hi).mono fun v h1 hq => ?_
 cases he : endS s i with
 | error e =>
  rw [he] at hq
  obtain ⟨n, hv, g1, g2⟩ := hq
  refine ⟨n, hv, _, g1.c2, Zd (fun _ => finC (.inr rfl) rfl (.now ?_)) (fun hc => by cases hc)⟩
  simp only [Jb, he]
  exact ⟨⟨n, n⟩, rfl, g1, g2⟩
 | ok x =>
  obtain ⟨lo, j⟩ := x
  rw [he] at hq
  obtain ⟨hv, g1, g2⟩ := hq
  have hj := Zad he
  refine ⟨lo, hv, _, g1.c2, Zd (fun hc => by cases hc) (fun _ => ?_)⟩
  refine ⟨_, Zbb g1 45, Zd (fun hc => ?_) (fun hc => ?_)⟩
  ·have hne : ¬ (s[j]? = some 45) := by simpa using hc
   refine finC (.inr rfl) rfl (.now ?_)
   simp only [Jb, he, hne, if_false]
   exact ⟨rfl, g1, g2⟩
  ·have heq : s[j]? = some 45 := by simpa using hc
   have hjl := (List.getElem?_eq_some_iff.1 heq).1
   obtain ⟨h2, q1, q2, q3⟩ := g1.s1 (j + 1)
   refine ⟨_, g1.c1, h2, by rw [Zf (by omega)]; exact q1, ?_⟩
   refine (Zng q2 hs (by omega)).mono fun v h3 hq => ?_
   have g23 := g2.trans q3
   cases he2 : endS s (j + 1) with
   | error e =>
    rw [he2] at hq
    obtain ⟨n, hv2, p1, p2⟩ := hq
    refine ⟨n, hv2, _, p1.c2, Zd (fun hc => by cases hc) (fun _ => finC (.inr rfl) rfl (.now ?_))⟩
    simp only [Jb, he, heq, if_true, he2]
    exact ⟨⟨lo, n⟩, rfl, p1, g23.trans p2⟩
   | ok y =>
    obtain ⟨hi2, k⟩ := y
    rw [he2] at hq
    obtain ⟨hv2, p1, p2⟩ := hq
    have hk := Zad he2
    refine ⟨hi2, hv2, _, p1.c2, Zd (fun _ => Zw (fun hlt => ?_) (fun hge => ?_)) (fun hc => by cases hc)⟩
    ·obtain ⟨h4, u1, u2, u3⟩ := p1.s2 true
     obtain ⟨h5, w1, w2, w3⟩ := u2.s1 (k - 1)
     refine ⟨h4, u1, _, u2.c1, h5, by rw [Xu (by omega) (by omega), show ((k : Int) - 1) = ((k - 1 : Nat) : Int) by omega]; exact w1, finC (.inr rfl) rfl (.now ?_)⟩
     simp only [Jb, he, heq, if_true, he2, hlt]
     exact ⟨⟨lo, hi2⟩, rfl, w2, ((g23.trans p2).trans u3).trans w3⟩
    ·refine finC (.inr rfl) rfl (.now ?_)
     have hn : ¬ hi2 < lo := by omega
     simp only [Jb, he, heq, if_true, he2, hn, if_false]
     exact ⟨rfl, p1, g23.trans p2⟩

def setQ (r : Except Nat (List Span × Nat)) (h : Heap) (id : Nat) (s : List UInt8) (v : V) (h' : Heap) : Prop := match r with
 | .error e => v = lst encS [] ∧ Rd h' id s e true ∧ FrO h id h'
 | .ok (l, j) => v = lst encS l ∧ Rd h' id s j false ∧ FrO h id h'

def SetI (h0 : Heap) (id : Nat) (s : List UInt8) (R : Except Nat (List Span × Nat)) (m : Nat) (vs : List V) (h : Heap) : Prop :=
 ∃ (i : Nat) (out : List Span) (a : Option (Nat × Nat)) (l : Nat) (c : Option Nat) (k : Nat), vs = [.p (some (id, 0)), .sl a l c k] ∧ Lst encS 2 h a l c k out ∧ (∀ j, a = some (j, 0) → h0.nx ≤ j) ∧
  Rd h id s i false ∧ FrO h0 id h ∧ i ≤ s.length ∧ out.length ≤ i ∧ s.length - i < m ∧ setS m s i out = R

theorem Ze2 {h : Heap} {a : Option (Nat × Nat)} {l : Nat} {c : Option Nat} {kk : Nat} {out : List Span} (x : Span) (hl : Lst encS 2 h a l c kk out) (hb : out.length < 2 ^ 29) :
  ∃ a' l' c' k' h', Zk UY h 218 218 (.sl a l c kk) (.ts (encS x) 1 (some 1)) = some (.sl a' l' c' k', h') ∧ Lst encS 2 h' a' l' c' k' (out ++ [x]) ∧ Fr h a h' ∧ ∃ j, a' = some (j, 0) ∧ h.nx ≤ j :=
 Lst.app1 (Y := UY) (e := 267) (te := ⟨2, 2, .struct [(0, 5), (1, 5)], [.i .u8 0, .i .u8 0]⟩) x (by kernel_rfl) (by kernel_rfl) rfl (by decide) hl (QL _ rfl) rfl rfl rfl (by decide) hb

theorem Zs0 {h : Heap} {id : Nat} {s : List UInt8} {i : Nat} (r : Rd h id s i false) (hs : s.length < 2 ^ 28) (hi : i ≤ s.length) :
  Con UY 277 [.p (some (id, 0))] h (setQ (setS (s.length + 1) s i []) h id s) := by
 refine ZL UK (fn := Tryz.f277) (by kernel_rfl) (by kernel_rfl) ?_
 refine ZH UK (n := 29) (loc := UY.loc 277) 100 [0, 3] (by kernel_rfl) ?_
 rw [show (⟨[.p (some (id, 0))] ++ List.replicate (Tryz.f277.ntmps - [V.p (some (id, 0))].length) .undef, [], h⟩ : St) = ⟨.p (some (id, 0)) :: List.replicate 28 .undef, [], h⟩ by rfl, Zvq]
 generalize hR : setS (s.length + 1) s i [] = R
 refine ⟨rfl, ZK [0, 3] [0, 2, 3] rfl (by kernel_rfl) (SetI h id s R) (s.length + 1) Zu ⟨i, [], none, 0, some 0, 0, rfl, Lst.nil _ _ _ _ _, by simp, r, .refl _ _, hi, by simp, by omega, hR⟩ ?_⟩
 rintro m vs h1 ⟨i, out, a, l, c, k, rfl, hL, hnew, hr, hfr, hi, hol, hm, hg⟩
 refine ZI UK (loc := UY.loc 277) 100 [0, 2, 3] ?_
 rw [Zvr]
 obtain ⟨m, rfl⟩ : ∃ m', m = m' + 1 := ⟨m - 1, by omega⟩
 have hll := hL.len
 -- an item
 have item : ∀ (K : KT), K = Xy UY 29 [0, 2, 3] [0, 3] (SetI h id s R) (m + 1) (Xi (post (flat (Za Tryz.f277)))) ((post (flat (Za Tryz.f277))).drop 1) (FinS UY Tryz.f277 (AfterZ (setQ R h id s))) →
   ¬ (out ≠ [] ∧ s[i]? = some 93) → Con UY 291 [.p (some (id, 0))] h1 fun v h' => ∃ n n_1, v = .agg [.i .u8 n, .i .u8 n_1] ∧ ∃ a' l' c' k' h'', Zk UY h' 218 218 (.sl a l c k) (.ts [.i .u8 n, .i .u8 n_1] 1 (some 1)) = some (.sl a' l' c' k', h'') ∧
   ∃ b : Bool, Zj h'' id 2 1 = some [.b b] ∧ If b (K .ret 29 [.p (some (id, 0)), .sl none 0 (some 0) 0, .sl a' l' c' k'] h'') (K .normal 29 [.p (some (id, 0)), .undef, .sl a' l' c' k'] h'') := by
  rintro K rfl hn
  refine (Zp8 hr (by omega) hi).mono fun v h2 hq => ?_
  have hkeep : FrO h1 id h2 → ∀ j, a = some (j, 0) → j < h1.nx → h2.get j = h1.get j := fun f j hj hl => f.2 j hl (fun e => by have := hnew j hj; have := r.lt; omega)
  have hne : ∀ o, a ≠ some (id, o) := by
   intro o ho
   have h0 := hL.off ho
   subst h0
   have := hnew id ho
   have := r.lt
   omega
  simp only [setS, hn, if_false] at hg
  cases he : Jb s i with
  | error e =>
   rw [he] at hq hg
   obtain ⟨x, rfl, g1, g2⟩ := hq
   obtain ⟨a', l', c', k', h3, q1, q2, q3, j, q4, q5⟩ := Ze2 x (hL.fr g2.1 (hkeep g2)) (by omega)
   have g1' : Rd h3 id s e true := ⟨by rw [q3.2 id g1.lt hne]; exact g1.get, Nat.lt_of_lt_of_le g1.lt q3.1⟩
   refine ⟨_, _, rfl, a', l', c', k', h3, q1, true, g1'.c2, ?_⟩
   refine Zl (.inr rfl) rfl ?_
   subst hg
   refine ⟨[], _, .inl (.frz _ _ (.sln _ _ none (fun x hx => by cases hx))), rfl, g1', ?_⟩
   exact (hfr.trans g2).app (hL.fr g2.1 (hkeep g2)) hnew q3
  | ok y =>
   obtain ⟨x, j⟩ := y
   rw [he] at hq hg
   have hj := Zez he
   obtain ⟨rfl, g1, g2⟩ := hq
   obtain ⟨a', l', c', k', h3, q1, q2, q3, jj, q4, q5⟩ := Ze2 x (hL.fr g2.1 (hkeep g2)) (by omega)
   have g1' : Rd h3 id s j false := ⟨by rw [q3.2 id g1.lt hne]; exact g1.get, Nat.lt_of_lt_of_le g1.lt q3.1⟩
   refine ⟨_, _, rfl, a', l', c', k', h3, q1, false, g1'.c2, rfl, m, by omega, j, out ++ [x], a', l', c', k', rfl, q2, ?_, g1', ?_, hj.2, by simp; omega, by omega, hg⟩
   ·intro j' hj'; rw [q4] at hj'; cases hj'
    have := (hfr.trans g2).1
    omega
   ·exact (hfr.trans g2).app (hL.fr g2.1 (hkeep g2)) hnew q3
 refine Zd (fun hc => item _ rfl ?_) (fun hc => ?_)
 ·rintro ⟨h1, _⟩
  have : out.length = 0 := by rw [← hll]; simpa using hc
  exact h1 (List.eq_nil_of_length_eq_zero this)
 ·have hne : out ≠ [] := by
   intro he; subst he; rw [hll] at hc; simp at hc
  refine ⟨_, Zbb hr 93, Zd (fun hc2 => item _ rfl ?_) (fun hc2 => ?_)⟩
  ·rintro ⟨_, h1⟩; rw [h1] at hc2; simp at hc2
  ·have h93 : s[i]? = some 93 := by simpa using hc2
   have hil := (List.getElem?_eq_some_iff.1 h93).1
   simp only [setS, hne, h93, ne_eq, not_false_eq_true, and_self, if_true] at hg
   refine Ze [0, 3] (by kernel_rfl) rfl rfl ?_
   refine Zm UK (loc := UY.loc 277) 100 [2] ?_
   rw [show pick [0, 2, 3] [0, 3] [V.p (some (id, 0)), V.undef, V.sl a l c k] = [V.p (some (id, 0)), V.sl a l c k] by rfl, Zvs]
   obtain ⟨h2, q1, q2, q3⟩ := hr.s1 (i + 1)
   refine ⟨_, hr.c1, h2, by rw [Zf (by omega)]; exact q1, finC (.inr rfl) rfl ?_⟩
   subst hg
   have hL2 := hL.fr (h' := h2) q3.1 (fun j hj hl => q3.2 j hl (fun e => by have := hnew j hj; have := r.lt; omega))
   obtain ⟨D, hz, hD⟩ := hL2.afterZ (by decide) Za8
   have hDn : ∀ j, j ∈ D → h.nx ≤ j := fun j hj => hnew j (hD j hj)
   refine ⟨D, _, .inl (.frz _ _ hz), rfl, ⟨?_, by rw [Za4]; exact q2.lt⟩, ?_⟩
   ·rw [Wl, if_neg (fun hm => by have := hDn id hm; have := r.lt; omega)]; exact q2.get
   ·have f := hfr.trans q3
    exact ⟨by rw [Za4]; exact f.1, fun j hj hn => by rw [Wl, if_neg (fun hm => by have := hDn j hm; omega)]; exact f.2 j hj hn⟩
theorem Zvu (s0 : List UInt8) (h : Heap) (K : KT) : (Zc UY (UY.loc 235) 100 (pre (flat (Za Tryz.f235))) ⟨(V.s s0 :: List.replicate 33 .undef), [], h⟩ (VQ [0, 2, 3, 4, 5, 6] K)) =
 (If (ltI 200 (↑s0.length : Int))
 (K .ret 34 [.s s0, .sl none 0 (some 0) 0, .i .i64 200, .i .i64 2, .undef, .undef] h)
 (K .normal 34
 [.s s0, .sl none 0 (some 0) 0, .i .i64 0, .i .i64 0, .p (some (h.nx, 0)), .sl none 0 (some 0) 0]
 (h.push (YObj.arr [V.s s0, V.i .i64 0, V.b false] true)))) := by kernel_rfl
theorem Zvv (s0 : List UInt8) (d : Nat) (a6 : Option (Nat × Nat)) (l6 : Nat) (c6 : Option Nat) (k6 : Nat) (h : Heap) (K : KT) : (Zc UY (UY.loc 235) 100 ((flat (Zv (post (flat (Za Tryz.f235)))))) ⟨mk 34 (([0, 5, 6] : List Nat).zip [V.s s0, V.p (some (d, 0)), V.sl a6 l6 c6 k6]), [], h⟩ (VQ [0, 2, 3, 4, 5, 6] K)) =
 (∃ (n : Int),
 Zj h d 1 1 = some [V.i .i64 n] ∧
 If (ltI n (↑s0.length : Int))
 (Con UY 261 [V.p (some (d, 0))] h fun (v : V) (h' : Heap) =>
 ∃ (n n_1 : Int) (cs : List V) (l : Nat) (c : Option Nat), v = V.agg [V.i .i64 n, V.i .u8 n_1, V.ts cs l c] ∧
 ∃ (a : Option (Nat × Nat)) (l_1 : Nat) (c_1 : Option Nat) (k : Nat) (h : Heap), Zk UY h' 177 177 (V.sl a6 l6 c6 k6)
 (V.ts [V.i .i64 n, V.i .u8 n_1, V.ts cs l c] 1 (some 1)) =
 some (V.sl a l_1 c_1 k, h) ∧
 ∃ (b : Bool),
 Zj h d 2 1 = some [V.b b] ∧
 If b
 (∃ (n : Int),
 Zj h d 1 1 = some [V.i .i64 n] ∧
 K .ret 34
 [.s s0, .sl none 0 (some 0) 0, .i .i64 n, .i .i64 1,
 .p (some (d, 0)), .sl a l_1 c_1 k]
 h)
 (K .normal 34
 [.s s0, .undef, .undef, .undef, .p (some (d, 0)), .sl a l_1 c_1 k] h))
 (K (.exit 0) 34 [.s s0, .undef, .undef, .undef, .p (some (d, 0)), .sl a6 l6 c6 k6] h)) := by kernel_rfl
theorem Zvw (a6 : Option (Nat × Nat)) (l6 : Nat) (c6 : Option Nat) (k6 : Nat) (h : Heap) (K : KT) : (Zc UY (UY.loc 235) 100 (((post (flat (Za Tryz.f235))).drop 1)) ⟨mk 34 (([6] : List Nat).zip [V.sl a6 l6 c6 k6]), [], h⟩ (VQ [2, 3, 4] K)) =
 (K .ret 34 [.sl a6 l6 c6 k6, .i .i64 0, .i .i64 0] h) := by kernel_rfl
theorem ZA8 (s0 : List UInt8) (h : Heap) (K : KT) : (Zc UY (UY.loc 99) 100 (pre (flat (Za Tryz.f99))) ⟨(V.s s0 :: List.replicate 70 .undef), [], h⟩ (VQ [0, 2, 3, 4, 5, 6] K)) =
 (If (ltI 200 (↑s0.length : Int))
 (K .ret 71 [.s s0, .sl none 0 (some 0) 0, .i .i64 200, .i .i64 2, .undef, .undef] h)
 (K .normal 71
 [.s s0, .sl none 0 (some 0) 0, .i .i64 0, .i .i64 0, .sl none 0 (some 0) 0, .i .i64 0] h)) := by kernel_rfl
theorem ZA9 (s0 : List UInt8) (d : Option (Nat × Nat)) (e : Nat) (f : Option Nat) (g : Nat) (b : Int) (h : Heap) (K : KT) : (Zc UY (UY.loc 99) 100 ((flat (Zv (post (flat (Za Tryz.f99)))))) ⟨mk 71 (([0, 5, 6] : List Nat).zip [V.s s0, V.sl d e f g, V.i .i64 b]), [], h⟩ (VQ [0, 2, 3, 4, 5, 6] K)) =
 (If (ltI b (↑s0.length : Int))
 (∃ (c : UInt8),
 (0 ≤ b ∧ s0[b.toNat]? = some c) ∧
 If ((↑c.toNat : Int) == 42)
 (∃ (a : Option (Nat × Nat)) (l : Nat) (c : Option Nat) (k : Nat) (h_1 : Heap), Zk UY h 177 177 (V.sl d e f g)
 (V.ts [V.i .i64 2, V.i .u8 0, V.sl none 0 (some 0) 0] 1 (some 1)) =
 some (V.sl a l c k, h_1) ∧
 K .normal 71
 [.s s0, .undef, .undef, .undef, .sl a l c k, .i .i64 (IntKind.i64.wrap (b + 1))]
 h_1)
 (If ((↑c.toNat : Int) == 63)
 (∃ (a : Option (Nat × Nat)) (l : Nat) (c : Option Nat) (k : Nat) (h_1 : Heap), Zk UY h 177 177 (V.sl d e f g)
 (V.ts [V.i .i64 1, V.i .u8 0, V.sl none 0 (some 0) 0] 1 (some 1)) =
 some (V.sl a l c k, h_1) ∧
 K .normal 71
 [.s s0, .undef, .undef, .undef, .sl a l c k, .i .i64 (IntKind.i64.wrap (b + 1))]
 h_1)
 (If ((↑c.toNat : Int) == 91)
 (∃ (cs : List V) (l : Nat) (c : Option Nat) (n n_1 : Int), (PCon UY 143 [V.s s0, V.i .i64 (IntKind.i64.wrap (b + 1))] fun (v : V) =>
 v = V.tup [V.ts cs l c, V.i .i64 n, V.i .i64 n_1]) ∧
 If (ltI n 0)
 (K .ret 71
 [.s s0, .sl none 0 (some 0) 0, .i .i64 n_1, .i .i64 1,
 .sl d e f g, .i .i64 (IntKind.i64.wrap (b + 1))]
 h)
 (∃ (a : Option (Nat × Nat)) (l_1 : Nat) (c_1 : Option Nat) (k : Nat) (h_1 : Heap), Zk UY h 177 177 (V.sl d e f g)
 (V.ts [V.i .i64 3, V.i .u8 0, V.ts cs l c] 1 (some 1)) =
 some (V.sl a l_1 c_1 k, h_1) ∧
 K .normal 71
 [.s s0, .undef, .undef, .undef, .sl a l_1 c_1 k, .i .i64 n] h_1))
 (If ((↑c.toNat : Int) == 92)
 (If (leI (↑s0.length : Int) (IntKind.i64.wrap (b + 1)))
 (K .ret 71
 [.s s0, .sl none 0 (some 0) 0, .i .i64 (IntKind.i64.wrap (b + 1)), .i .i64 1,
 .sl d e f g, .i .i64 (IntKind.i64.wrap (b + 1))]
 h)
 (∃ (c : UInt8),
 (0 ≤ IntKind.i64.wrap (b + 1) ∧ s0[(IntKind.i64.wrap (b + 1)).toNat]? = some c) ∧
 ∃ (a : Option (Nat × Nat)) (l : Nat) (c_1 : Option Nat) (k : Nat) (h_1 : Heap), Zk UY h 177 177 (V.sl d e f g)
 (V.ts [V.i .i64 0, V.i .u8 (↑c.toNat : Int), V.sl none 0 (some 0) 0] 1
 (some 1)) =
 some (V.sl a l c_1 k, h_1) ∧
 K .normal 71
 [.s s0, .undef, .undef, .undef, .sl a l c_1 k,
 .i .i64 (IntKind.i64.wrap (IntKind.i64.wrap (b + 1) + 1))]
 h_1))
 (∃ (a : Option (Nat × Nat)) (l : Nat) (c_1 : Option Nat) (k : Nat) (h_1 : Heap), Zk UY h 177 177 (V.sl d e f g)
 (V.ts [V.i .i64 0, V.i .u8 (↑c.toNat : Int), V.sl none 0 (some 0) 0] 1
 (some 1)) =
 some (V.sl a l c_1 k, h_1) ∧
 K .normal 71
 [.s s0, .undef, .undef, .undef, .sl a l c_1 k,
 .i .i64 (IntKind.i64.wrap (b + 1))]
 h_1)))))
 (K (.exit 0) 71 [.s s0, .undef, .undef, .undef, .sl d e f g, .i .i64 b] h)) := by kernel_rfl
theorem ZBa (a : Option (Nat × Nat)) (b : Nat) (c : Option Nat) (d : Nat) (h : Heap) (K : KT) : (Zc UY (UY.loc 99) 100 (((post (flat (Za Tryz.f99))).drop 1)) ⟨mk 71 (([5] : List Nat).zip [V.sl a b c d]), [], h⟩ (VQ [2, 3, 4] K)) =
 (K .ret 71 [.sl a b c d, .i .i64 0, .i .i64 0] h) := by kernel_rfl
theorem Zvx (s0 : List UInt8) (x1 : Int) (h : Heap) (K : KT) : (Zc UY (UY.loc 143) 100 (pre (flat (Za Tryz.f143))) ⟨(V.s s0 :: V.i .i64 x1 :: List.replicate 79 .undef), [], h⟩ (VQ [0, 1, 3, 4, 7, 9] K)) =
 (K .normal 81 [.s s0, .i .i64 x1, .undef, .sl none 0 (some 0) 0, .sl none 0 (some 0) 0, .undef] h) := by kernel_rfl
theorem Zvy (s0 : List UInt8) (x1 : Int) (d : Option (Nat × Nat)) (b : Nat) (e : Option Nat) (f : Nat) (g : V) (h : Heap) (K : KT) : (Zc UY (UY.loc 143) 100 ((flat (Zv (post (flat (Za Tryz.f143)))))) ⟨mk 81 (([0, 1, 3, 4, 7, 9] : List Nat).zip [V.s s0, V.i .i64 x1, V.undef, V.sl none 0 (some 0) 0, V.sl d b e f, g]), [], h⟩ (VQ [0, 1, 3, 4, 5, 6, 7, 9] K)) =
 (If (ltI 0 b)
 (If (ltI x1 (↑s0.length : Int))
 (∃ (c : UInt8),
 (0 ≤ x1 ∧ s0[x1.toNat]? = some c) ∧
 If ((↑c.toNat : Int) == 93)
 (K .ret 81
 [.s s0, .i .i64 x1, .undef, .sl d b e f, .i .i64 (IntKind.i64.wrap (x1 + 1)),
 .i .i64 0, .sl d b e f, g]
 h)
 (∃ (n n_1 n_2 : Int), (PCon UY 186 [V.s s0, V.i .i64 x1] fun (v : V) =>
 v = V.tup [V.i .u8 n, V.i .i64 n_1, V.i .i64 n_2]) ∧
 If (ltI n_1 0)
 (K .ret 81
 [.s s0, .i .i64 x1, .undef, .sl none 0 (some 0) 0, .i .i64 (-1),
 .i .i64 n_2, .sl d b e f, .i .i64 n_1]
 h)
 (If (ltI (IntKind.i64.wrap (x1 + n_1)) (↑s0.length : Int))
 (∃ (c : UInt8),
 (0 ≤ IntKind.i64.wrap (x1 + n_1) ∧ s0[(IntKind.i64.wrap (x1 + n_1)).toNat]? = some c) ∧
 If ((↑c.toNat : Int) == 45)
 (∃ (n_3 n_4 n_5 : Int), (PCon UY 186
 [V.s s0, V.i .i64 (IntKind.i64.wrap (IntKind.i64.wrap (x1 + n_1) + 1))]
 fun (v : V) =>
 v = V.tup [V.i .u8 n_3, V.i .i64 n_4, V.i .i64 n_5]) ∧
 If (ltI n_4 0)
 (K .ret 81
 [.s s0, .i .i64 (IntKind.i64.wrap (x1 + n_1)), .undef,
 .sl none 0 (some 0) 0, .i .i64 (-1), .i .i64 n_5,
 .sl d b e f, .i .i64 n_4]
 h)
 (If (ltI n_3 n)
 (K .ret 81
 [.s s0, .i .i64 (IntKind.i64.wrap (x1 + n_1)), .undef,
 .sl none 0 (some 0) 0, .i .i64 (-1),
 .i .i64 (IntKind.i64.wrap (IntKind.i64.wrap (x1 + n_1) + n_4)),
 .sl d b e f, .i .i64 n_4]
 h)
 (∃ (a : Option (Nat × Nat)) (l : Nat) (c : Option Nat) (k : Nat) (h_1 : Heap), Zk UY h 218 218 (V.sl d b e f)
 (V.ts [V.i .u8 n, V.i .u8 n_3] 1 (some 1)) =
 some (V.sl a l c k, h_1) ∧
 K .normal 81
 [.s s0,
 .i IntKind.i64
 (IntKind.i64.wrap
 (IntKind.i64.wrap (IntKind.i64.wrap (x1 + n_1) + 1) + n_4)),
 .undef, .sl none 0 (some 0) 0, .undef, .undef, .sl a l c k,
 .i .i64 n_4]
 h_1)))
 (∃ (a : Option (Nat × Nat)) (l : Nat) (c : Option Nat) (k : Nat) (h_1 : Heap), Zk UY h 218 218 (V.sl d b e f)
 (V.ts [V.i .u8 n, V.i .u8 n] 1 (some 1)) =
 some (V.sl a l c k, h_1) ∧
 K .normal 81
 [.s s0, .i .i64 (IntKind.i64.wrap (x1 + n_1)), .undef,
 .sl none 0 (some 0) 0, .undef, .undef, .sl a l c k, .i .i64 n_1]
 h_1))
 (∃ (a : Option (Nat × Nat)) (l : Nat) (c : Option Nat) (k : Nat) (h_1 : Heap), Zk UY h 218 218 (V.sl d b e f)
 (V.ts [V.i .u8 n, V.i .u8 n] 1 (some 1)) =
 some (V.sl a l c k, h_1) ∧
 K .normal 81
 [.s s0, .i .i64 (IntKind.i64.wrap (x1 + n_1)), .undef,
 .sl none 0 (some 0) 0, .undef, .undef, .sl a l c k, .i .i64 n_1]
 h_1))))
 (∃ (n n_1 n_2 : Int), (PCon UY 186 [V.s s0, V.i .i64 x1] fun (v : V) =>
 v = V.tup [V.i .u8 n, V.i .i64 n_1, V.i .i64 n_2]) ∧
 If (ltI n_1 0)
 (K .ret 81
 [.s s0, .i .i64 x1, .undef, .sl none 0 (some 0) 0, .i .i64 (-1), .i .i64 n_2,
 .sl d b e f, .i .i64 n_1]
 h)
 (If (ltI (IntKind.i64.wrap (x1 + n_1)) (↑s0.length : Int))
 (∃ (c : UInt8),
 (0 ≤ IntKind.i64.wrap (x1 + n_1) ∧ s0[(IntKind.i64.wrap (x1 + n_1)).toNat]? = some c) ∧
 If ((↑c.toNat : Int) == 45)
 (∃ (n_3 n_4 n_5 : Int), (PCon UY 186
 [V.s s0, V.i .i64 (IntKind.i64.wrap (IntKind.i64.wrap (x1 + n_1) + 1))]
 fun (v : V) =>
 v = V.tup [V.i .u8 n_3, V.i .i64 n_4, V.i .i64 n_5]) ∧
 If (ltI n_4 0)
 (K .ret 81
 [.s s0, .i .i64 (IntKind.i64.wrap (x1 + n_1)), .undef,
 .sl none 0 (some 0) 0, .i .i64 (-1), .i .i64 n_5,
 .sl d b e f, .i .i64 n_4]
 h)
 (If (ltI n_3 n)
 (K .ret 81
 [.s s0, .i .i64 (IntKind.i64.wrap (x1 + n_1)), .undef,
 .sl none 0 (some 0) 0, .i .i64 (-1),
 .i .i64 (IntKind.i64.wrap (IntKind.i64.wrap (x1 + n_1) + n_4)),
 .sl d b e f, .i .i64 n_4]
 h)
 (∃ (a : Option (Nat × Nat)) (l : Nat) (c : Option Nat) (k : Nat) (h_1 : Heap), Zk UY h 218 218 (V.sl d b e f)
 (V.ts [V.i .u8 n, V.i .u8 n_3] 1 (some 1)) =
 some (V.sl a l c k, h_1) ∧
 K .normal 81
 [.s s0,
 .i IntKind.i64
 (IntKind.i64.wrap
 (IntKind.i64.wrap (IntKind.i64.wrap (x1 + n_1) + 1) + n_4)),
 .undef, .sl none 0 (some 0) 0, .undef, .undef, .sl a l c k,
 .i .i64 n_4]
 h_1)))
 (∃ (a : Option (Nat × Nat)) (l : Nat) (c : Option Nat) (k : Nat) (h_1 : Heap), Zk UY h 218 218 (V.sl d b e f)
 (V.ts [V.i .u8 n, V.i .u8 n] 1 (some 1)) =
 some (V.sl a l c k, h_1) ∧
 K .normal 81
 [.s s0, .i .i64 (IntKind.i64.wrap (x1 + n_1)), .undef,
 .sl none 0 (some 0) 0, .undef, .undef, .sl a l c k, .i .i64 n_1]
 h_1))
 (∃ (a : Option (Nat × Nat)) (l : Nat) (c : Option Nat) (k : Nat) (h_1 : Heap), Zk UY h 218 218 (V.sl d b e f)
 (V.ts [V.i .u8 n, V.i .u8 n] 1 (some 1)) =
 some (V.sl a l c k, h_1) ∧
 K .normal 81
 [.s s0, .i .i64 (IntKind.i64.wrap (x1 + n_1)), .undef, .sl none 0 (some 0) 0,
 .undef, .undef, .sl a l c k, .i .i64 n_1]
 h_1))))
 (∃ (n n_1 n_2 : Int), (PCon UY 186 [V.s s0, V.i .i64 x1] fun (v : V) =>
 v = V.tup [V.i .u8 n, V.i .i64 n_1, V.i .i64 n_2]) ∧
 If (ltI n_1 0)
 (K .ret 81
 [.s s0, .i .i64 x1, .undef, .sl none 0 (some 0) 0, .i .i64 (-1), .i .i64 n_2,
 .sl d b e f, .i .i64 n_1]
 h)
 (If (ltI (IntKind.i64.wrap (x1 + n_1)) (↑s0.length : Int))
 (∃ (c : UInt8),
 (0 ≤ IntKind.i64.wrap (x1 + n_1) ∧ s0[(IntKind.i64.wrap (x1 + n_1)).toNat]? = some c) ∧
 If ((↑c.toNat : Int) == 45)
 (∃ (n_3 n_4 n_5 : Int), (PCon UY 186 [V.s s0, V.i .i64 (IntKind.i64.wrap (IntKind.i64.wrap (x1 + n_1) + 1))]
 fun v => v = V.tup [V.i .u8 n_3, V.i .i64 n_4, V.i .i64 n_5]) ∧
 If (ltI n_4 0)
 (K .ret 81
 [.s s0, .i .i64 (IntKind.i64.wrap (x1 + n_1)), .undef, .sl none 0 (some 0) 0,
 .i .i64 (-1), .i .i64 n_5, .sl d b e f,
 .i .i64 n_4]
 h)
 (If (ltI n_3 n)
 (K .ret 81
 [.s s0, .i .i64 (IntKind.i64.wrap (x1 + n_1)), .undef,
 .sl none 0 (some 0) 0, .i .i64 (-1),
 .i .i64 (IntKind.i64.wrap (IntKind.i64.wrap (x1 + n_1) + n_4)),
 .sl d b e f, .i .i64 n_4]
 h)
 (∃ (a : Option (Nat × Nat)) (l : Nat) (c : Option Nat) (k : Nat) (h_1 : Heap), Zk UY h 218 218 (V.sl d b e f)
 (V.ts [V.i .u8 n, V.i .u8 n_3] 1 (some 1)) =
 some (V.sl a l c k, h_1) ∧
 K .normal 81
 [.s s0,
 .i IntKind.i64
 (IntKind.i64.wrap
 (IntKind.i64.wrap (IntKind.i64.wrap (x1 + n_1) + 1) + n_4)),
 .undef, .sl none 0 (some 0) 0, .undef, .undef, .sl a l c k,
 .i .i64 n_4]
 h_1)))
 (∃ (a : Option (Nat × Nat)) (l : Nat) (c : Option Nat) (k : Nat) (h_1 : Heap), Zk UY h 218 218 (V.sl d b e f)
 (V.ts [V.i .u8 n, V.i .u8 n] 1 (some 1)) =
 some (V.sl a l c k, h_1) ∧
 K .normal 81
 [.s s0, .i .i64 (IntKind.i64.wrap (x1 + n_1)), .undef,
 .sl none 0 (some 0) 0, .undef, .undef, .sl a l c k, .i .i64 n_1]
 h_1))
 (∃ (a : Option (Nat × Nat)) (l : Nat) (c : Option Nat) (k : Nat) (h_1 : Heap), Zk UY h 218 218 (V.sl d b e f)
 (V.ts [V.i .u8 n, V.i .u8 n] 1 (some 1)) =
 some (V.sl a l c k, h_1) ∧
 K .normal 81
 [.s s0, .i .i64 (IntKind.i64.wrap (x1 + n_1)), .undef, .sl none 0 (some 0) 0,
 .undef, .undef, .sl a l c k, .i .i64 n_1]
 h_1)))) := by kernel_rfl
theorem Zvz (s0 : List UInt8) (x1 : Int) (h : Heap) (K : KT) : (Zc UY (UY.loc 186) 100 ((flat (Za Tryz.f186))) ⟨(V.s s0 :: V.i .i64 x1 :: List.replicate 40 .undef), [], h⟩ (VQ [4, 5, 6] K)) =
 (If (leI (↑s0.length : Int) x1) (K .ret 42 [.i .u8 0, .i .i64 (-1), .i .i64 x1] h)
 (∃ (c : UInt8),
 (0 ≤ x1 ∧ s0[x1.toNat]? = some c) ∧
 If ((↑c.toNat : Int) == 93) (K .ret 42 [.i .u8 0, .i .i64 (-1), .i .i64 x1] h)
 (∃ (c : UInt8),
 (0 ≤ x1 ∧ s0[x1.toNat]? = some c) ∧
 If ((↑c.toNat : Int) == 45) (K .ret 42 [.i .u8 0, .i .i64 (-1), .i .i64 x1] h)
 (∃ (c : UInt8),
 (0 ≤ x1 ∧ s0[x1.toNat]? = some c) ∧
 If ((↑c.toNat : Int) != 92)
 (∃ (c : UInt8),
 (0 ≤ x1 ∧ s0[x1.toNat]? = some c) ∧
 K .ret 42 [.i .u8 (↑c.toNat : Int), .i .i64 1, .i .i64 0] h)
 (If (leI (↑s0.length : Int) (IntKind.i64.wrap (x1 + 1)))
 (K .ret 42
 [.i .u8 0, .i .i64 (-1), .i .i64 (IntKind.i64.wrap (x1 + 1))] h)
 (∃ (c : UInt8),
 (0 ≤ IntKind.i64.wrap (x1 + 1) ∧ s0[(IntKind.i64.wrap (x1 + 1)).toNat]? = some c) ∧
 K .ret 42 [.i .u8 (↑c.toNat : Int), .i .i64 2, .i .i64 0] h)))))) := by kernel_rfl
theorem Zv0 (a : List V) (n0 : Nat) (h : Heap) (K : KT) : (Zc UY (UY.loc 162) 100 (pre (flat (Za Tryz.f162))) ⟨(V.ts a n0 none :: List.replicate 15 .undef), [], h⟩ (VQ [0, 3] K)) =
 (K .normal 16 [.ts a n0 none, .i .i64 0] h) := by kernel_rfl
theorem Zv1 (a : List V) (n0 : Nat) (x3 : Int) (h : Heap) (K : KT) : (Zc UY (UY.loc 162) 100 ((flat (Zv (post (flat (Za Tryz.f162)))))) ⟨mk 16 (([0, 3] : List Nat).zip [V.ts a n0 none, V.i .i64 x3]), [], h⟩ (VQ [0, 2, 3] K)) =
 (If (ltI x3 n0)
 ((0 ≤ x3 ∧ x3 < n0) ∧
 ∃ (n n_1 : Int) (cs : List V) (l : Nat) (c : Option Nat), Zh 3 (List.drop (x3.toNat * 3) a) = some [V.i .i64 n, V.i .u8 n_1, V.ts cs l c] ∧
 ∃ (b : Bool),
 (PCon UY 196 [V.agg [V.i .i64 n, V.i .u8 n_1, V.ts cs l c]] fun (v : V) =>
 v = V.b b) ∧
 If (!b) (K .ret 16 [.ts a n0 none, .b false, .i .i64 x3] h)
 (K .normal 16 [.ts a n0 none, .undef, .i .i64 (IntKind.i64.wrap (x3 + 1))] h))
 (K (.exit 0) 16 [.ts a n0 none, .undef, .i .i64 x3] h)) := by kernel_rfl
theorem Zv2 (h : Heap) (K : KT) : (Zc UY (UY.loc 162) 100 (((post (flat (Za Tryz.f162))).drop 1)) ⟨mk 16 (([] : List Nat).zip []), [], h⟩ (VQ [2] K)) =
 (K .ret 16 [.b true] h) := by kernel_rfl
theorem Zv3 (a d : Int) (e : List V) (c : Nat) (h : Heap) (K : KT) : (Zc UY (UY.loc 196) 100 (pre (flat (Za Tryz.f196))) ⟨(V.agg [V.i .i64 a, V.i .u8 d, V.ts e c none] :: List.replicate 53 .undef), [], h⟩ (VQ [1, 2, 3] K)) =
 (If (a == 0)
 (K .ret 54
 [.lb [.i .i64 a, .i .u8 d, .ts e c none], .b ((↑c : Int) == 0),
 .undef]
 h)
 (If (d != 0)
 (K .ret 54 [.lb [.i .i64 a, .i .u8 d, .ts e c none], .b false, .undef]
 h)
 (If (ltI a 1)
 (K .ret 54
 [.lb [.i .i64 a, .i .u8 d, .ts e c none], .b false, .undef] h)
 (If (ltI 3 a)
 (K .ret 54
 [.lb [.i .i64 a, .i .u8 d, .ts e c none], .b false, .undef] h)
 (If (!(a == 3) == ltI 0 c)
 (K .ret 54
 [.lb [.i .i64 a, .i .u8 d, .ts e c none], .b false, .undef] h)
 (K .normal 54
 [.lb [.i .i64 a, .i .u8 d, .ts e c none], .b false,
 .i .i64 0]
 h)))))) := by kernel_rfl
theorem Zv4 (d e : Int) (c : List V) (a : Nat) (x3 : Int) (h : Heap) (K : KT) : (Zc UY (UY.loc 196) 100 ((flat (Zv (post (flat (Za Tryz.f196)))))) ⟨mk 54 (([1, 3] : List Nat).zip [V.lb [V.i .i64 d, V.i .u8 e, V.ts c a none], V.i .i64 x3]), [], h⟩ (VQ [1, 2, 3] K)) =
 (If (ltI x3 a)
 ((0 ≤ x3 ∧ x3 < a) ∧
 ∃ (n : Int),
 Zh 1 (List.drop 0 (List.drop (x3.toNat * 2) c)) = some [V.i .u8 n] ∧
 (0 ≤ x3 ∧ x3 < a) ∧
 ∃ (n_1 : Int),
 Zh 1 (List.drop 1 (List.drop (x3.toNat * 2) c)) = some [V.i .u8 n_1] ∧
 If (ltI n_1 n)
 (K .ret 54
 [.lb [.i .i64 d, .i .u8 e, .ts c a none], .b false,
 .i .i64 x3]
 h)
 (K .normal 54
 [.lb [.i .i64 d, .i .u8 e, .ts c a none], .undef,
 .i .i64 (IntKind.i64.wrap (x3 + 1))]
 h))
 (K (.exit 0) 54
 [.lb [.i .i64 d, .i .u8 e, .ts c a none], .undef, .i .i64 x3] h)) := by kernel_rfl
theorem Zv5 (h : Heap) (K : KT) : (Zc UY (UY.loc 196) 100 (((post (flat (Za Tryz.f196))).drop 1)) ⟨mk 54 (([] : List Nat).zip []), [], h⟩ (VQ [2] K)) =
 (K .ret 54 [.b true] h) := by kernel_rfl
end Go.Y
