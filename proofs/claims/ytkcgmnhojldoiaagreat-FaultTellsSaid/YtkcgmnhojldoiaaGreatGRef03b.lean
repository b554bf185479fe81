/- souffleurref03.Parse and Same, by their contracts. -/
import Derived.Test.YtkcgmnhojldoiaaGreatGParse
import Derived.Test.YtkcgmnhojldoiaaGreatYTryzP
import Derived.Test.YtkcgmnhojldoiaaGreatYLoop
namespace Go.Y
open Go.Proofs
set_option maxRecDepth 1000000
set_option maxHeartbeats 0
def Znl (s : List UInt8) (R : Except Nat (List Glob)) (m : Nat) (vs : List V) (h : Heap) : Prop :=
 ∃ (i : Nat) (out : List Glob) (a : Option (Nat × Nat)) (l : Nat) (c : Option Nat) (k : Nat), vs = [.s s, .sl a l c k, .i .i64 (i : Nat)] ∧ Lst encG 3 h a l c k out ∧
  i ≤ s.length ∧ out.length ≤ i ∧ s.length - i < m ∧ Qw m s i out = R

theorem Zqa (k b : Int) : FrzL .empty [.i .i64 k, .i .u8 b, .sl none 0 (some 0) 0] (encG ⟨k, b, []⟩) :=
 .cons _ _ _ _ (.i _ _) (.cons _ _ _ _ (.i _ _) (.cons _ _ _ _ (.sln _ _ none (fun x hx => by cases hx)) .nil))

theorem Zdl (s : List UInt8) : PCon UY 99 [.s s] (· = Zas s) := by
 refine Zt UK (fn := Tryz.f99) (by kernel_rfl) (by kernel_rfl) rfl ?_
 refine ZH UK (n := 71) (loc := UY.loc 99) 100 [0, 2, 3, 4, 5, 6] (by kernel_rfl) ?_
 rw [show (⟨[.s s] ++ List.replicate (Tryz.f99.ntmps - [V.s s].length) .undef, [], .empty⟩ : St) = ⟨.s s :: List.replicate 70 .undef, [], .empty⟩ by rfl, ZA8]
 unfold Zas
 refine Zw (fun hlt => ?_) (fun hge => ?_)
 ·rw [if_pos (by omega)]
  exact fin3 (.inr rfl) rfl (Zab encG _ _ _) (.i _ _) (.i _ _) rfl
 have hs : s.length ≤ 200 := by omega
 rw [if_neg (by omega)]
 generalize hR : Qw (s.length + 1) s 0 [] = R
 refine ⟨rfl, ZK [0, 5, 6] [0, 2, 3, 4, 5, 6] rfl (by kernel_rfl) (Znl s R) (s.length + 1) Zu
  ⟨0, [], none, 0, some 0, 0, rfl, Lst.nil _ _ _ _ _, by omega, by simp, by omega, hR⟩ ?_⟩
 rintro m vs h ⟨i, out, a, l, c, k, rfl, hL, hi, hol, hm, hg⟩
 refine ZI UK (loc := UY.loc 99) 100 [0, 2, 3, 4, 5, 6] ?_
 rw [ZA9]
 obtain ⟨m, rfl⟩ : ∃ m', m = m' + 1 := ⟨m - 1, by omega⟩
 have hll := hL.len
 refine Zg (fun hlt => ?_) (fun hge => ?_)
 ·have hsi : s[i]? = some s[i] := by simp [hlt]
  simp only [Qw, hlt, if_true] at hg
  -- one more piece
  have more : ∀ (x : Glob) (j : Nat) (new : List V), Xb s i = .ok (x, j) → new.length = 3 → Zx new = true → Xr new = true → FrzL .empty new (encG x) → ∀ v6 : Int, v6 = (j : Nat) →
    ∃ (a' : Option (Nat × Nat)) (l' : Nat) (c' : Option Nat) (k' : Nat) (h_1 : Heap), Zk UY h 177 177 (.sl a l c k) (.ts new 1 (some 1)) = some (.sl a' l' c' k', h_1) ∧
     Xy UY 71 [0, 2, 3, 4, 5, 6] [0, 5, 6] (Znl s R) (m + 1) (Xi (post (flat (Za Tryz.f99)))) ((post (flat (Za Tryz.f99))).drop 1)
      (FinS UY Tryz.f99 fun v h => ∃ r, Frz h v r ∧ r = match R with | .error e => .tup [lst encG [], .i .i64 (e : Nat), .i .i64 1] | .ok l => .tup [lst encG l, .i .i64 0, .i .i64 0])
      .normal 71 [.s s, .undef, .undef, .undef, .sl a' l' c' k', .i .i64 v6] h_1 := by
   rintro x j new hp h1 h2 h3 h4 v6 rfl
   have hj := Zb4 hp
   obtain ⟨a', l', c', k', h', q1, q2, _⟩ := Ze3 x h1 h2 h3 h4 hL (by omega)
   rw [hp] at hg
   exact ⟨a', l', c', k', h', q1, rfl, m, by omega, j, out ++ [x], a', l', c', k', rfl, q2, hj.2, by simp; omega, by omega, hg⟩
  refine ⟨s[i], ⟨by omega, by simp [hlt]⟩, ?_⟩
  rw [show (42 : Int) = (((42 : UInt8).toNat : Nat) : Int) by decide, show (63 : Int) = (((63 : UInt8).toNat : Nat) : Int) by decide, show (91 : Int) = (((91 : UInt8).toNat : Nat) : Int) by decide, show (92 : Int) = (((92 : UInt8).toNat : Nat) : Int) by decide, JE, JE, JE, JE, Zf (by omega)]
  refine JY (fun c1 => ?_) (fun c1 => ?_)
  ·exact more ⟨2, 0, []⟩ (i + 1) _ (by unfold Xb; rw [hsi]; simp only []; rw [if_pos c1]) rfl rfl rfl (Zqa _ _) _ rfl
  refine JY (fun c2 => ?_) (fun c2 => ?_)
  ·exact more ⟨1, 0, []⟩ (i + 1) _ (by unfold Xb; rw [hsi]; simp only []; rw [if_neg c1, if_pos c2]) rfl rfl rfl (Zqa _ _) _ rfl
  refine JY (fun c3 => ?_) (fun c3 => ?_)
  ·have hc := Znk s (i + 1) (by omega) (by omega)
   cases he : setS (s.length + 1) s (i + 1) [] with
   | error e =>
    have hp : Xb s i = .error e := by unfold Xb; rw [hsi]; simp only []; rw [if_neg c1, if_neg c2, if_pos c3, he]
    rw [he] at hc
    rw [hp] at hg
    refine ⟨_, _, _, _, _, hc, Zw (fun _ => ?_) (fun h => by omega)⟩
    subst hg
    exact fin3 (.inr rfl) rfl (Zab encG _ _ _) (.i _ _) (.i _ _) rfl
   | ok y =>
    obtain ⟨l1, j⟩ := y
    have hp : Xb s i = .ok (⟨3, 0, l1⟩, j) := by unfold Xb; rw [hsi]; simp only []; rw [if_neg c1, if_neg c2, if_pos c3, he]
    rw [he] at hc
    exact ⟨_, _, _, _, _, hc, Zw (fun h => by omega) (fun _ => more ⟨3, 0, l1⟩ j _ hp rfl rfl rfl (QL _ rfl) _ rfl)⟩
  refine JY (fun c4 => ?_) (fun c4 => ?_)
  ·refine Qz (fun hle => ?_) (fun hl2 => ?_)
   ·have hp : Xb s i = .error (i + 1) := by unfold Xb; rw [hsi]; simp only []; rw [if_neg c1, if_neg c2, if_neg c3, if_pos c4, List.getElem?_eq_none (by omega)]
    rw [hp] at hg
    subst hg
    exact fin3 (.inr rfl) rfl (Zab encG _ _ _) (.i _ _) (.i _ _) rfl
   ·have hl : i + 1 < s.length := by omega
    refine ⟨s[i + 1], ⟨by omega, by rw [show (((i + 1 : Nat) : Int)).toNat = i + 1 by omega]; simp [hl]⟩, ?_⟩
    rw [Zf (by omega)]
    exact more ⟨0, s[i + 1].toNat, []⟩ (i + 2) _ (by unfold Xb; rw [hsi]; simp only []; rw [if_neg c1, if_neg c2, if_neg c3, if_pos c4]; simp [hl]) rfl rfl rfl (Zqa _ _) _ rfl
  ·exact more ⟨0, s[i].toNat, []⟩ (i + 1) _ (by unfold Xb; rw [hsi]; simp only []; rw [if_neg c1, if_neg c2, if_neg c3, if_neg c4]) rfl rfl rfl (Zqa _ _) _ rfl
 ·refine Ze [5] (by kernel_rfl) rfl rfl ?_
  refine Zm UK (loc := UY.loc 99) 100 [2, 3, 4] ?_
  rw [show pick [0, 2, 3, 4, 5, 6] [5] [V.s s, V.undef, V.undef, V.undef, V.sl a l c k, .i .i64 (i : Nat)] = [V.sl a l c k] by rfl, ZBa]
  simp only [Qw, Nat.not_lt.2 hge, if_false] at hg
  subst hg
  exact Zs1 (.inr rfl) rfl (hL.frz (by decide) Ji) (.i _ _) (.i _ _) rfl
theorem Zv8 (a : Int) (d : List UInt8) (g e f m : Int) (o : List V) (j : Nat) (h : Heap) (K : KT) : (Zc UY (UY.loc 106) 100 ((flat (Za Tryz.f106))) ⟨(V.agg [V.i .i64 a, V.s d, V.i .i64 g, V.i .i64 e, V.i .i64 f] :: V.agg [V.i .i64 m, V.ts o j none] :: List.replicate 106 .undef), [], h⟩ (VQ [4] K)) =
 (If (leI 0 g)
 (If (leI g 9)
 (If (e == (-1 : Int))
 (If (leI 0 f)
 (If (a == (1 : Int))
 (If (ltI f j)
 (If (leI 1 (↑d.length : Int))
 (K .ret 108 [.b (leI (↑d.length : Int) m)] h)
 (K .ret 108 [.b false] h))
 (K .ret 108 [.b false] h))
 (If (a == (2 : Int))
 (∃ (cs : List V) (l : Nat) (c : Option Nat) (n n_1 : Int), (PCon UY 99 [V.s d] fun (v : V) =>
 v = V.tup [V.ts cs l c, V.i .i64 n, V.i .i64 n_1]) ∧
 If (g == (0 : Int))
 (If (e == (0 : Int))
 (If (ltI f j) (K .ret 108 [.b (n_1 == (0 : Int))] h)
 (K .ret 108 [.b false] h))
 (K .ret 108 [.b false] h))
 (K .ret 108 [.b false] h))
 (If (a == (3 : Int))
 (If (f == (0 : Int)) (K .ret 108 [.b (d == #[].toList)] h)
 (K .ret 108 [.b false] h))
 (K .ret 108 [.b false] h))))
 (If (a == (1 : Int)) (K .ret 108 [.b false] h)
 (If (a == (2 : Int))
 (∃ (cs : List V) (l : Nat) (c : Option Nat) (n n_1 : Int), (PCon UY 99 [V.s d] fun (v : V) =>
 v = V.tup [V.ts cs l c, V.i .i64 n, V.i .i64 n_1]) ∧
 If (g == (0 : Int))
 (If (e == (0 : Int)) (K .ret 108 [.b false] h)
 (K .ret 108 [.b false] h))
 (K .ret 108 [.b false] h))
 (If (a == (3 : Int))
 (If (f == (0 : Int)) (K .ret 108 [.b (d == #[].toList)] h)
 (K .ret 108 [.b false] h))
 (K .ret 108 [.b false] h)))))
 (If (leI g e)
 (If (leI 0 f)
 (If (a == (1 : Int))
 (If (leI e 9)
 (If (ltI f j)
 (If (leI 1 (↑d.length : Int))
 (K .ret 108 [.b (leI (↑d.length : Int) m)] h)
 (K .ret 108 [.b false] h))
 (K .ret 108 [.b false] h))
 (K .ret 108 [.b false] h))
 (If (a == (2 : Int))
 (∃ (cs : List V) (l : Nat) (c : Option Nat) (n n_1 : Int), (PCon UY 99 [V.s d] fun (v : V) =>
 v = V.tup [V.ts cs l c, V.i .i64 n, V.i .i64 n_1]) ∧
 If (g == (0 : Int))
 (If (e == (0 : Int))
 (If (ltI f j) (K .ret 108 [.b (n_1 == (0 : Int))] h)
 (K .ret 108 [.b false] h))
 (K .ret 108 [.b false] h))
 (K .ret 108 [.b false] h))
 (If (a == (3 : Int))
 (If (leI e 9)
 (If (f == (0 : Int)) (K .ret 108 [.b (d == #[].toList)] h)
 (K .ret 108 [.b false] h))
 (K .ret 108 [.b false] h))
 (K .ret 108 [.b false] h))))
 (If (a == (1 : Int))
 (If (leI e 9) (K .ret 108 [.b false] h) (K .ret 108 [.b false] h))
 (If (a == (2 : Int))
 (∃ (cs : List V) (l : Nat) (c : Option Nat) (n n_1 : Int), (PCon UY 99 [V.s d] fun (v : V) =>
 v = V.tup [V.ts cs l c, V.i .i64 n, V.i .i64 n_1]) ∧
 If (g == (0 : Int))
 (If (e == (0 : Int)) (K .ret 108 [.b false] h)
 (K .ret 108 [.b false] h))
 (K .ret 108 [.b false] h))
 (If (a == (3 : Int))
 (If (leI e 9)
 (If (f == (0 : Int)) (K .ret 108 [.b (d == #[].toList)] h)
 (K .ret 108 [.b false] h))
 (K .ret 108 [.b false] h))
 (K .ret 108 [.b false] h)))))
 (If (leI 0 f)
 (If (a == (1 : Int)) (K .ret 108 [.b false] h)
 (If (a == (2 : Int))
 (∃ (cs : List V) (l : Nat) (c : Option Nat) (n n_1 : Int), (PCon UY 99 [V.s d] fun (v : V) =>
 v = V.tup [V.ts cs l c, V.i .i64 n, V.i .i64 n_1]) ∧
 If (g == (0 : Int))
 (If (e == (0 : Int))
 (If (ltI f j) (K .ret 108 [.b (n_1 == (0 : Int))] h)
 (K .ret 108 [.b false] h))
 (K .ret 108 [.b false] h))
 (K .ret 108 [.b false] h))
 (If (a == (3 : Int)) (K .ret 108 [.b false] h)
 (K .ret 108 [.b false] h))))
 (If (a == (1 : Int)) (K .ret 108 [.b false] h)
 (If (a == (2 : Int))
 (∃ (cs : List V) (l : Nat) (c : Option Nat) (n n_1 : Int), (PCon UY 99 [V.s d] fun (v : V) =>
 v = V.tup [V.ts cs l c, V.i .i64 n, V.i .i64 n_1]) ∧
 If (g == (0 : Int))
 (If (e == (0 : Int)) (K .ret 108 [.b false] h)
 (K .ret 108 [.b false] h))
 (K .ret 108 [.b false] h))
 (If (a == (3 : Int)) (K .ret 108 [.b false] h)
 (K .ret 108 [.b false] h)))))))
 (If (leI 0 f)
 (If (a == (1 : Int)) (K .ret 108 [.b false] h)
 (If (a == (2 : Int))
 (∃ (cs : List V) (l : Nat) (c : Option Nat) (n n_1 : Int), (PCon UY 99 [V.s d] fun (v : V) =>
 v = V.tup [V.ts cs l c, V.i .i64 n, V.i .i64 n_1]) ∧
 If (g == (0 : Int))
 (If (e == (0 : Int))
 (If (ltI f j) (K .ret 108 [.b (n_1 == (0 : Int))] h)
 (K .ret 108 [.b false] h))
 (K .ret 108 [.b false] h))
 (K .ret 108 [.b false] h))
 (If (a == (3 : Int)) (K .ret 108 [.b false] h) (K .ret 108 [.b false] h))))
 (If (a == (1 : Int)) (K .ret 108 [.b false] h)
 (If (a == (2 : Int))
 (∃ (cs : List V) (l : Nat) (c : Option Nat) (n n_1 : Int), (PCon UY 99 [V.s d] fun (v : V) =>
 v = V.tup [V.ts cs l c, V.i .i64 n, V.i .i64 n_1]) ∧
 If (g == (0 : Int))
 (If (e == (0 : Int)) (K .ret 108 [.b false] h)
 (K .ret 108 [.b false] h))
 (K .ret 108 [.b false] h))
 (If (a == (3 : Int)) (K .ret 108 [.b false] h) (K .ret 108 [.b false] h))))))
 (If (leI 0 f)
 (If (a == (1 : Int)) (K .ret 108 [.b false] h)
 (If (a == (2 : Int))
 (∃ (cs : List V) (l : Nat) (c : Option Nat) (n n_1 : Int), (PCon UY 99 [V.s d] fun (v : V) =>
 v = V.tup [V.ts cs l c, V.i .i64 n, V.i .i64 n_1]) ∧
 If (g == (0 : Int))
 (If (e == (0 : Int))
 (If (ltI f j) (K .ret 108 [.b (n_1 == (0 : Int))] h)
 (K .ret 108 [.b false] h))
 (K .ret 108 [.b false] h))
 (K .ret 108 [.b false] h))
 (If (a == (3 : Int)) (K .ret 108 [.b false] h) (K .ret 108 [.b false] h))))
 (If (a == (1 : Int)) (K .ret 108 [.b false] h)
 (If (a == (2 : Int))
 (∃ (cs : List V) (l : Nat) (c : Option Nat) (n n_1 : Int), (PCon UY 99 [V.s d] fun (v : V) =>
 v = V.tup [V.ts cs l c, V.i .i64 n, V.i .i64 n_1]) ∧
 If (g == (0 : Int))
 (If (e == (0 : Int)) (K .ret 108 [.b false] h)
 (K .ret 108 [.b false] h))
 (K .ret 108 [.b false] h))
 (If (a == (3 : Int)) (K .ret 108 [.b false] h) (K .ret 108 [.b false] h)))))) := by kernel_rfl
theorem Zid (s : List UInt8) : (!(s == [])) = leI 1 (s.length : Nat) := by
 cases s with
 | nil => rfl
 | cons c r => simp [leI]; omega
theorem Zqb (e : Edge) (cap : Int) (np : Nat) : XO e cap np =
  cond (e.kind == 1) (leI 0 e.to && ltI e.to np && (leI 0 e.lo && leI e.lo 9 && (e.hi == -1 || leI e.lo e.hi && leI e.hi 9)) && leI 1 (e.text.length : Nat) && leI e.text.length cap)
   (cond (e.kind == 2) (leI 0 e.to && ltI e.to np && (e.lo == 0) && (e.hi == 0) && Zp9 e.text)
    (cond (e.kind == 3) ((e.to == 0) && (e.text == []) && (leI 0 e.lo && leI e.lo 9 && (e.hi == -1 || leI e.lo e.hi && leI e.hi 9))) false)) := by
 unfold XO toS Zb6
 rw [Zid]
 by_cases h1 : e.kind = 1
 ·simp only [h1, if_true, beq_self_eq_true, cond_true]
 ·have b1 : (e.kind == 1) = false := by simpa using h1
  rw [if_neg h1, b1, cond_false]
  by_cases h2 : e.kind = 2
  ·simp only [h2, if_true, beq_self_eq_true, cond_true]
  ·have b2 : (e.kind == 2) = false := by simpa using h2
   rw [if_neg h2, b2, cond_false]
   by_cases h3 : e.kind = 3
   ·simp only [h3, if_true, beq_self_eq_true, cond_true]
   ·have b3 : (e.kind == 3) = false := by simpa using h3
    rw [if_neg h3, b3, cond_false]

theorem Znm (e : Edge) (cap : Int) (cs : List V) (np : Nat) : PCon UY 106 [.agg (encE e), .agg [.i .i64 cap, .ts cs np none]] (· = .b (XO e cap np)) := by
 refine Zz UK (fn := Tryz.f106) (by kernel_rfl) (by kernel_rfl) rfl (fun K => Zv8 e.kind e.text e.lo e.hi e.to cap cs np .empty K) rfl ?_
 obtain ⟨l, a, er, hp, he⟩ := Zat e.text
 have hpc : PCon UY 99 [.s e.text] fun v => v = .tup [.ts (row encG l) l.length none, .i .i64 a, .i .i64 er] := (Zdl e.text).mono fun r hr => by rw [hr, hp]
 have fin : ∀ (b : Bool) (h : Heap), b = XO e cap np → Fin UY Tryz.f106 [4] (fun v h => ∃ r, Frz h v r ∧ r = .b (XO e cap np)) .ret 108 [.b b] h := fun b h e2 => Zs (.inr rfl) rfl (.b _) (by rw [e2])
 generalize Fin UY Tryz.f106 [4] (fun v h => ∃ r, Frz h v r ∧ r = .b (XO e cap np)) = K at fin ⊢
 rw [Zqb, ← he] at fin
 clear he hp
 repeat' first
  | refine Zd (fun _ => ?_) (fun _ => ?_)
  | refine ⟨_, _, _, _, _, hpc, ?_⟩
  | refine fin _ _ ?_
 all_goals simp only [*, cond_true, cond_false, Bool.and_true, Bool.true_and, Bool.and_false, Bool.false_and, Bool.or_true, Bool.true_or, Bool.or_false, Bool.false_or]
 all_goals rfl
theorem ZBb (m n o : Bool) (p c : Int) (d : List UInt8) (e : List V) (a : Nat) (f : List UInt8) (q : List V) (g : Nat) (j l : List UInt8) (h : Heap) (K : KT) : (Zc UY (UY.loc 17) 100 (pre (flat (Za Tryz.f17))) ⟨(V.agg (vSD m n o p c d e a none f q g none j l) :: List.replicate 66 .undef), [], h⟩ (VQ [1, 2, 47, 48, 49] K)) =
 (If (ltI 100 (↑d.length : Int))
 (K .ret 67
 [.lb
 (vSD m n o p c d e a none f q g none j l),
 .b false, .undef, .undef, .undef]
 h)
 (If (ltI 40 (↑f.length : Int))
 (K .ret 67
 [.lb
 (vSD m n o p c d e a none f q g none j l),
 .b false, .undef, .undef, .undef]
 h)
 (If (ltI 100 (↑j.length : Int))
 (K .ret 67
 [.lb
 (vSD m n o p c d e a none f q g none j l),
 .b false, .undef, .undef, .undef]
 h)
 (If (ltI 100 (↑l.length : Int))
 (K .ret 67
 [.lb
 (vSD m n o p c d e a none f q g none j l),
 .b false, .undef, .undef, .undef]
 h)
 (If (ltI 6 a)
 (K .ret 67
 [.lb
 (vSD m n o p c d e a none f q g none j l),
 .b false, .undef, .undef, .undef]
 h)
 (If (ltI 40 g)
 (K .ret 67
 [.lb
 (vSD m n o p c d e a none f q g none j l),
 .b false, .undef, .undef, .undef]
 h)
 (If (ltI 1152921504606846976 c)
 (K .ret 67
 [.lb
 (vSD m n o p c d e a none f q g none j l),
 .b false, .undef, .undef, .undef]
 h)
 (K .normal 67
 [.lb
 (vSD m n o p c d e a none f q g none j l),
 .b false, .ts e a none, .i .i64 (a : Int), .i .i64 0]
 h)))))))) := by kernel_rfl
theorem ZBc (e f g : Bool) (j l : Int) (m : List UInt8) (c : List V) (a : Nat) (n : List UInt8) (o : List V) (p : Nat) (q r : List UInt8) (d : Int) (h : Heap) (K : KT) : (Zc UY (UY.loc 17) 100 ((flat (Zv (post (flat (Za Tryz.f17)))))) ⟨mk 67 (([1, 47, 48, 49] : List Nat).zip [V.lb (vSD e f g j l m c a none n o p none q r), V.ts c a none, V.i .i64 (a : Int), V.i .i64 d]), [], h⟩ (VQ [1, 2, 47, 48, 49] K)) =
 (If (ltI d a)
 ((0 ≤ d ∧ d < a) ∧
 ∃ (s : List UInt8),
 Zh 1 (List.drop (d.toNat * 1) c) = some [V.s s] ∧
 If (ltI 60 (↑s.length : Int))
 (K .ret 67
 [.lb
 (vSD e f g j l m c a none n o p none q r),
 .b false, .ts c a none, .i .i64 (a : Int), .i .i64 d]
 h)
 (K .normal 67
 [.lb
 (vSD e f g j l m c a none n o p none q r),
 .undef, .ts c a none, .i .i64 (a : Int),
 .i .i64 (IntKind.i64.wrap (d + (1 : Int)))]
 h))
 (K (.exit 0) 67
 [.lb
 (vSD e f g j l m c a none n o p none q r),
 .undef, .ts c a none, .i .i64 (a : Int), .i .i64 d]
 h)) := by kernel_rfl
theorem ZBd (d e f : Bool) (g j : Int) (l : List V) (m : Nat) (c : List V) (a : Nat) (n o p q : List UInt8) (h : Heap) (K : KT) : (Zc UY (UY.loc 17) 100 (pre ((post (flat (Za Tryz.f17))).drop 1)) ⟨mk 67 (([1] : List Nat).zip [V.lb (vSD d e f g j n l m none o c a none p q)]), [], h⟩ (VQ [58, 59, 60] K)) =
 (K .normal 67 [.ts c a none, .i .i64 (a : Int), .i .i64 0] h) := by kernel_rfl
theorem ZBe (d : List V) (a : Nat) (c : Int) (h : Heap) (K : KT) : (Zc UY (UY.loc 17) 100 ((flat (Zv (post ((post (flat (Za Tryz.f17))).drop 1))))) ⟨mk 67 (([58, 59, 60] : List Nat).zip [V.ts d a none, V.i .i64 (a : Int), V.i .i64 c]), [], h⟩ (VQ [2, 58, 59, 60] K)) =
 (If (ltI c a)
 ((0 ≤ c ∧ c < a) ∧
 ∃ (n : Int),
 Zh 1 (List.drop (c.toNat * 1) d) = some [V.i .i64 n] ∧
 If (ltI 1152921504606846976 n)
 (K .ret 67
 [.b false, .ts d a none, .i .i64 (a : Int), .i .i64 c] h)
 (K .normal 67
 [.undef, .ts d a none, .i .i64 (a : Int),
 .i .i64 (IntKind.i64.wrap (c + (1 : Int)))]
 h))
 (K (.exit 2) 67
 [.undef, .ts d a none, .i .i64 (a : Int), .i .i64 c] h)) := by kernel_rfl
theorem ZBf (h : Heap) (K : KT) : (Zc UY (UY.loc 17) 100 (((post ((post (flat (Za Tryz.f17))).drop 1)).drop 1)) ⟨mk 67 (([] : List Nat).zip []), [], h⟩ (VQ [2] K)) =
 (K .ret 67 [.b true] h) := by kernel_rfl
theorem ZBg (d : Int) (c : List V) (a : Nat) (h : Heap) (K : KT) : (Zc UY (UY.loc 16) 100 (pre (flat (Za Tryz.f16))) ⟨(V.agg [V.i .i64 d, V.ts c a none] :: List.replicate 40 .undef), [], h⟩ (VQ [2, 12, 13, 14] K)) =
 (If (ltI 20 a) (K .ret 41 [.b false, .undef, .undef, .undef] h)
 (K .normal 41
 [.b false, .ts c a none, .i .i64 (a : Int), .i .i64 0] h)) := by kernel_rfl
theorem ZBh (c : List V) (a : Nat) (b : Int) (h : Heap) (K : KT) : (Zc UY (UY.loc 16) 100 (pre (flat (Zv (post (flat (Za Tryz.f16)))))) ⟨mk 41 (([12, 13, 14] : List Nat).zip [V.ts c a none, V.i .i64 (a : Int), V.i .i64 b]), [], h⟩ (VQ [12, 13, 14] K)) =
 (If (ltI b a)
 (K .normal 41 [.ts c a none, .i .i64 (a : Int), .i .i64 b] h)
 (K (.exit 0) 41
 [.ts c a none, .i .i64 (a : Int), .i .i64 b] h)) := by kernel_rfl
theorem ZBi (e : List V) (a : Nat) (d : Int) (h : Heap) (K : KT) : (Zc UY (UY.loc 16) 100 (pre (flat (Xx (post (flat (Zv (post (flat (Za Tryz.f16))))))))) ⟨mk 41 (([12, 13, 14] : List Nat).zip [V.ts e a none, V.i .i64 (a : Int), V.i .i64 d]), [], h⟩ (VQ [2, 12, 13, 14, 29, 30, 31] K)) =
 ((0 ≤ d ∧ d < a) ∧
 ∃ (s : List UInt8) (b : Bool) (cs : List V) (l : Nat) (c : Option Nat), Zh 3 (List.drop (d.toNat * 3) e) = some [V.s s, V.b b, V.ts cs l c] ∧
 If (ltI 12 l)
 (K .ret 41
 [.b false, .ts e a none, .i .i64 (a : Int), .i .i64 d,
 .undef, .undef, .undef]
 h)
 (If (ltI 60 (↑s.length : Int))
 (K .ret 41
 [.b false, .ts e a none, .i .i64 (a : Int), .i .i64 d,
 .undef, .undef, .undef]
 h)
 (K .normal 41
 [.undef, .ts e a none, .i .i64 (a : Int), .i .i64 d,
 .ts cs l c, .i .i64 (l : Int), .i .i64 0]
 h))) := by kernel_rfl
theorem ZBj (g : List V) (a : Nat) (j : Int) (l : Option Nat) (d : List V) (e : Nat) (f c : Int) (h : Heap) (K : KT) : (Zc UY (UY.loc 16) 100 ((flat (Zv (post (flat (Xx (post (flat (Zv (post (flat (Za Tryz.f16)))))))))))) ⟨mk 41 (([12, 13, 14, 29, 30, 31] : List Nat).zip [V.ts g a none, V.i .i64 (a : Int), V.i .i64 j, V.ts d e l, V.i .i64 f, V.i .i64 c]), [], h⟩ (VQ [2, 12, 13, 14, 29, 30, 31] K)) =
 (If (ltI c f)
 ((0 ≤ c ∧ c < e) ∧
 ∃ (n : Int) (s : List UInt8) (n_1 n_2 n_3 : Int), Zh 5 (List.drop (c.toNat * 5) d) =
 some [V.i .i64 n, V.s s, V.i .i64 n_1, V.i .i64 n_2, V.i .i64 n_3] ∧
 If (ltI 60 (↑s.length : Int))
 (K .ret 41
 [.b false, .ts g a none, .i .i64 (a : Int), .i .i64 j,
 .ts d e l, .i .i64 f, .i .i64 c]
 h)
 (K .normal 41
 [.undef, .ts g a none, .i .i64 (a : Int), .i .i64 j,
 .ts d e l, .i .i64 f,
 .i .i64 (IntKind.i64.wrap (c + (1 : Int)))]
 h))
 (K (.exit 2) 41
 [.undef, .ts g a none, .i .i64 (a : Int), .i .i64 j,
 .ts d e l, .i .i64 f, .i .i64 c]
 h)) := by kernel_rfl
theorem ZBk (b : List V) (a : Nat) (c : Int) (h : Heap) (K : KT) : (Zc UY (UY.loc 16) 100 (((post (flat (Zv (post (flat (Za Tryz.f16)))))).drop 1)) ⟨mk 41 (([12, 13, 14] : List Nat).zip [V.ts b a none, V.i .i64 (a : Int), V.i .i64 c]), [], h⟩ (VQ [12, 13, 14] K)) =
 (K .normal 41
 [.ts b a none, .i .i64 (a : Int),
 .i .i64 (IntKind.i64.wrap (c + (1 : Int)))]
 h) := by kernel_rfl
theorem ZBl (h : Heap) (K : KT) : (Zc UY (UY.loc 16) 100 (((post (flat (Za Tryz.f16))).drop 1)) ⟨mk 41 (([] : List Nat).zip []), [], h⟩ (VQ [2] K)) =
 (K .ret 41 [.b true] h) := by kernel_rfl
/-! ### peers -/
def Zdm (e : Edge) : Bool := decide (e.text.length ≤ 60)
def Jm (x : Plc) : Bool := decide (x.edges.length ≤ 12) && decide (x.name.length ≤ 60) && x.edges.all Zdm
def Wt (l : List Plc) : Bool := decide (l.length ≤ 20) && l.all Jm

def SpO (l : List Plc) (m : Nat) (vs : List V) (_ : Heap) : Prop :=
 ∃ i : Nat, vs = [lst ZG l, .i .i64 l.length, .i .i64 (i : Nat)] ∧ i ≤ l.length ∧ m = l.length - i ∧ (l.take i).all Jm = true
def SpN (l : List Plc) (i : Nat) (x : Plc) (m : Nat) (vs : List V) (_ : Heap) : Prop :=
 ∃ j : Nat, vs = [lst ZG l, .i .i64 l.length, .i .i64 (i : Nat), lst encE x.edges, .i .i64 x.edges.length, .i .i64 (j : Nat)] ∧ j ≤ x.edges.length ∧ m = x.edges.length - j ∧ (x.edges.take j).all Zdm = true

theorem QT {α : Type} {p : α → Bool} {l : List α} {i : Nat} (hi : i < l.length) (h : p l[i] = false) : l.all p = false := by
 rw [List.all_eq_false]
 exact ⟨l[i], List.getElem_mem hi, by simp [h]⟩
theorem Xo {α : Type} {p : α → Bool} {l : List α} {i : Nat} (hi : i < l.length) (h : (l.take i).all p = true) (h1 : p l[i] = true) : (l.take (i + 1)).all p = true := by
 rw [List.take_succ_eq_append_getElem hi, List.all_append, h]; simp [h1]

theorem Zkv (cap : Int) (l : List Plc) : PCon UY 16 [.agg [.i .i64 cap, lst ZG l]] (· = .b (Wt l)) := by
 refine Zt UK (fn := Tryz.f16) (by kernel_rfl) (by kernel_rfl) rfl ?_
 refine ZH UK (n := 41) (loc := UY.loc 16) 100 [2, 12, 13, 14] (by kernel_rfl) ?_
 refine Eq.mpr (ZBg cap (row ZG l) l.length .empty _) ?_
 have no : ∀ (vs : List V) (h : Heap) (so : List Nat), Wt l = false → resV UY Tryz.f16 (so.zip vs) = some (.b false) → AtV so (FinS UY Tryz.f16 fun v h => ∃ r, Frz h v r ∧ r = .b (Wt l)) .ret 41 vs h := fun vs h so hne hv =>
  Zl (.inr rfl) hv ⟨_, .b _, by rw [hne]⟩
 refine Zw (fun h20 => no _ _ _ (by simp [Wt, show ¬ l.length ≤ 20 by omega]) rfl) (fun h20 => ?_)
 have h20 : l.length ≤ 20 := by omega
 have notall : l.all Jm = false → Wt l = false := fun h => by simp [Wt, h]
 refine ⟨rfl, ZK [12, 13, 14] [2, 12, 13, 14] rfl (by kernel_rfl) (SpO l) l.length Zu ⟨0, rfl, by omega, by omega, by simp⟩ ?_⟩
 rintro m vs h ⟨i, rfl, hi, rfl, hp⟩
 refine ZH UK (n := 41) (loc := UY.loc 16) 100 [12, 13, 14] (by kernel_rfl) ?_
 refine Eq.mpr (ZBh (row ZG l) l.length (i : Nat) _ _) ?_
 refine Zg (fun hlt => ?_) (fun hge => ?_)
 ·refine ⟨rfl, Zgm (n := 41) [2, 12, 13, 14, 29, 30, 31] (by kernel_rfl) ?_⟩
  refine ZH UK (n := 41) (loc := UY.loc 16) 100 [2, 12, 13, 14, 29, 30, 31] (by kernel_rfl) ?_
  refine Eq.mpr (ZBi (row ZG l) l.length (i : Nat) _ _) ?_
  have out : ∀ (v1 v2 v3 : V) (h : Heap), Jm l[i] = false → AtV [2, 12, 13, 14, 29, 30, 31] (VQ [2, 12, 13, 14] (Xy UY 41 [2, 12, 13, 14] [12, 13, 14] (SpO l) (l.length - i) (Xi (post (flat (Za Tryz.f16)))) ((post (flat (Za Tryz.f16))).drop 1)
    (FinS UY Tryz.f16 fun v h => ∃ r, Frz h v r ∧ r = .b (Wt l)))) .ret 41 [.b false, lst ZG l, .i .i64 l.length, .i .i64 (i : Nat), v1, v2, v3] h := by
   intro v1 v2 v3 h hne
   refine ZR rfl ?_
   exact no _ _ _ (notall (QT hlt hne)) rfl
  refine ⟨bnd_nat hlt, l[i].name, l[i].echo, row encE l[i].edges, l[i].edges.length, none, by rw [Int.toNat_natCast]; exact Zr (f := ZG) (k := 3) QS hlt, ?_⟩
  refine Zw (fun h12 => ZR rfl (out _ _ _ _ (by simp [Jm, show ¬ l[i].edges.length ≤ 12 by omega]))) (fun h12 => ?_)
  refine Zw (fun h60 => ZR rfl (out _ _ _ _ (by simp [Jm, show ¬ l[i].name.length ≤ 60 by omega]))) (fun h60 => ?_)
  have h12 : l[i].edges.length ≤ 12 := by omega
  have h60 : l[i].name.length ≤ 60 := by omega
  refine ⟨rfl, Zne [12, 13, 14, 29, 30, 31] [2, 12, 13, 14, 29, 30, 31] rfl (by kernel_rfl) (SpN l i l[i]) l[i].edges.length Zu ⟨0, rfl, by omega, by omega, by simp⟩ ?_⟩
  rintro m vs h2 ⟨j, rfl, hj, rfl, hq⟩
  refine ZI UK (loc := UY.loc 16) 100 [2, 12, 13, 14, 29, 30, 31] ?_
  refine Eq.mpr (ZBj (row ZG l) l.length (i : Nat) none (row encE l[i].edges) l[i].edges.length (l[i].edges.length : Nat) (j : Nat) _ _) ?_
  refine Zg (fun hjl => ?_) (fun hjg => ?_)
  ·refine ⟨bnd_nat hjl, _, _, _, _, _, by rw [Int.toNat_natCast]; exact Zr (f := encE) (k := 5) JS hjl, Zw (fun ht => ?_) (fun ht => ?_)⟩
   ·refine ZR rfl (out _ _ _ _ ?_)
    have : Zdm l[i].edges[j] = false := by unfold Zdm; simp; omega
    have := QT (p := Zdm) hjl this
    simp [Jm, this]
   ·refine ⟨rfl, l[i].edges.length - (j + 1), by omega, j + 1, by rw [Zf (by omega)]; rfl, by omega, rfl, Xo hjl hq ?_⟩
    unfold Zdm; simp; omega
  ·simp only [VC]
   rw [if_pos (by kernel_rfl)]
   refine ZR rfl ?_
   refine ⟨rfl, [12, 13, 14], rfl, ?_⟩
   rw [List.take_of_length_le hjg] at hq
   have hs : Jm l[i] = true := by simp [Jm, h12, h60, hq]
   refine Znf UK (loc := UY.loc 16) 100 [12, 13, 14] ?_
   refine Eq.mpr (ZBk (row ZG l) l.length (i : Nat) _ _) ?_
   rw [Zf (by omega)]
   exact fun vs2 ht => VD ht rfl rfl rfl (l.length - (i + 1)) (by omega) ⟨i + 1, rfl, by omega, rfl, Xo hlt hp hs⟩
 ·refine Zjq fun vs2 ht => Jh [] ht (by kernel_rfl) rfl rfl rfl ?_
  refine Zm UK (loc := UY.loc 16) 100 [2] ?_
  refine Eq.mpr (ZBl _ _) ?_
  rw [List.take_of_length_le hge] at hp
  exact Zs (.inr rfl) rfl (.b _) (by simp [Wt, h20, hp])

/-! ### sides -/
def Vg (s : List UInt8) : Bool := decide (s.length ≤ 60)
def WK (a : Int) : Bool := decide (a ≤ 1152921504606846976)
def Xv (s : Side) : Bool := decide (s.typed.length ≤ 100) && decide (s.fly.length ≤ 40) && decide (s.ready.length ≤ 100) && decide (s.buffer.length ≤ 100) && decide (s.lines.length ≤ 6) && decide (s.ages.length ≤ 40) && decide (s.clock ≤ 1152921504606846976) &&
 s.lines.all Vg && s.ages.all WK

theorem Zie (s : Side) : PCon UY 17 [.agg (Zn s)] (· = .b (Xv s)) := by
 refine Zt UK (fn := Tryz.f17) (by kernel_rfl) (by kernel_rfl) rfl ?_
 refine ZH UK (n := 67) (loc := UY.loc 17) 100 [1, 2, 47, 48, 49] (by kernel_rfl) ?_
 refine Eq.mpr (ZBb s.on s.shut s.eof s.place s.clock s.typed (row encT s.lines) s.lines.length s.fly (row encI s.ages) s.ages.length s.ready s.buffer .empty _) ?_
 have no : ∀ h, Xv s = false → ∃ r, Frz h (.b false) r ∧ r = .b (Xv s) := fun h e => ⟨_, .b _, by rw [e]⟩
 refine Zw (fun g => Zl (.inr rfl) rfl (no _ (by simp [Xv, show ¬ s.typed.length ≤ 100 by omega]))) (fun g1 => ?_)
 refine Zw (fun g => Zl (.inr rfl) rfl (no _ (by simp [Xv, show ¬ s.fly.length ≤ 40 by omega]))) (fun g2 => ?_)
 refine Zw (fun g => Zl (.inr rfl) rfl (no _ (by simp [Xv, show ¬ s.ready.length ≤ 100 by omega]))) (fun g3 => ?_)
 refine Zw (fun g => Zl (.inr rfl) rfl (no _ (by simp [Xv, show ¬ s.buffer.length ≤ 100 by omega]))) (fun g4 => ?_)
 refine Zw (fun g => Zl (.inr rfl) rfl (no _ (by simp [Xv, show ¬ s.lines.length ≤ 6 by omega]))) (fun g5 => ?_)
 refine Zw (fun g => Zl (.inr rfl) rfl (no _ (by simp [Xv, show ¬ s.ages.length ≤ 40 by omega]))) (fun g6 => ?_)
 refine Zw (fun g => Zl (.inr rfl) rfl (no _ (by simp [Xv, show ¬ s.clock ≤ 1152921504606846976 by omega]))) (fun g7 => ?_)
 refine ⟨rfl, ZK [1, 47, 48, 49] [1, 2, 47, 48, 49] rfl (by kernel_rfl) (fun m vs _ => ∃ i : Nat, vs = [.lb (Zn s), lst encT s.lines, .i .i64 s.lines.length, .i .i64 (i : Nat)] ∧ i ≤ s.lines.length ∧ m = s.lines.length - i ∧ (s.lines.take i).all Vg = true) s.lines.length Zu ⟨0, rfl, by omega, by omega, by simp⟩ ?_⟩
 rintro m vs h ⟨i, rfl, hi, rfl, hp⟩
 refine ZI UK (loc := UY.loc 17) 100 [1, 2, 47, 48, 49] ?_
 refine Eq.mpr (ZBc s.on s.shut s.eof s.place s.clock s.typed (row encT s.lines) s.lines.length s.fly (row encI s.ages) s.ages.length s.ready s.buffer (i : Nat) h _) ?_
 refine Zg (fun hlt => ?_) (fun hge => ?_)
 ·refine ⟨bnd_nat hlt, s.lines[i], by rw [Int.toNat_natCast]; exact Zr (f := encT) (k := 1) JR hlt, Zw (fun hc => ?_) (fun hc => ?_)⟩
  ·have : Vg s.lines[i] = false := by unfold Vg; simp; omega
   have := QT (p := Vg) hlt this
   exact Zl (.inr rfl) rfl (no _ (by simp [Xv, this]))
  ·exact ⟨rfl, s.lines.length - (i + 1), by omega, i + 1, by rw [Zf (by omega)]; rfl, by omega, rfl, Xo hlt hp (by unfold Vg; simp; omega)⟩
 rw [List.take_of_length_le hge] at hp
 refine Ze [1] (by kernel_rfl) rfl rfl ?_
 refine ZH UK (n := 67) (loc := UY.loc 17) 100 [58, 59, 60] (by kernel_rfl) ?_
 refine Eq.mpr (ZBd s.on s.shut s.eof s.place s.clock (row encT s.lines) s.lines.length (row encI s.ages) s.ages.length s.typed s.fly s.ready s.buffer h _) ?_
 refine ⟨rfl, ZK [58, 59, 60] [2, 58, 59, 60] rfl (by kernel_rfl) (fun m vs _ => ∃ i : Nat, vs = [lst encI s.ages, .i .i64 s.ages.length, .i .i64 (i : Nat)] ∧ i ≤ s.ages.length ∧ m = s.ages.length - i ∧ (s.ages.take i).all WK = true) s.ages.length Zu ⟨0, rfl, by omega, by omega, by simp⟩ ?_⟩
 rintro m vs h ⟨i, rfl, hi, rfl, hq⟩
 refine ZI UK (loc := UY.loc 17) 100 [2, 58, 59, 60] ?_
 refine Eq.mpr (ZBe (row encI s.ages) s.ages.length (i : Nat) h _) ?_
 refine Zg (fun hlt => ?_) (fun hge => ?_)
 ·refine ⟨bnd_nat hlt, s.ages[i], by rw [Int.toNat_natCast]; exact Zr (f := encI) (k := 1) ZV hlt, Zw (fun hc => ?_) (fun hc => ?_)⟩
  ·have : WK s.ages[i] = false := by unfold WK; simp; omega
   have := QT (p := WK) hlt this
   exact Zl (.inr rfl) rfl (no _ (by simp [Xv, this]))
  ·exact ⟨rfl, s.ages.length - (i + 1), by omega, i + 1, by rw [Zf (by omega)]; rfl, by omega, rfl, Xo hlt hq (by unfold WK; simp; omega)⟩
 rw [List.take_of_length_le hge] at hq
 refine Ze [] (by kernel_rfl) rfl rfl ?_
 refine Zm UK (loc := UY.loc 17) 100 [2] ?_
 refine Eq.mpr (ZBf h _) ?_
 refine Zs (.inr rfl) rfl (.b _) ?_
 have k1 : s.typed.length ≤ 100 := by omega
 have k2 : s.fly.length ≤ 40 := by omega
 have k3 : s.ready.length ≤ 100 := by omega
 have k4 : s.buffer.length ≤ 100 := by omega
 have k5 : s.lines.length ≤ 6 := by omega
 have k6 : s.ages.length ≤ 40 := by omega
 have k7 : s.clock ≤ 1152921504606846976 := by omega
 simp only [Xv, k1, k2, k3, k4, k5, k6, k7, hp, hq, decide_true, Bool.true_and, Bool.and_true]
end Go.Y
