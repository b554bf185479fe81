/- glob.Parse, by its contract. -/
import Derived.Test.YtkcgmnhojldoiaaGreatGSet
import Derived.Test.YtkcgmnhojldoiaaGreatGD2
namespace Go.Y
open Go.Proofs
set_option maxRecDepth 1000000
set_option maxHeartbeats 0
def Zv6 (r : Except Nat (Glob × Nat)) (h : Heap) (id : Nat) (s : List UInt8) (v : V) (h' : Heap) : Prop := match r with
 | .error e => ∃ x : Glob, v = .agg (encG x) ∧ Rd h' id s e true ∧ FrO h id h'
 | .ok (x, j) => v = .agg (encG x) ∧ Rd h' id s j false ∧ FrO h id h'

theorem VF {h : Heap} {k b : Int} {Q : V → Heap → Prop} (hq : Q (.agg (encG ⟨k, b, []⟩)) h) : AfterZ Q (.agg [.i .i64 k, .i .u8 b, .sl none 0 (some 0) 0]) h :=
 ⟨[], _, .inl (.agg _ _ (.cons _ _ _ _ (.same _) (.cons _ _ _ _ (.same _) (.cons _ _ _ _ (.frz _ _ (.sln _ _ none (fun x hx => by cases hx))) .nil)))), hq⟩

theorem JE (c d : UInt8) : (((c.toNat : Nat) : Int) == ((d.toNat : Nat) : Int)) = decide (c = d) := by rw [Zp6]; rfl

theorem Znh {h : Heap} {id : Nat} {s : List UInt8} {i : Nat} (r : Rd h id s i false) (hs : s.length < 2 ^ 28) (hi : i < s.length) :
  Con UY 261 [.p (some (id, 0))] h (Zv6 (Xb s i) h id s) := by
 refine ZL UK (fn := Tryz.f261) (by kernel_rfl) (by kernel_rfl) (Zm UK (loc := UY.loc 261) 100 [2] ?_)
 rw [show (⟨[.p (some (id, 0))] ++ List.replicate (Tryz.f261.ntmps - [V.p (some (id, 0))].length) .undef, [], h⟩ : St) = ⟨.p (some (id, 0)) :: List.replicate 24 .undef, [], h⟩ by rfl, Zvt]
 refine (Zba r (by omega) (by omega)).mono fun v h1 ⟨hv, g1, g2⟩ => ⟨_, hv, ?_⟩
 have hsi : s[i]? = some s[i] := by simp [hi]
 simp only [VE, hsi] at g1 ⊢
 rw [show (42 : Int) = (((42 : UInt8).toNat : Nat) : Int) by decide, show (63 : Int) = (((63 : UInt8).toNat : Nat) : Int) by decide, show (91 : Int) = (((91 : UInt8).toNat : Nat) : Int) by decide, show (92 : Int) = (((92 : UInt8).toNat : Nat) : Int) by decide, JE, JE, JE, JE]
 refine JY (fun c1 => finC (.inr rfl) rfl (VF ?_)) (fun c1 => ?_)
 ·simp only [Xb, hsi, c1, if_true]; exact ⟨rfl, g1, g2⟩
 refine JY (fun c2 => finC (.inr rfl) rfl (VF ?_)) (fun c2 => ?_)
 ·unfold Xb; rw [hsi]; simp only []; rw [if_neg c1, if_pos c2]; exact ⟨rfl, g1, g2⟩
 refine JY (fun c3 => ?_) (fun c3 => ?_)
 ·refine (Zs0 g1 hs (by omega)).mono fun v h2 hq => ?_
  cases he : setS (s.length + 1) s (i + 1) [] with
  | error e =>
   have hp : Xb s i = .error e := by unfold Xb; rw [hsi]; simp only []; rw [if_neg c1, if_neg c2, if_pos c3, he]
   rw [he] at hq
   obtain ⟨rfl, q1, q2⟩ := hq
   refine ⟨_, _, _, rfl, finC (.inr rfl) rfl (.now ?_)⟩
   rw [hp]
   exact ⟨⟨3, 0, []⟩, rfl, q1, g2.trans q2⟩
  | ok y =>
   obtain ⟨l, j⟩ := y
   have hp : Xb s i = .ok (⟨3, 0, l⟩, j) := by unfold Xb; rw [hsi]; simp only []; rw [if_neg c1, if_neg c2, if_pos c3, he]
   rw [he] at hq
   obtain ⟨rfl, q1, q2⟩ := hq
   refine ⟨_, _, _, rfl, finC (.inr rfl) rfl (.now ?_)⟩
   rw [hp]
   exact ⟨rfl, q1, g2.trans q2⟩
 refine JY (fun c4 => ?_) (fun c4 => finC (.inr rfl) rfl (VF ?_))
 ·refine (Zba g1 (by omega) (by omega)).mono fun v h2 ⟨hv, q1, q2⟩ => ⟨_, hv, finC (.inr rfl) rfl (VF ?_)⟩
  cases hs2 : s[i + 1]? with
  | none =>
   have hp : Xb s i = .error (i + 1) := by unfold Xb; rw [hsi]; simp only []; rw [if_neg c1, if_neg c2, if_neg c3, if_pos c4, hs2]
   simp only [VE, hs2] at q1 ⊢
   rw [hp]
   exact ⟨_, rfl, q1, g2.trans q2⟩
  | some d =>
   have hp : Xb s i = .ok (⟨0, d.toNat, []⟩, i + 2) := by unfold Xb; rw [hsi]; simp only []; rw [if_neg c1, if_neg c2, if_neg c3, if_pos c4, hs2]
   simp only [VE, hs2] at q1 ⊢
   rw [hp]
   exact ⟨rfl, q1, g2.trans q2⟩
 ·simp only [Xb, hsi, c1, c2, c3, c4, if_false]; exact ⟨rfl, g1, g2⟩

def Zas (s : List UInt8) : V :=
 if 200 < s.length then .tup [lst encG [], .i .i64 200, .i .i64 2] else match Qw (s.length + 1) s 0 [] with
  | .error e => .tup [lst encG [], .i .i64 (e : Nat), .i .i64 1]
  | .ok l => .tup [lst encG l, .i .i64 0, .i .i64 0]

def Zv7 (s : List UInt8) (R : Except Nat (List Glob)) (m : Nat) (vs : List V) (h : Heap) : Prop :=
 ∃ (id i : Nat) (out : List Glob) (a : Option (Nat × Nat)) (l : Nat) (c : Option Nat) (k : Nat), vs = [.s s, .p (some (id, 0)), .sl a l c k] ∧ Lst encG 3 h a l c k out ∧ (∀ j, a = some (j, 0) → id < j) ∧
  Rd h id s i false ∧ i ≤ s.length ∧ out.length ≤ i ∧ s.length - i < m ∧ Qw m s i out = R

theorem Ze3 {h : Heap} {a : Option (Nat × Nat)} {l : Nat} {c : Option Nat} {kk : Nat} {out : List Glob} (x : Glob) {new : List V} (hn : new.length = 3) (hc : Zx new = true) (hcold : Xr new = true) (hf : FrzL .empty new (encG x)) (hl : Lst encG 3 h a l c kk out) (hb : out.length < 2 ^ 29) :
  ∃ a' l' c' k' h', Zk UY h 177 177 (.sl a l c kk) (.ts new 1 (some 1)) = some (.sl a' l' c' k', h') ∧ Lst encG 3 h' a' l' c' k' (out ++ [x]) ∧ Fr h a h' ∧ ∃ j, a' = some (j, 0) ∧ h.nx ≤ j :=
 Lst.app1 (Y := UY) (e := 220) (te := ⟨3, 40, .struct [(0, 3), (1, 5), (2, 218)], [.i .i64 0, .i .u8 0, .sl none 0 (some 0) 0]⟩) x (by kernel_rfl) (by kernel_rfl) rfl (by decide) hl hf hcold hn hc (by decide) hb

theorem Zs1 {Y : YP} {fn : Func} {slots : List Nat} {o : Out} {n : Nat} {vs : List V} {h : Heap} {v1 v2 v3 r1 r2 r3 R : V} (ho : o = .normal ∨ o = .ret) (hv : resV Y fn (slots.zip vs) = some (.tup [v1, v2, v3])) (h1 : Frz h v1 r1) (h2 : Frz h v2 r2) (h3 : Frz h v3 r3) (hr : .tup [r1, r2, r3] = R) :
  Fin Y fn slots (fun v h => ∃ r, Frz h v r ∧ r = R) o n vs h := ⟨ho, _, hv, _, .tup _ _ (.cons _ _ _ _ h1 (.cons _ _ _ _ h2 (.cons _ _ _ _ h3 .nil))), hr⟩

theorem Zgo (s : List UInt8) : PCon UY 235 [.s s] (· = Zas s) := by
 refine Zt UK (fn := Tryz.f235) (by kernel_rfl) (by kernel_rfl) rfl ?_
 refine ZH UK (n := 34) (loc := UY.loc 235) 100 [0, 2, 3, 4, 5, 6] (by kernel_rfl) ?_
 rw [show (⟨[.s s] ++ List.replicate (Tryz.f235.ntmps - [V.s s].length) .undef, [], .empty⟩ : St) = ⟨.s s :: List.replicate 33 .undef, [], .empty⟩ by rfl, Zvu]
 unfold Zas
 refine Zw (fun hlt => ?_) (fun hge => ?_)
 ·rw [if_pos (by omega)]
  exact fin3 (.inr rfl) rfl (Zab encG _ _ _) (.i _ _) (.i _ _) rfl
 have hs : s.length ≤ 200 := by omega
 rw [if_neg (by omega)]
 generalize hR : Qw (s.length + 1) s 0 [] = R
 refine ⟨rfl, ZK [0, 5, 6] [0, 2, 3, 4, 5, 6] rfl (by kernel_rfl) (Zv7 s R) (s.length + 1) Zu
  ⟨_, 0, [], none, 0, some 0, 0, rfl, Lst.nil _ _ _ _ _, by simp, ⟨by simp [Heap.get_push], by simp⟩, by omega, by simp, by omega, hR⟩ ?_⟩
 rintro m vs h ⟨id, i, out, a, l, c, k, rfl, hL, hnew, hr, hi, hol, hm, hg⟩
 refine ZI UK (loc := UY.loc 235) 100 [0, 2, 3, 4, 5, 6] ?_
 rw [Zvv]
 obtain ⟨m, rfl⟩ : ∃ m', m = m' + 1 := ⟨m - 1, by omega⟩
 have hll := hL.len
 refine ⟨_, hr.c1, Zg (fun hlt => ?_) (fun hge => ?_)⟩
 ·refine (Znh hr (by omega) hlt).mono fun v h2 hq => ?_
  simp only [Qw, hlt, if_true] at hg
  have hkeep : FrO h id h2 → ∀ j, a = some (j, 0) → j < h.nx → h2.get j = h.get j := fun f j hj hl => f.2 j hl (fun e => by have := hnew j hj; omega)
  have hne : ∀ o, a ≠ some (id, o) := by
   intro o ho
   have h0 := hL.off ho
   subst h0
   have := hnew id ho
   omega
  cases he : Xb s i with
  | error e =>
   rw [he] at hq hg
   obtain ⟨x, rfl, g1, g2⟩ := hq
   obtain ⟨a', l', c', k', h3, q1, q2, q3, j, q4, q5⟩ := Ze3 x rfl rfl rfl (QL _ rfl) (hL.fr g2.1 (hkeep g2)) (by omega)
   have g1' : Rd h3 id s e true := ⟨by rw [q3.2 id g1.lt hne]; exact g1.get, Nat.lt_of_lt_of_le g1.lt q3.1⟩
   refine ⟨_, _, _, _, _, rfl, a', l', c', k', h3, q1, true, g1'.c2, ?_⟩
   refine ⟨_, g1'.c1, ?_⟩
   subst hg
   exact fin3 (.inr rfl) rfl (Zab encG _ _ _) (.i _ _) (.i _ _) rfl
  | ok y =>
   obtain ⟨x, j⟩ := y
   rw [he] at hq hg
   have hj := Zb4 he
   obtain ⟨rfl, g1, g2⟩ := hq
   obtain ⟨a', l', c', k', h3, q1, q2, q3, jj, q4, q5⟩ := Ze3 x rfl rfl rfl (QL _ rfl) (hL.fr g2.1 (hkeep g2)) (by omega)
   have g1' : Rd h3 id s j false := ⟨by rw [q3.2 id g1.lt hne]; exact g1.get, Nat.lt_of_lt_of_le g1.lt q3.1⟩
   refine ⟨_, _, _, _, _, rfl, a', l', c', k', h3, q1, false, g1'.c2, rfl, m, by omega, id, j, out ++ [x], a', l', c', k', rfl, q2, ?_, g1', hj.2, by simp; omega, by omega, hg⟩
   intro j' hj'; rw [q4] at hj'; cases hj'
   have := hr.lt
   have := g2.1
   omega
 ·refine Ze [6] (by kernel_rfl) rfl rfl ?_
  refine Zm UK (loc := UY.loc 235) 100 [2, 3, 4] ?_
  rw [show pick [0, 2, 3, 4, 5, 6] [6] [V.s s, V.undef, V.undef, V.undef, V.p (some (id, 0)), V.sl a l c k] = [V.sl a l c k] by rfl, Zvw]
  simp only [Qw, Nat.not_lt.2 hge, if_false] at hg
  subst hg
  exact Zs1 (.inr rfl) rfl (hL.frz (by decide) Ji) (.i _ _) (.i _ _) rfl
structure Edge where
 kind : Int
 text : List UInt8
 lo : Int
 hi : Int
 to : Int
 deriving DecidableEq, Inhabited
structure Plc where
 name : List UInt8
 echo : Bool
 edges : List Edge
 deriving DecidableEq, Inhabited
abbrev encE (e : Edge) : List V := [.i .i64 e.kind, .s e.text, .i .i64 e.lo, .i .i64 e.hi, .i .i64 e.to]
abbrev ZG (x : Plc) : List V := [.s x.name, .b x.echo, lst encE x.edges]
theorem JS (e : Edge) : (encE e).length = 5 := rfl
theorem QS (x : Plc) : (ZG x).length = 3 := rfl

def Zb6 (e : Edge) : Bool := leI 0 e.lo && leI e.lo 9 && (e.hi == -1 || leI e.lo e.hi && leI e.hi 9)
theorem Zgp (e : Edge) : PCon UY 234 [.agg (encE e)] (· = .b (Zb6 e)) := by
 refine Zz UK (fn := Tryz.f234) (by kernel_rfl) (by kernel_rfl) rfl (fun K => Zvk e.kind e.text e.lo e.hi e.to .empty K) rfl ?_
 refine Zd (fun h1 => Zd (fun h2 => Zd (fun h3 => ?_) (fun h3 => Zd (fun h4 => ?_) (fun h4 => ?_))) (fun h2 => ?_)) (fun h1 => ?_)
 all_goals refine Zs (.inr rfl) rfl (.b _) ?_
 all_goals simp_all [Zb6]

def Zp9 (s : List UInt8) : Bool := if 200 < s.length then false else match Qw (s.length + 1) s 0 [] with
 | .error _ => false
 | .ok _ => true
theorem Zat (s : List UInt8) : ∃ (l : List Glob) (a e : Int), Zas s = .tup [lst encG l, .i .i64 a, .i .i64 e] ∧ (e == 0) = Zp9 s := by
 unfold Zas Zp9
 split
 ·exact ⟨[], _, _, rfl, rfl⟩
 ·cases hp : Qw (s.length + 1) s 0 [] with
  | error e => exact ⟨[], _, _, rfl, rfl⟩
  | ok l => exact ⟨_, _, _, rfl, rfl⟩

def toS (e : Edge) (np : Nat) : Bool := leI 0 e.to && ltI e.to np
def XO (e : Edge) (cap : Int) (np : Nat) : Bool :=
 if e.kind = 1 then toS e np && Zb6 e && !(e.text == []) && leI e.text.length cap
 else if e.kind = 2 then toS e np && (e.lo == 0) && (e.hi == 0) && Zp9 e.text
 else if e.kind = 3 then (e.to == 0) && (e.text == []) && Zb6 e
 else false

theorem Zni (e : Edge) (cap : Int) (cs : List V) (np : Nat) : PCon UY 209 [.agg (encE e), .agg [.i .i64 cap, .ts cs np none]] (· = .b (XO e cap np)) := by
 refine Zt UK (fn := Tryz.f209) (by kernel_rfl) (by kernel_rfl) rfl (Zm UK (loc := UY.loc 209) 100 [4] ?_)
 refine Eq.mpr (Zvl e.kind e.text e.lo e.hi e.to cap cs np .empty _) ?_
 obtain ⟨l, a, er, hp, he⟩ := Zat e.text
 have hpc : PCon UY 235 [.s e.text] fun v => v = .tup [.ts (row encG l) l.length none, .i .i64 a, .i .i64 er] := (Zgo e.text).mono fun r hr => by rw [hr, hp]
 have fin : ∀ (b : Bool) (h : Heap), b = XO e cap np → Fin UY Tryz.f209 [4] (fun v h => ∃ r, Frz h v r ∧ r = .b (XO e cap np)) .ret 80 [.b b] h := fun b h e2 => Zs (.inr rfl) rfl (.b _) (by rw [e2])
 generalize Fin UY Tryz.f209 [4] (fun v h => ∃ r, Frz h v r ∧ r = .b (XO e cap np)) = K at fin ⊢
 have k3 : (e.kind == 1) = false → (e.kind == 2) = false → If (e.kind == 3) (If (e.to == 0) (If (e.text == []) (∃ b : Bool, (PCon UY 234 [.agg (encE e)] fun v => v = .b b) ∧ K .ret 80 [.b b] .empty) (K .ret 80 [.b false] .empty)) (K .ret 80 [.b false] .empty)) (K .ret 80 [.b false] .empty) := by
  intro n1 n2
  have n1 : e.kind ≠ 1 := by simpa using n1
  have n2 : e.kind ≠ 2 := by simpa using n2
  refine Zd (fun h1 => Zd (fun h2 => Zd (fun h3 => ⟨_, Zgp e, fin _ _ ?_⟩) (fun h3 => fin _ _ ?_)) (fun h2 => fin _ _ ?_)) (fun h1 => fin _ _ ?_)
  all_goals simp only [XO, n1, n2, if_false]
  ·have h1 : e.kind = 3 := by simpa using h1
   rw [if_pos h1, h2, h3]; simp
  ·have h1 : e.kind = 3 := by simpa using h1
   rw [if_pos h1, h3]; simp
  ·have h1 : e.kind = 3 := by simpa using h1
   rw [if_pos h1, h2]; simp
  ·have h1 : e.kind ≠ 3 := by simpa using h1
   rw [if_neg h1]
 refine Zd (fun t0 => Zd (fun k1 => ?_) (fun k1 => Zd (fun k2 => ⟨_, _, _, _, _, hpc, ?_⟩) (fun k2 => k3 k1 k2))) (fun t0 => Zd (fun k1 => fin _ _ ?_) (fun k1 => Zd (fun k2 => ⟨_, _, _, _, _, hpc, fin _ _ ?_⟩) (fun k2 => k3 k1 k2)))
 ·have k1 : e.kind = 1 := by simpa using k1
  refine Zd (fun t1 => ⟨_, Zgp e, Zd (fun h1 => Zd (fun h2 => fin _ _ ?_) (fun h2 => fin _ _ ?_)) (fun h1 => fin _ _ ?_)⟩) (fun t1 => fin _ _ ?_)
  all_goals simp only [XO, k1, if_true, toS, t0, t1, Bool.true_and, Bool.false_and]
  ·have h2 : (!e.text == []) = true := h2
   rw [h1, h2]; simp
  ·have h2 : (!e.text == []) = false := h2
   rw [h1, h2]; simp
  ·rw [h1]; simp
 ·have k2 : e.kind = 2 := by simpa using k2
  have e21 : ¬ ((2 : Int) = 1) := by decide
  refine Zd (fun t1 => Zd (fun h1 => Zd (fun h2 => fin _ _ ?_) (fun h2 => fin _ _ ?_)) (fun h1 => fin _ _ ?_)) (fun t1 => fin _ _ ?_)
  all_goals simp only [XO, k2, e21, if_true, if_false, toS, t0, t1, Bool.true_and, Bool.false_and]
  ·rw [h1, h2, he]; simp
  ·rw [h1, h2]; simp
  ·rw [h1]; simp
 ·have k1 : e.kind = 1 := by simpa using k1
  simp only [XO, k1, if_true, toS, t0, Bool.false_and]
 ·have k2 : e.kind = 2 := by simpa using k2
  have e21 : ¬ ((2 : Int) = 1) := by decide
  simp only [XO, k2, e21, if_true, if_false, toS, t0, Bool.false_and]
def WS (s : List UInt8) (i : Nat) : V := match endS s i with
 | .error e => .tup [.i .u8 0, .i .i64 (-1), .i .i64 (e : Nat)]
 | .ok (c, j) => .tup [.i .u8 c, .i .i64 (j - i : Nat), .i .i64 0]

theorem Zgq (s : List UInt8) (i : Nat) (hs : s.length < 2 ^ 30) (hi : i < 2 ^ 30) : PCon UY 186 [.s s, .i .i64 (i : Nat)] (· = WS s i) := by
 refine Zt UK (fn := Tryz.f186) (by kernel_rfl) (by kernel_rfl) rfl (Zm UK (loc := UY.loc 186) 100 [4, 5, 6] ?_)
 rw [show (⟨[.s s, .i .i64 (i : Nat)] ++ List.replicate (Tryz.f186.ntmps - [V.s s, .i .i64 (i : Nat)].length) .undef, [], .empty⟩ : St) = ⟨.s s :: .i .i64 (i : Nat) :: List.replicate 40 .undef, [], .empty⟩ by rfl, Zvz]
 unfold WS
 have f : ∀ (a b c : Int) (R : V), .tup [.i .u8 a, .i .i64 b, .i .i64 c] = R → Fin UY Tryz.f186 [4, 5, 6] (fun v h => ∃ r, Frz h v r ∧ r = R) .ret 42 [.i .u8 a, .i .i64 b, .i .i64 c] .empty := fun a b c R hR =>
  Zs1 (.inr rfl) rfl (.i _ _) (.i _ _) (.i _ _) hR
 refine Qz (fun hle => f _ _ _ _ ?_) (fun hlt => ?_)
 ·have : s[i]? = none := List.getElem?_eq_none (by omega)
  simp [endS, this]
 have hlt' : i < s.length := by omega
 have hsi : s[i]? = some s[i] := by simp [hlt']
 have get : (0 : Int) ≤ (i : Nat) ∧ s[((i : Nat) : Int).toNat]? = some s[i] := ⟨by omega, by simp [hlt']⟩
 rw [show (93 : Int) = (((93 : UInt8).toNat : Nat) : Int) by decide, show (45 : Int) = (((45 : UInt8).toNat : Nat) : Int) by decide]
 refine ⟨_, get, ?_⟩
 rw [JE]
 refine JY (fun c1 => f _ _ _ _ ?_) (fun c1 => ⟨_, get, ?_⟩)
 ·unfold endS; rw [hsi]; simp only []; rw [if_pos (.inl c1)]
 rw [JE]
 refine JY (fun c2 => f _ _ _ _ ?_) (fun c2 => ⟨_, get, ?_⟩)
 ·unfold endS; rw [hsi]; simp only []; rw [if_pos (.inr c2)]
 have hn : ¬ (s[i] = 93 ∨ s[i] = 45) := by simp [c1, c2]
 have e92 : ((s[i].toNat : Int) != 92) = !decide (s[i] = 92) := by
  rw [show (92 : Int) = (((92 : UInt8).toNat : Nat) : Int) by decide]
  show (!((s[i].toNat : Int) == (((92 : UInt8).toNat : Nat) : Int))) = _
  rw [JE]
 rw [e92]
 refine Zd (fun c3 => ⟨_, get, f _ _ _ _ ?_⟩) (fun c3 => ?_)
 ·have c3 : s[i] ≠ 92 := by simpa using c3
  unfold endS; rw [hsi]; simp only []; rw [if_neg hn, if_neg c3]; simp
 ·have c3 : s[i] = 92 := by simpa using c3
  rw [Zf (by omega)]
  refine Qz (fun hle => f _ _ _ _ ?_) (fun hlt => ?_)
  ·have : s[i + 1]? = none := List.getElem?_eq_none (by omega)
   unfold endS; rw [hsi]; simp only []; rw [if_neg hn, if_pos c3, this]
  ·have hl : i + 1 < s.length := by omega
   have : s[i + 1]? = some s[i + 1] := by simp [hl]
   refine ⟨_, ⟨by omega, by rw [show (((i + 1 : Nat) : Int)).toNat = i + 1 by omega]; exact this⟩, f _ _ _ _ ?_⟩
   unfold endS; rw [hsi]; simp only []; rw [if_neg hn, if_pos c3, this]; simp

def Znj (r : Except Nat (List Span × Nat)) : V := match r with
 | .error e => .tup [lst encS [], .i .i64 (-1), .i .i64 (e : Nat)]
 | .ok (l, j) => .tup [lst encS l, .i .i64 (j : Nat), .i .i64 0]

def Zr4 (s : List UInt8) (R : Except Nat (List Span × Nat)) (m : Nat) (vs : List V) (h : Heap) : Prop :=
 ∃ (i : Nat) (out : List Span) (a : Option (Nat × Nat)) (l : Nat) (c : Option Nat) (k : Nat) (v9 : V), vs = [.s s, .i .i64 (i : Nat), .undef, .sl none 0 (some 0) 0, .sl a l c k, v9] ∧ Lst encS 2 h a l c k out ∧
  i ≤ s.length ∧ out.length ≤ i ∧ s.length - i < m ∧ setS m s i out = R

theorem Znk (s : List UInt8) (i : Nat) (hs : s.length < 2 ^ 28) (hi : i ≤ s.length) : PCon UY 143 [.s s, .i .i64 (i : Nat)] (· = Znj (setS (s.length + 1) s i [])) := by
  refine Zt UK (fn := Tryz.f143) (by kernel_rfl) (by kernel_rfl) rfl ?_
  refine ZH UK (n := 81) (loc := UY.loc 143) 100 [0, 1, 3, 4, 7, 9] (by kernel_rfl) ?_
  rw [show (⟨[.s s, .i .i64 (i : Nat)] ++ List.replicate (Tryz.f143.ntmps - [V.s s, .i .i64 (i : Nat)].length) .undef, [], .empty⟩ : St) = ⟨.s s :: .i .i64 (i : Nat) :: List.replicate 79 .undef, [], .empty⟩ by rfl, Zvx]
  generalize hR : setS (s.length + 1) s i [] = R
  refine ⟨rfl, Zne [0, 1, 3, 4, 7, 9] [0, 1, 3, 4, 5, 6, 7, 9] rfl (by kernel_rfl) (Zr4 s R) (s.length + 1) Zu ⟨i, [], none, 0, some 0, 0, .undef, rfl, Lst.nil _ _ _ _ _, hi, by simp, by omega, hR⟩ ?_⟩
  rintro m vs h ⟨i, out, a, l, c, k, v9, rfl, hL, hi, hol, hm, hg⟩
  refine ZI UK (loc := UY.loc 143) 100 [0, 1, 3, 4, 5, 6, 7, 9] ?_
  rw [Zvy]
  obtain ⟨m, rfl⟩ : ∃ m', m = m' + 1 := ⟨m - 1, by omega⟩
  have hll := hL.len
  generalize hK : VC 81 [0, 1, 3, 4, 5, 6, 7, 9] [0, 1, 3, 4, 7, 9] (Zr4 s R) (m + 1) (Xi (post (flat (Za Tryz.f143)))) (FinS UY Tryz.f143 fun v h => ∃ r, Frz h v r ∧ r = Znj R) = K
  -- the end
  have stop : ∀ (v1 v3 : V) (a : Option (Nat × Nat)) (l : Nat) (c : Option Nat) (k : Nat) (x : Int) (y : Int) (w4 w9 : V) (h : Heap) (r : V), Frz h (.sl a l c k) r → .tup [r, .i .i64 x, .i .i64 y] = Znj R → K .ret 81 [.s s, v1, v3, .sl a l c k, .i .i64 x, .i .i64 y, w4, w9] h := by
    intro v1 v3 a l c k x y w4 w9 h r h1 h2
    subst hK
    exact Zl (.inr rfl) rfl ⟨_, .tup _ _ (.cons _ _ _ _ h1 (.cons _ _ _ _ (.i _ _) (.cons _ _ _ _ (.i _ _) .nil))), h2⟩
  have hiw : ∀ (j : Nat), j ≤ s.length → IntKind.i64.wrap ((i : Int) + ((j - i : Nat) : Int)) = (i : Int) + ((j - i : Nat) : Int) := fun j hj => Xu (by omega) (by omega)
  -- an item
  have item : ¬ (out ≠ [] ∧ s[i]? = some 93) → ∃ n n_1 n_2 : Int, (PCon UY 186 [.s s, .i .i64 (i : Nat)] fun v => v = .tup [.i .u8 n, .i .i64 n_1, .i .i64 n_2]) ∧
      If (ltI n_1 0) (K .ret 81 [.s s, .i .i64 (i : Nat), .undef, .sl none 0 (some 0) 0, .i .i64 (-1), .i .i64 n_2, .sl a l c k, .i .i64 n_1] h)
        (If (ltI (IntKind.i64.wrap ((i : Nat) + n_1)) (s.length : Nat)) (∃ c_1 : UInt8, (0 ≤ IntKind.i64.wrap ((i : Nat) + n_1) ∧ s[(IntKind.i64.wrap ((i : Nat) + n_1)).toNat]? = some c_1) ∧ If ((c_1.toNat : Int) == 45)
          (∃ n_3 n_4 n_5 : Int, (PCon UY 186 [.s s, .i .i64 (IntKind.i64.wrap (IntKind.i64.wrap ((i : Nat) + n_1) + 1))] fun v => v = .tup [.i .u8 n_3, .i .i64 n_4, .i .i64 n_5]) ∧
            If (ltI n_4 0) (K .ret 81 [.s s, .i .i64 (IntKind.i64.wrap ((i : Nat) + n_1)), .undef, .sl none 0 (some 0) 0, .i .i64 (-1), .i .i64 n_5, .sl a l c k, .i .i64 n_4] h)
              (If (ltI n_3 n) (K .ret 81 [.s s, .i .i64 (IntKind.i64.wrap ((i : Nat) + n_1)), .undef, .sl none 0 (some 0) 0, .i .i64 (-1), .i .i64 (IntKind.i64.wrap (IntKind.i64.wrap ((i : Nat) + n_1) + n_4)), .sl a l c k, .i .i64 n_4] h)
                (∃ (a' : Option (Nat × Nat)) (l' : Nat) (c' : Option Nat) (k' : Nat) (h_1 : Heap), Zk UY h 218 218 (.sl a l c k) (.ts [.i .u8 n, .i .u8 n_3] 1 (some 1)) = some (.sl a' l' c' k', h_1) ∧
                  K .normal 81 [.s s, .i .i64 (IntKind.i64.wrap (IntKind.i64.wrap (IntKind.i64.wrap ((i : Nat) + n_1) + 1) + n_4)), .undef, .sl none 0 (some 0) 0, .undef, .undef, .sl a' l' c' k', .i .i64 n_4] h_1)))
          (∃ (a' : Option (Nat × Nat)) (l' : Nat) (c' : Option Nat) (k' : Nat) (h_1 : Heap), Zk UY h 218 218 (.sl a l c k) (.ts [.i .u8 n, .i .u8 n] 1 (some 1)) = some (.sl a' l' c' k', h_1) ∧
            K .normal 81 [.s s, .i .i64 (IntKind.i64.wrap ((i : Nat) + n_1)), .undef, .sl none 0 (some 0) 0, .undef, .undef, .sl a' l' c' k', .i .i64 n_1] h_1))
          (∃ (a' : Option (Nat × Nat)) (l' : Nat) (c' : Option Nat) (k' : Nat) (h_1 : Heap), Zk UY h 218 218 (.sl a l c k) (.ts [.i .u8 n, .i .u8 n] 1 (some 1)) = some (.sl a' l' c' k', h_1) ∧
            K .normal 81 [.s s, .i .i64 (IntKind.i64.wrap ((i : Nat) + n_1)), .undef, .sl none 0 (some 0) 0, .undef, .undef, .sl a' l' c' k', .i .i64 n_1] h_1)) := by
    intro hn
    simp only [setS, hn, if_false] at hg
    have hc := Zgq s i (by omega) (by omega)
    have nilz : ∀ h : Heap, Frz h (.sl none 0 (some 0) 0) (lst encS []) := fun h => Zab encS h _ _
    -- one more span
    have more : ∀ (x : Span) (j : Nat) (w9 : V), i < j → j ≤ s.length → setS m s j (out ++ [x]) = R → ∃ (a' : Option (Nat × Nat)) (l' : Nat) (c' : Option Nat) (k' : Nat) (h_1 : Heap), Zk UY h 218 218 (.sl a l c k) (.ts [.i .u8 x.lo, .i .u8 x.hi] 1 (some 1)) = some (.sl a' l' c' k', h_1) ∧
            K .normal 81 [.s s, .i .i64 (j : Nat), .undef, .sl none 0 (some 0) 0, .undef, .undef, .sl a' l' c' k', w9] h_1 := by
      intro x j w9 h1 h2 h3
      obtain ⟨a', l', c', k', h', q1, q2, _⟩ := Ze2 x hL (by omega)
      refine ⟨a', l', c', k', h', q1, ?_⟩
      subst hK
      exact ⟨rfl, m, by omega, j, out ++ [x], a', l', c', k', w9, rfl, q2, h2, by simp; omega, by omega, h3⟩
    cases he : endS s i with
    | error e =>
      have hi1 : Jb s i = .error e := by simp only [Jb, he]
      rw [hi1] at hg
      have hr : WS s i = .tup [.i .u8 0, .i .i64 (-1), .i .i64 (e : Nat)] := by simp only [WS, he]
      rw [hr] at hc
      refine ⟨_, _, _, hc, Zw (fun _ => stop _ _ _ _ _ _ _ _ _ _ _ _ (nilz _) ?_) (fun h => by omega)⟩
      subst hg; rfl
    | ok y =>
      obtain ⟨lo, j⟩ := y
      have hj := Zad he
      have hr : WS s i = .tup [.i .u8 lo, .i .i64 (j - i : Nat), .i .i64 0] := by simp only [WS, he]
      rw [hr] at hc
      have hwj : IntKind.i64.wrap (((i : Nat) : Int) + ((j - i : Nat) : Int)) = (j : Nat) := by rw [Xu (by omega) (by omega)]; omega
      refine ⟨lo, ((j - i : Nat) : Int), 0, hc, Zw (fun h => by omega) (fun _ => ?_)⟩
      rw [hwj]
      refine Zg (fun hjl => ?_) (fun hjg => ?_)
      · refine ⟨s[j], ⟨by omega, by simp [hjl]⟩, ?_⟩
        rw [show (45 : Int) = (((45 : UInt8).toNat : Nat) : Int) by decide, JE]
        refine JY (fun c45 => ?_) (fun c45 => ?_)
        · have h45 : s[j]? = some 45 := by rw [← c45]; simp [hjl]
          have hc2 := Zgq s (j + 1) (by omega) (by omega)
          rw [Zf (by omega)]
          cases he2 : endS s (j + 1) with
          | error e =>
            have hi1 : Jb s i = .error e := by simp only [Jb, he, h45, if_true, he2]
            rw [hi1] at hg
            have hr2 : WS s (j + 1) = .tup [.i .u8 0, .i .i64 (-1), .i .i64 (e : Nat)] := by simp only [WS, he2]
            rw [hr2] at hc2
            refine ⟨_, _, _, hc2, Zw (fun _ => stop _ _ _ _ _ _ _ _ _ _ _ _ (nilz _) ?_) (fun h => by omega)⟩
            subst hg; rfl
          | ok y =>
            obtain ⟨hi2, k2⟩ := y
            have hk := Zad he2
            have hr2 : WS s (j + 1) = .tup [.i .u8 hi2, .i .i64 (k2 - (j + 1) : Nat), .i .i64 0] := by simp only [WS, he2]
            rw [hr2] at hc2
            refine ⟨hi2, ((k2 - (j + 1) : Nat) : Int), 0, hc2, Zw (fun h => by omega) (fun _ => Zw (fun hlt => ?_) (fun hge => ?_))⟩
            · have hi1 : Jb s i = .error (k2 - 1) := by simp only [Jb, he, h45, if_true, he2, hlt]
              rw [hi1] at hg
              rw [show IntKind.i64.wrap (((j : Nat) : Int) + ((k2 - (j + 1) : Nat) : Int)) = ((k2 - 1 : Nat) : Int) by rw [Xu (by omega) (by omega)]; omega]
              refine stop _ _ _ _ _ _ _ _ _ _ _ _ (nilz _) ?_
              subst hg; rfl
            · have hn : ¬ hi2 < lo := by omega
              have hi1 : Jb s i = .ok (⟨lo, hi2⟩, k2) := by simp only [Jb, he, h45, if_true, he2, hn, if_false]
              rw [hi1] at hg
              rw [show IntKind.i64.wrap (((j + 1 : Nat) : Int) + ((k2 - (j + 1) : Nat) : Int)) = ((k2 : Nat) : Int) by rw [Xu (by omega) (by omega)]; omega]
              exact more ⟨lo, hi2⟩ k2 _ (by omega) (by omega) hg
        · have h45 : ¬ s[j]? = some 45 := by simp [hjl, c45]
          have hi1 : Jb s i = .ok (⟨lo, lo⟩, j) := by simp only [Jb, he, h45, if_false]
          rw [hi1] at hg
          exact more ⟨lo, lo⟩ j _ (by omega) (by omega) hg
      · have h45 : ¬ s[j]? = some 45 := by rw [List.getElem?_eq_none hjg]; simp
        have hi1 : Jb s i = .ok (⟨lo, lo⟩, j) := by simp only [Jb, he, h45, if_false]
        rw [hi1] at hg
        exact more ⟨lo, lo⟩ j _ (by omega) (by omega) hg
  refine QF (fun hp => ?_) (fun hz => item ?_)
  · have hne : out ≠ [] := by intro he; subst he; rw [hll] at hp; simp at hp
    refine Zg (fun hlt => ?_) (fun hge => item ?_)
    · refine ⟨s[i], ⟨by omega, by simp [hlt]⟩, ?_⟩
      rw [show (93 : Int) = (((93 : UInt8).toNat : Nat) : Int) by decide, JE]
      refine JY (fun c93 => ?_) (fun c93 => item ?_)
      · have h93 : s[i]? = some 93 := by rw [← c93]; simp [hlt]
        simp only [setS, hne, h93, ne_eq, not_false_eq_true, and_self, if_true] at hg
        rw [Zf (by omega)]
        refine stop _ _ _ _ _ _ _ _ _ _ _ _ (hL.frz (by decide) Za8) ?_
        subst hg; rfl
      · rintro ⟨_, h1⟩; simp [hlt] at h1; exact c93 h1
    · rintro ⟨_, h1⟩; rw [List.getElem?_eq_none hge] at h1; cases h1
  · rintro ⟨h1, _⟩
    exact h1 (List.eq_nil_of_length_eq_zero (by omega))
end Go.Y
