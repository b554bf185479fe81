/- What the pieces of functions come to: printed by program. -/
import Derived.Test.YtkcgmnhojldoiaaGreatYTryzP
import Derived.Test.YtkcgmnhojldoiaaGreatYLoop
import Derived.Test.YtkcgmnhojldoiaaGreatYRow
namespace Go.Y
open Go.Proofs
set_option maxRecDepth 1000000
set_option maxHeartbeats 0
theorem ZAw (s0 : List UInt8) (h : Heap) (K : KT) : (Zc UY (UY.loc 95) 100 (pre (flat (Za Tryz.f95))) ⟨(V.s s0 :: List.replicate 37 .undef), [], h⟩ (VQ [0, 2, 3] K)) =
 (If ((↑s0.length : Int) == (1 : Int))
 (∃ (c : UInt8),
 ((0 : Int) ≤ (0 : Int) ∧ s0[Int.toNat (0 : Int)]? = some c) ∧
 If (leI 48 (↑c.toNat : Int))
 (∃ (c : UInt8),
 ((0 : Int) ≤ (0 : Int) ∧ s0[Int.toNat (0 : Int)]? = some c) ∧
 If (leI (↑c.toNat : Int) (57 : Int)) (K .ret 38 [.s s0, .b true, .undef] h)
 (K .normal 38 [.s s0, .b false, .i .i64 0] h))
 (K .normal 38 [.s s0, .b false, .i .i64 0] h))
 (K .normal 38 [.s s0, .b false, .i .i64 0] h)) := by kernel_rfl
theorem ZAx (s0 : List UInt8) (x3 : Int) (h : Heap) (K : KT) : (Zc UY (UY.loc 95) 100 ((flat (Zv (post (flat (Za Tryz.f95)))))) ⟨mk 38 (([0, 3] : List Nat).zip [V.s s0, V.i .i64 x3]), [], h⟩ (VQ [0, 2, 3] K)) =
 (If (ltI x3 (↑s0.length : Int))
 (∃ (c : UInt8),
 ((0 : Int) ≤ x3 ∧ s0[x3.toNat]? = some c) ∧
 ∃ (b : Bool),
 (PCon UY 141 [V.i .u8 (↑c.toNat : Int), V.b (ltI 0 x3)] fun v => v = V.b b) ∧
 If (!b) (K .ret 38 [.s s0, .b false, .i .i64 x3] h)
 (K .normal 38 [.s s0, .undef, .i .i64 (IntKind.i64.wrap (x3 + (1 : Int)))] h))
 (K (.exit 0) 38 [.s s0, .undef, .i .i64 x3] h)) := by kernel_rfl
theorem ZAy (s0 : List UInt8) (x3 : Int) (h : Heap) (K : KT) : (Zc UY (UY.loc 95) 100 (((post (flat (Za Tryz.f95))).drop 1)) ⟨mk 38 (([0, 3] : List Nat).zip [V.s s0, V.i .i64 x3]), [], h⟩ (VQ [2] K)) =
 (If (leI 1 (↑s0.length : Int)) (K .ret 38 [.b (leI (↑s0.length : Int) (8 : Int))] h)
 (K .ret 38 [.b false] h)) := by kernel_rfl
theorem Zve (s0 : List UInt8) (h : Heap) (K : KT) : (Zc UY (UY.loc 204) 100 (pre (flat (Za Tryz.f204))) ⟨(V.s s0 :: List.replicate 44 .undef), [], h⟩ (VQ [0, 2, 35, 36] K)) =
 (If (s0 == #[].toList) (K .ret 45 [.s s0, .b false, .undef, .undef] h)
 (If (ltI 8 (↑s0.length : Int)) (K .ret 45 [.s s0, .b false, .undef, .undef] h)
 (If ((↑s0.length : Int) == (1 : Int))
 (∃ (c : UInt8),
 ((0 : Int) ≤ (0 : Int) ∧ s0[Int.toNat (0 : Int)]? = some c) ∧
 ∃ (b : Bool),
 (PCon UY 230 [V.i .u8 (↑c.toNat : Int)] fun v => v = V.b b) ∧
 If b (K .ret 45 [.s s0, .b true, .undef, .undef] h)
 (∃ (c : UInt8),
 ((0 : Int) ≤ (0 : Int) ∧ s0[Int.toNat (0 : Int)]? = some c) ∧
 If (leI 48 (↑c.toNat : Int))
 (∃ (c : UInt8),
 ((0 : Int) ≤ (0 : Int) ∧ s0[Int.toNat (0 : Int)]? = some c) ∧
 K .ret 45 [.s s0, .b (leI (↑c.toNat : Int) (57 : Int)), .undef, .undef] h)
 (K .ret 45 [.s s0, .b false, .undef, .undef] h)))
 (∃ (c : UInt8),
 ((0 : Int) ≤ (0 : Int) ∧ s0[Int.toNat (0 : Int)]? = some c) ∧
 ∃ (b : Bool),
 (PCon UY 230 [V.i .u8 (↑c.toNat : Int)] fun v => v = V.b b) ∧
 If (!b) (K .ret 45 [.s s0, .b false, .undef, .undef] h)
 (K .normal 45
 [.s s0, .b false, .i .i64 (↑s0.length : Int), .i .i64 0] h))))) := by kernel_rfl
theorem Zvf (s0 : List UInt8) (a : Int) (h : Heap) (K : KT) : (Zc UY (UY.loc 204) 100 ((flat (Zv (post (flat (Za Tryz.f204)))))) ⟨mk 45 (([0, 35, 36] : List Nat).zip [V.s s0, V.i .i64 (↑s0.length : Int), V.i .i64 a]), [], h⟩ (VQ [0, 2, 35, 36] K)) =
 (If (ltI a (↑s0.length : Int))
 (∃ (c : UInt8),
 ((0 : Int) ≤ a ∧ s0[a.toNat]? = some c) ∧
 ∃ (b : Bool),
 (PCon UY 231 [V.i .u8 (↑c.toNat : Int)] fun v => v = V.b b) ∧
 If (!b)
 (K .ret 45 [.s s0, .b false, .i .i64 (↑s0.length : Int), .i .i64 a] h)
 (K .normal 45
 [.s s0, .undef, .i .i64 (↑s0.length : Int),
 .i .i64 (IntKind.i64.wrap (a + (1 : Int)))]
 h))
 (K (.exit 1) 45 [.s s0, .undef, .i .i64 (↑s0.length : Int), .i .i64 a] h)) := by kernel_rfl
theorem Zvg (h : Heap) (K : KT) : (Zc UY (UY.loc 204) 100 (((post (flat (Za Tryz.f204))).drop 1)) ⟨mk 45 (([] : List Nat).zip []), [], h⟩ (VQ [2] K)) =
 (K .ret 45 [.b true] h) := by kernel_rfl
theorem Zvh (x0 : Int) (b1 : Bool) (h : Heap) (K : KT) : (Zc UY (UY.loc 141) 100 ((flat (Za Tryz.f141))) ⟨(V.i .u8 x0 :: V.b b1 :: List.replicate 24 .undef), [], h⟩ (VQ [4] K)) =
 (If (leI 97 x0)
 (If (leI x0 122) (K .ret 26 [.b true] h)
 (If b1
 (If (leI 48 x0)
 (If (leI x0 57) (K .ret 26 [.b true] h)
 (K .ret 26 [.b (x0 == (95 : Int))] h))
 (K .ret 26 [.b (x0 == (95 : Int))] h))
 (K .ret 26 [.b false] h)))
 (If b1
 (If (leI 48 x0)
 (If (leI x0 57) (K .ret 26 [.b true] h) (K .ret 26 [.b (x0 == (95 : Int))] h))
 (K .ret 26 [.b (x0 == (95 : Int))] h))
 (K .ret 26 [.b false] h))) := by kernel_rfl
theorem Zvi (x0 : Int) (h : Heap) (K : KT) : (Zc UY (UY.loc 230) 100 ((flat (Za Tryz.f230))) ⟨(V.i .u8 x0 :: List.replicate 8 .undef), [], h⟩ (VQ [2] K)) =
 (If (leI 97 x0) (K .ret 9 [.b (leI x0 122)] h) (K .ret 9 [.b false] h)) := by kernel_rfl
theorem Zvj (x0 : Int) (h : Heap) (K : KT) : (Zc UY (UY.loc 231) 100 ((flat (Za Tryz.f231))) ⟨(V.i .u8 x0 :: List.replicate 16 .undef), [], h⟩ (VQ [2] K)) =
 (∃ (b : Bool),
 (PCon UY 230 [V.i .u8 x0] fun v => v = V.b b) ∧
 If b (K .ret 17 [.b true] h)
 (If (leI 48 x0)
 (If (leI x0 57) (K .ret 17 [.b true] h)
 (K .ret 17 [.b (x0 == (95 : Int))] h))
 (K .ret 17 [.b (x0 == (95 : Int))] h))) := by kernel_rfl
theorem Zvk (d : Int) (e : List UInt8) (a c f : Int) (h : Heap) (K : KT) : (Zc UY (UY.loc 234) 100 ((flat (Za Tryz.f234))) ⟨(V.agg [V.i .i64 d, V.s e, V.i .i64 a, V.i .i64 c, V.i .i64 f] :: List.replicate 27 .undef), [], h⟩ (VQ [2] K)) =
 (If (leI 0 a)
 (If (leI a 9)
 (If (c == (-1 : Int)) (K .ret 28 [.b true] h)
 (If (leI a c) (K .ret 28 [.b (leI c 9)] h) (K .ret 28 [.b false] h)))
 (K .ret 28 [.b false] h))
 (K .ret 28 [.b false] h)) := by kernel_rfl
theorem Zz {Y : YP} (hY : YOK Y) {f : FuncId} {fn : Func} (hf : Y.P.funcs[f]? = some fn) (hb : fn.body.isSome = true) {args : List V} (hc : ZJ args = true) {P : V → Prop} {slots : List Nat} {env' : List V} {T : (KT) → Prop}
  (tree : ∀ K, Zc Y (Y.loc f) 100 (flat (Za fn)) ⟨env', [], .empty⟩ (VQ slots K) = T K) (he : args ++ List.replicate (fn.ntmps - args.length) .undef = env')
  (hfin : T (Fin Y fn slots (fun v h => ∃ r, Frz h v r ∧ P r))) : PCon Y f args P := by
 refine Zt hY hf hb hc ?_
 rw [he]
 refine Zm hY (loc := Y.loc f) 100 slots ?_
 rw [tree]
 exact hfin

def Qh (x : Int) : Bool := leI 97 x && leI x 122
def Jj (x : Int) : Bool := leI 48 x && leI x 57
def Ws (x : Int) : Bool := Qh x || Jj x || x == 95

theorem Zae (x : Int) : PCon UY 230 [.i .u8 x] (· = .b (Qh x)) := by
 refine Zz UK (fn := Tryz.f230) (by kernel_rfl) (by kernel_rfl) rfl (fun K => Zvi x .empty K) rfl ?_
 refine Zd (fun h => Zs (.inr rfl) rfl (.b _) ?_) (fun h => Zs (.inr rfl) rfl (.b _) ?_)
 ·simp [Qh, h]
 ·simp [Qh, h]
theorem Zku (x : Int) : PCon UY 231 [.i .u8 x] (· = .b (Ws x)) := by
 refine Zz UK (fn := Tryz.f231) (by kernel_rfl) (by kernel_rfl) rfl (fun K => Zvj x .empty K) rfl ?_
 refine ⟨_, Zae x, ?_⟩
 refine Zd (fun h => Zs (.inr rfl) rfl (.b _) (by simp [Ws, h])) (fun h => Zd (fun h1 => Zd (fun h2 => Zs (.inr rfl) rfl (.b _) ?_) (fun h2 => Zs (.inr rfl) rfl (.b _) ?_)) (fun h1 => Zs (.inr rfl) rfl (.b _) ?_))
 ·simp [Ws, Jj, h, h1, h2]
 ·simp [Ws, Jj, h, h1, h2]
 ·simp [Ws, Jj, h, h1]
def XI (x : Int) (b : Bool) : Bool := Qh x || b && (Jj x || x == 95)
theorem Zp7 (x : Int) (b : Bool) : PCon UY 141 [.i .u8 x, .b b] (· = .b (XI x b)) := by
 refine Zz UK (fn := Tryz.f141) (by kernel_rfl) (by kernel_rfl) rfl (fun K => Zvh x b .empty K) rfl ?_
 have fin : ∀ y : Bool, y = XI x b → Fin UY Tryz.f141 [4] (fun v h => ∃ r, Frz h v r ∧ r = .b (XI x b)) .ret 26 [.b y] .empty := fun y e => Zs (.inr rfl) rfl (.b _) (by rw [e])
 have rest : Qh x = false → If b (If (leI 48 x) (If (leI x 57) (Fin UY Tryz.f141 [4] (fun v h => ∃ r, Frz h v r ∧ r = .b (XI x b)) .ret 26 [.b true] .empty) (Fin UY Tryz.f141 [4] (fun v h => ∃ r, Frz h v r ∧ r = .b (XI x b)) .ret 26 [.b (x == 95)] .empty)) (Fin UY Tryz.f141 [4] (fun v h => ∃ r, Frz h v r ∧ r = .b (XI x b)) .ret 26 [.b (x == 95)] .empty)) (Fin UY Tryz.f141 [4] (fun v h => ∃ r, Frz h v r ∧ r = .b (XI x b)) .ret 26 [.b false] .empty) := by
  intro hl
  refine Zd (fun h => Zd (fun h1 => Zd (fun h2 => fin _ ?_) (fun h2 => fin _ ?_)) (fun h1 => fin _ ?_)) (fun h => fin _ ?_)
  ·simp [XI, hl, h, Jj, h1, h2]
  ·simp [XI, hl, h, Jj, h1, h2]
  ·simp [XI, hl, h, Jj, h1]
  ·simp [XI, hl, h]
 refine Zd (fun h => Zd (fun h1 => fin _ (by simp [XI, Qh, h, h1])) (fun h1 => rest (by simp [Qh, h1]))) (fun h => rest (by simp [Qh, h]))

def Xh : List UInt8 → Bool
 | [] => true
 | c :: r => Qh c.toNat && r.all fun c => Ws c.toNat
def QA : List UInt8 → Bool
 | [c] => Jj c.toNat
 | _ => false
def QO (s : List UInt8) : Bool := decide (1 ≤ s.length) && decide (s.length ≤ 8) && (QA s || Xh s)

theorem Ze1 (a : List UInt8) (c : UInt8) : Xh (a ++ [c]) = (Xh a && XI c.toNat (decide (0 < a.length))) := by
 cases a with
 | nil => simp [Xh, XI]
 | cons x a => simp [Xh, XI, Ws, List.all_append, Bool.or_assoc, Bool.and_assoc]
theorem Zb5 {s : List UInt8} {i : Nat} (hi : i < s.length) (h : XI s[i].toNat (decide (0 < i)) = false) : Xh s = false := by
 cases s with
 | nil => simp at hi
 | cons x r =>
  cases i with
  | zero =>
   have : Qh x.toNat = false := by simpa [XI] using h
   simp [Xh, this]
  | succ j =>
   have hj : j < r.length := by simpa using hi
   have h' : Ws r[j].toNat = false := by simpa [XI, Ws, Bool.or_assoc] using h
   have : (r.all fun c => Ws c.toNat) = false := by
    rw [List.all_eq_false]
    exact ⟨r[j], List.getElem_mem hj, by simp [h']⟩
   simp [Xh, this]

theorem Zgn (s : List UInt8) (hs : s.length < 2 ^ 30) : PCon UY 95 [.s s] (· = .b (QO s)) := by
 refine Zt UK (fn := Tryz.f95) (by kernel_rfl) (by kernel_rfl) rfl ?_
 refine ZH UK (n := 38) (loc := UY.loc 95) 100 [0, 2, 3] (by kernel_rfl) ?_
 refine Eq.mpr (ZAw s .empty _) ?_
 have main : QA s = false → PreV UY 38 [0, 2, 3] (post (flat (Za Tryz.f95))) (FinS UY Tryz.f95 fun v h => ∃ r, Frz h v r ∧ r = .b (QO s)) .normal 38 [.s s, .b false, .i .i64 0] .empty := by
  intro hod
  refine ⟨rfl, ZK [0, 3] [0, 2, 3] rfl (by kernel_rfl) (fun m vs _ => ∃ i : Nat, vs = [.s s, .i .i64 (i : Nat)] ∧ i ≤ s.length ∧ m = s.length - i ∧ Xh (s.take i) = true) s.length Zu ⟨0, rfl, by omega, by omega, by simp [Xh]⟩ ?_⟩
  rintro m vs h ⟨i, rfl, hi, rfl, hno⟩
  refine ZI UK (loc := UY.loc 95) 100 [0, 2, 3] ?_
  refine Eq.mpr (ZAx s (i : Nat) h _) ?_
  refine Zg (fun hlt => ?_) (fun hge => ?_)
  ·refine ⟨s[i], ⟨by omega, by rw [Int.toNat_natCast]; exact List.getElem?_eq_getElem hlt⟩, _, Zp7 _ _, ?_⟩
   rw [Zsw]
   refine Zd (fun hc => ?_) (fun hc => ?_)
   ·have hc : XI s[i].toNat (decide (0 < i)) = false := by simpa using hc
    exact Zl (.inr rfl) rfl ⟨_, .b _, by simp [QO, hod, Zb5 hlt hc]⟩
   ·have hc : XI s[i].toNat (decide (0 < i)) = true := by simpa using hc
    refine ⟨rfl, s.length - (i + 1), by omega, i + 1, by rw [Zf (by omega)]; rfl, by omega, rfl, ?_⟩
    have hl : (s.take i).length = i := by simp; omega
    rw [List.take_succ_eq_append_getElem hlt, Ze1, hno, hl, hc]; rfl
  ·refine Ze [0, 3] (by kernel_rfl) rfl rfl ?_
   refine Zm UK (loc := UY.loc 95) 100 [2] ?_
   refine Eq.mpr (ZAy s (i : Nat) h _) ?_
   rw [List.take_of_length_le hge] at hno
   refine Qz (fun h1 => Zs (.inr rfl) rfl (.b _) ?_) (fun h1 => Zs (.inr rfl) rfl (.b _) ?_)
   ·have h1 : 1 ≤ s.length := by omega
    have : leI (s.length : Nat) 8 = decide (s.length ≤ 8) := by unfold leI; by_cases hx : s.length ≤ 8 <;> simp [hx] <;> omega
    simp only [QO, h1, hno, this, decide_true, Bool.or_true, Bool.true_and, Bool.and_true]
   ·have h1 : ¬ 1 ≤ s.length := by omega
    simp [QO, h1]
 have notd : (s.length = 1 → False) → QA s = false := by
  intro h
  match s, h with
  | [], _ => rfl
  | [c], h => exact absurd rfl h
  | _ :: _ :: _, _ => rfl
 refine Zd (fun h1 => ?_) (fun h1 => main (notd fun e => by simp [e] at h1))
 have h1 : s.length = 1 := by simp at h1; omega
 obtain ⟨c, rfl⟩ : ∃ c, s = [c] := by
  match s, h1 with
  | [c], _ => exact ⟨c, rfl⟩
 refine ⟨c, ⟨by omega, rfl⟩, Zd (fun h2 => ⟨c, ⟨by omega, rfl⟩, Zd (fun h3 => Zl (.inr rfl) rfl ⟨_, .b _, ?_⟩) (fun h3 => main ?_)⟩) (fun h2 => main ?_)⟩
 ·simp [QO, QA, Jj, h2, h3]
 ·simp [QA, Jj, h3]
 ·simp [QA, Jj, h2]

theorem Zjr (s : List UInt8) : PCon UY 204 [.s s] (· = .b (QO s)) := by
 refine Zt UK (fn := Tryz.f204) (by kernel_rfl) (by kernel_rfl) rfl ?_
 refine ZH UK (n := 45) (loc := UY.loc 204) 100 [0, 2, 35, 36] (by kernel_rfl) ?_
 refine Eq.mpr (Zve s .empty _) ?_
 have fin : ∀ (b : Bool) (h : Heap), b = QO s → ∃ r, Frz h (.b b) r ∧ r = .b (QO s) := fun b h e => ⟨_, .b _, by rw [e]⟩
 refine Zd (fun h0 => Zl (.inr rfl) rfl (fin false _ (by rw [show s = [] by simpa using h0]; rfl))) (fun h0 => ?_)
 have h0 : s ≠ [] := by simpa using h0
 refine Zw (fun h8 => Zl (.inr rfl) rfl (fin false _ (by simp [QO, show ¬ s.length ≤ 8 by omega]))) (fun h8 => ?_)
 have h8 : s.length ≤ 8 := by omega
 match s, h0, h8, fin with
 | c :: r, _, h8, fin =>
 refine Zd (fun h1 => ?_) (fun h1 => ?_)
 ·have h1 : r = [] := by simp at h1; exact List.eq_nil_of_length_eq_zero (by omega)
  subst h1
  refine ⟨c, ⟨by omega, rfl⟩, _, Zae _, Zd (fun hl => ?_) (fun hl => ⟨c, ⟨by omega, rfl⟩, Zd (fun h2 => ⟨c, ⟨by omega, rfl⟩, ?_⟩) (fun h2 => ?_)⟩)⟩
  ·exact Zl (.inr rfl) rfl (fin _ _ (by simp [QO, Xh, hl]))
  ·exact Zl (.inr rfl) rfl (fin _ _ (by simp [QO, Xh, QA, Jj, hl, h2]))
  ·exact Zl (.inr rfl) rfl (fin _ _ (by simp [QO, Xh, QA, Jj, hl, h2]))
 ·have h1 : r ≠ [] := fun e => by subst e; simp at h1
  have hod : QA (c :: r) = false := by
   match r, h1 with
   | _ :: _, _ => rfl
  refine ⟨c, ⟨by omega, rfl⟩, _, Zae _, Zd (fun hl => ?_) (fun hl => ?_)⟩
  ·have hl : Qh c.toNat = false := by simpa using hl
   exact Zl (.inr rfl) rfl (fin _ _ (by simp [QO, hod, Xh, hl]))
  have hl : Qh c.toNat = true := by simpa using hl
  have hw : Ws c.toNat = true := by simp [Ws, hl]
  refine ⟨rfl, ZK [0, 35, 36] [0, 2, 35, 36] rfl (by kernel_rfl) (fun m vs _ => ∃ i : Nat, vs = [.s (c :: r), .i .i64 ((c :: r).length : Nat), .i .i64 (i : Nat)] ∧ i ≤ (c :: r).length ∧ m = (c :: r).length - i ∧ ((c :: r).take i).all (fun c => Ws c.toNat) = true) (c :: r).length Zu ⟨0, rfl, by omega, by omega, by simp⟩ ?_⟩
  rintro m vs h ⟨i, rfl, hi, rfl, hno⟩
  refine ZI UK (loc := UY.loc 204) 100 [0, 2, 35, 36] ?_
  refine Eq.mpr (Zvf (c :: r) (i : Nat) h _) ?_
  refine Zg (fun hlt => ?_) (fun hge => ?_)
  ·refine ⟨(c :: r)[i], ⟨by omega, by rw [Int.toNat_natCast]; exact List.getElem?_eq_getElem hlt⟩, _, Zku _, Zd (fun hc => ?_) (fun hc => ?_)⟩
   ·have hc : Ws (c :: r)[i].toNat = false := by simpa using hc
    refine Zl (.inr rfl) rfl (fin _ _ ?_)
    have hi0 : i ≠ 0 := fun e => by subst e; simp [hw] at hc
    have : Xh (c :: r) = false := Zb5 hlt (by
     have : decide (0 < i) = true := by simp; omega
     rw [this]
     simpa [XI, Ws, Bool.or_assoc] using hc)
    simp [QO, hod, this]
   ·have hc : Ws (c :: r)[i].toNat = true := by simpa using hc
    refine ⟨rfl, (c :: r).length - (i + 1), by omega, i + 1, by rw [Zf (by omega)]; rfl, by omega, rfl, ?_⟩
    rw [List.take_succ_eq_append_getElem hlt, List.all_append, hno]
    simp only [List.all_cons, List.all_nil, hc, Bool.and_true]
  ·refine Ze [] (by kernel_rfl) rfl rfl ?_
   refine Zm UK (loc := UY.loc 204) 100 [2] ?_
   refine Eq.mpr (Zvg h _) ?_
   rw [List.take_of_length_le hge] at hno
   have hr : (r.all fun c => Ws c.toNat) = true := by simpa [hw] using hno
   refine Zs (.inr rfl) rfl (.b _) ?_
   simp only [QO, Xh, hl, hr, h8]
   simp
theorem Zvl (a : Int) (d : List UInt8) (f g e m : Int) (o : List V) (j : Nat) (h : Heap) (K : KT) : (Zc UY (UY.loc 209) 100 ((flat (Za Tryz.f209))) ⟨(V.agg [V.i .i64 a, V.s d, V.i .i64 f, V.i .i64 g, V.i .i64 e] :: V.agg [V.i .i64 m, V.ts o j none] :: List.replicate 78 .undef), [], h⟩ (VQ [4] K)) =
 (If (leI 0 e)
 (If (a == (1 : Int))
 (If (ltI e j)
 (∃ (b : Bool),
 (PCon UY 234
 [V.agg
 [V.i .i64 a, V.s d, V.i .i64 f, V.i .i64 g, V.i .i64 e]]
 fun v => v = V.b b) ∧
 If b
 (If (!d == #[].toList) (K .ret 80 [.b (leI (↑d.length : Int) m)] h)
 (K .ret 80 [.b false] h))
 (K .ret 80 [.b false] h))
 (K .ret 80 [.b false] h))
 (If (a == (2 : Int))
 (∃ (cs : List V) (l : Nat) (c : Option Nat) (n n_1 : Int), (PCon UY 235 [V.s d] fun (v : V) =>
 v = V.tup [V.ts cs l c, V.i .i64 n, V.i .i64 n_1]) ∧
 If (ltI e j)
 (If (f == (0 : Int))
 (If (g == (0 : Int)) (K .ret 80 [.b (n_1 == (0 : Int))] h)
 (K .ret 80 [.b false] h))
 (K .ret 80 [.b false] h))
 (K .ret 80 [.b false] h))
 (If (a == (3 : Int))
 (If (e == (0 : Int))
 (If (d == #[].toList)
 (∃ (b : Bool),
 (PCon UY 234
 [V.agg
 [V.i .i64 a, V.s d, V.i .i64 f, V.i .i64 g,
 V.i .i64 e]]
 fun v => v = V.b b) ∧
 K .ret 80 [.b b] h)
 (K .ret 80 [.b false] h))
 (K .ret 80 [.b false] h))
 (K .ret 80 [.b false] h))))
 (If (a == (1 : Int)) (K .ret 80 [.b false] h)
 (If (a == (2 : Int))
 (∃ (cs : List V) (l : Nat) (c : Option Nat) (n n_1 : Int), (PCon UY 235 [V.s d] fun (v : V) =>
 v = V.tup [V.ts cs l c, V.i .i64 n, V.i .i64 n_1]) ∧
 K .ret 80 [.b false] h)
 (If (a == (3 : Int))
 (If (e == (0 : Int))
 (If (d == #[].toList)
 (∃ (b : Bool),
 (PCon UY 234
 [V.agg
 [V.i .i64 a, V.s d, V.i .i64 f, V.i .i64 g,
 V.i .i64 e]]
 fun v => v = V.b b) ∧
 K .ret 80 [.b b] h)
 (K .ret 80 [.b false] h))
 (K .ret 80 [.b false] h))
 (K .ret 80 [.b false] h))))) := by kernel_rfl
theorem ZAz (a : Int) (d : List V) (c : Nat) (h : Heap) (K : KT) : (Zc UY (UY.loc 60) 100 (pre (flat (Za Tryz.f60))) ⟨(V.agg [V.i .i64 a, V.ts d c none] :: List.replicate 83 .undef), [], h⟩ (VQ [1, 2, 3, 10] K)) =
 (If (ltI a 1)
 (K .ret 84 [.lb [.i .i64 a, .ts d c none], .b false, .undef, .b true] h)
 (If (ltI 16 a)
 (K .ret 84 [.lb [.i .i64 a, .ts d c none], .b false, .undef, .b false]
 h)
 (If (ltI (c : Int) (1 : Int))
 (K .ret 84
 [.lb [.i .i64 a, .ts d c none], .b false, .undef, .b false] h)
 (If (ltI 16 c)
 (K .ret 84
 [.lb [.i .i64 a, .ts d c none], .b false, .undef, .b false] h)
 (K .normal 84
 [.lb [.i .i64 a, .ts d c none], .b false, .i .i64 0, .b false]
 h))))) := by kernel_rfl
theorem ZA0 (c : Int) (d : List V) (a : Nat) (x3 : Int) (e : Bool) (h : Heap) (K : KT) : (Zc UY (UY.loc 60) 100 (pre (flat (Zv (post (flat (Za Tryz.f60)))))) ⟨mk 84 (([1, 3, 10] : List Nat).zip [V.lb [V.i .i64 c, V.ts d a none], V.i .i64 x3, V.b e]), [], h⟩ (VQ [1, 3, 10] K)) =
 (If (ltI x3 a)
 (K .normal 84 [.lb [.i .i64 c, .ts d a none], .i .i64 x3, .b e]
 h)
 (K (.exit 0) 84
 [.lb [.i .i64 c, .ts d a none], .i .i64 x3, .b e] h)) := by kernel_rfl
theorem ZA1 (e : Int) (a : List V) (d : Nat) (x3 : Int) (f : Bool) (h : Heap) (K : KT) : (Zc UY (UY.loc 60) 100 (pre (flat (Xx (post (flat (Zv (post (flat (Za Tryz.f60))))))))) ⟨mk 84 (([1, 3, 10] : List Nat).zip [V.lb [V.i .i64 e, V.ts a d none], V.i .i64 x3, V.b f]), [], h⟩ (VQ [1, 2, 3, 4, 5, 10] K)) =
 ((0 ≤ x3 ∧ x3 < d) ∧
 ∃ (s : List UInt8) (b : Bool) (cs : List V) (l : Nat) (c : Option Nat), Zh 3 (List.drop (x3.toNat * 3) a) = some [V.s s, V.b b, V.ts cs l c] ∧
 ∃ (b_1 : Bool),
 (PCon UY 95 [V.s s] fun v => v = V.b b_1) ∧
 If (!b_1)
 (K .ret 84
 [.lb [.i .i64 e, .ts a d none], .b false, .i .i64 x3,
 .lb [.s s, .b b, .ts cs l c], .undef, .b f]
 h)
 (∃ (c_1 : UInt8),
 ((0 : Int) ≤ (0 : Int) ∧ s[Int.toNat (0 : Int)]? = some c_1) ∧
 If (ltI (↑c_1.toNat : Int) (97 : Int))
 (K .ret 84
 [.lb [.i .i64 e, .ts a d none], .b false, .i .i64 x3,
 .lb [.s s, .b b, .ts cs l c], .undef, .b f]
 h)
 (If (ltI 8 l)
 (K .ret 84
 [.lb [.i .i64 e, .ts a d none], .b false,
 .i .i64 x3, .lb [.s s, .b b, .ts cs l c], .undef, .b f]
 h)
 (K .normal 84
 [.lb [.i .i64 e, .ts a d none], .undef, .i .i64 x3,
 .lb [.s s, .b b, .ts cs l c], .i .i64 0, .b f]
 h)))) := by kernel_rfl
theorem ZA2 (e : Int) (a : List V) (c : Nat) (x3 : Int) (d : List UInt8) (f : Bool) (g : Option Nat) (j : List V) (l : Nat) (m : Bool) (x5 : Int) (h : Heap) (K : KT) : (Zc UY (UY.loc 60) 100 ((flat (Zv (post (flat (Xx (post (flat (Zv (post (flat (Za Tryz.f60)))))))))))) ⟨mk 84 (([1, 3, 4, 5, 10] : List Nat).zip [V.lb [V.i .i64 e, V.ts a c none], V.i .i64 x3, V.lb [V.s d, V.b f, V.ts j l g], V.i .i64 x5, V.b m]), [], h⟩ (VQ [1, 2, 3, 4, 5, 10] K)) =
 (If (ltI x5 x3)
 ((0 ≤ x5 ∧ x5 < c) ∧
 ∃ (s : List UInt8),
 Zh 1 (List.drop 0 (List.drop (x5.toNat * 3) a)) = some [V.s s] ∧
 If (s == d)
 (K .ret 84
 [.lb [.i .i64 e, .ts a c none], .b false, .i .i64 x3,
 .lb [.s d, .b f, .ts j l g], .i .i64 x5, .b m]
 h)
 (K .normal 84
 [.lb [.i .i64 e, .ts a c none], .undef, .i .i64 x3,
 .lb [.s d, .b f, .ts j l g],
 .i .i64 (IntKind.i64.wrap (x5 + (1 : Int))), .b m]
 h))
 (K (.exit 2) 84
 [.lb [.i .i64 e, .ts a c none], .undef, .i .i64 x3,
 .lb [.s d, .b f, .ts j l g], .i .i64 x5, .b m]
 h)) := by kernel_rfl
theorem ZA3 (a : Int) (c : List V) (d : Nat) (x3 : Int) (e : Option Nat) (f : List V) (g : Nat) (j : List UInt8) (l m : Bool) (h : Heap) (K : KT) : (Zc UY (UY.loc 60) 100 (pre ((post (flat (Xx (post (flat (Zv (post (flat (Za Tryz.f60))))))))).drop 1)) ⟨mk 84 (([1, 3, 4, 10] : List Nat).zip [V.lb [V.i .i64 a, V.ts c d none], V.i .i64 x3, V.lb [V.s j, V.b l, V.ts f g e], V.b m]), [], h⟩ (VQ [1, 3, 4, 6, 10] K)) =
 (K .normal 84
 [.lb [.i .i64 a, .ts c d none], .i .i64 x3,
 .lb [.s j, .b l, .ts f g e], .i .i64 0, .b m]
 h) := by kernel_rfl
theorem ZA4 (d : Int) (e : List V) (f : Nat) (x3 : Int) (j : Option Nat) (g : List V) (c : Nat) (l : List UInt8) (m o : Bool) (a : Int) (h : Heap) (K : KT) : (Zc UY (UY.loc 60) 100 ((flat (Zv (post ((post (flat (Xx (post (flat (Zv (post (flat (Za Tryz.f60))))))))).drop 1))))) ⟨mk 84 (([1, 3, 4, 6, 10] : List Nat).zip [V.lb [V.i .i64 d, V.ts e f none], V.i .i64 x3, V.lb [V.s l, V.b m, V.ts g c j], V.i .i64 a, V.b o]), [], h⟩ (VQ [1, 2, 3, 4, 6, 10] K)) =
 (If (ltI a c)
 ((0 ≤ a ∧ a < c) ∧
 ∃ (n : Int) (s : List UInt8) (n_1 n_2 n_3 : Int), Zh 5 (List.drop (a.toNat * 5) g) =
 some [V.i .i64 n, V.s s, V.i .i64 n_1, V.i .i64 n_2, V.i .i64 n_3] ∧
 ∃ (b : Bool),
 (PCon UY 106
 [V.agg [V.i .i64 n, V.s s, V.i .i64 n_1, V.i .i64 n_2, V.i .i64 n_3],
 V.agg [V.i .i64 d, V.ts e f none]]
 fun v => v = V.b b) ∧
 If (!b)
 (K .ret 84
 [.lb [.i .i64 d, .ts e f none], .b false, .i .i64 x3,
 .lb [.s l, .b m, .ts g c j], .i .i64 a, .b o]
 h)
 (K .normal 84
 [.lb [.i .i64 d, .ts e f none], .undef, .i .i64 x3,
 .lb [.s l, .b m, .ts g c j],
 .i .i64 (IntKind.i64.wrap (a + (1 : Int))), .b o]
 h))
 (K (.exit 4) 84
 [.lb [.i .i64 d, .ts e f none], .undef, .i .i64 x3,
 .lb [.s l, .b m, .ts g c j], .i .i64 a, .b o]
 h)) := by kernel_rfl
theorem ZA5 (a : Int) (c : List V) (d : Nat) (x3 : Int) (e : Bool) (h : Heap) (K : KT) : (Zc UY (UY.loc 60) 100 (((post (flat (Zv (post (flat (Za Tryz.f60)))))).drop 1)) ⟨mk 84 (([1, 3, 10] : List Nat).zip [V.lb [V.i .i64 a, V.ts c d none], V.i .i64 x3, V.b e]), [], h⟩ (VQ [1, 3, 10] K)) =
 (K .normal 84
 [.lb [.i .i64 a, .ts c d none], .i .i64 (IntKind.i64.wrap (x3 + (1 : Int))),
 .b e]
 h) := by kernel_rfl
theorem ZA6 (h : Heap) (K : KT) : (Zc UY (UY.loc 60) 100 (((post (flat (Za Tryz.f60))).drop 1)) ⟨mk 84 (([] : List Nat).zip []), [], h⟩ (VQ [2] K)) =
 (K .ret 84 [.b true] h) := by kernel_rfl
theorem Zvm (id : Nat) (h : Heap) (K : KT) : (Zc UY (UY.loc 276) 100 ((flat (Za Tryz.f276))) ⟨(V.p (some (id, 0)) :: List.replicate 32 .undef), [], h⟩ (VQ [2] K)) =
 (∃ (n : Int),
 Zj h id 1 1 = some [V.i .i64 n] ∧
 ∃ (s : List UInt8),
 Zj h id 0 1 = some [V.s s] ∧
 If (leI (↑s.length : Int) n)
 (∃ (h_1 : Heap), ZN h id 2 [V.b true] = some h_1 ∧ K .ret 33 [.i .u8 0] h_1)
 (∃ (n : Int),
 Zj h id 1 1 = some [V.i .i64 n] ∧
 ∃ (h_1 : Heap),
 ZN h id 1 [V.i .i64 (IntKind.i64.wrap (n + 1))] = some h_1 ∧
 ∃ (s : List UInt8),
 Zj h_1 id 0 1 = some [V.s s] ∧
 ∃ (n : Int),
 Zj h_1 id 1 1 = some [V.i .i64 n] ∧
 ∃ (c : UInt8),
 (0 ≤ IntKind.i64.wrap (n - 1) ∧ s[(IntKind.i64.wrap (n - 1)).toNat]? = some c) ∧
 K .ret 33 [.i .u8 (↑c.toNat : Int)] h_1)) := by kernel_rfl
theorem Zvn (id : Nat) (c : Int) (h : Heap) (K : KT) : (Zc UY (UY.loc 290) 100 ((flat (Za Tryz.f290))) ⟨(V.p (some (id, 0)) :: V.i .u8 c :: List.replicate 26 .undef), [], h⟩ (VQ [4] K)) =
 (∃ (n : Int),
 Zj h id 1 1 = some [V.i .i64 n] ∧
 ∃ (s : List UInt8),
 Zj h id 0 1 = some [V.s s] ∧
 If (ltI n (↑s.length : Int))
 (∃ (s : List UInt8),
 Zj h id 0 1 = some [V.s s] ∧
 ∃ (n : Int),
 Zj h id 1 1 = some [V.i .i64 n] ∧
 ∃ (c_1 : UInt8), (0 ≤ n ∧ s[n.toNat]? = some c_1) ∧ K .ret 28 [.b ((↑c_1.toNat : Int) == c)] h)
 (K .ret 28 [.b false] h)) := by kernel_rfl
theorem Zvo (id : Nat) (h : Heap) (K : KT) : (Zc UY (UY.loc 296) 100 ((flat (Za Tryz.f296))) ⟨(V.p (some (id, 0)) :: List.replicate 26 .undef), [], h⟩ (VQ [2] K)) =
 (∃ (b : Bool),
 (∃ (h1 : Heap),
 (Con UY 290 [V.p (some (id, 0)), V.i .u8 93] h fun (v : V) (h' : Heap) => v = V.b b ∧ h' = h1) ∧
 (∀ (i : Nat), i < h.nx → h1.get i = h.get i) ∧ ∀ (p : Nat × TypeId), List.Mem p h.tg → List.Mem p h1.tg) ∧
 If b (∃ (h_1 : Heap), ZN h id 2 [V.b true] = some h_1 ∧ K .ret 27 [.i .u8 0] h_1)
 (∃ (b : Bool),
 (∃ (h1 : Heap),
 (Con UY 290 [V.p (some (id, 0)), V.i .u8 45] h fun (v : V) (h' : Heap) => v = V.b b ∧ h' = h1) ∧
 (∀ (i : Nat), i < h.nx → h1.get i = h.get i) ∧ ∀ (p : Nat × TypeId), List.Mem p h.tg → List.Mem p h1.tg) ∧
 If b (∃ (h_1 : Heap), ZN h id 2 [V.b true] = some h_1 ∧ K .ret 27 [.i .u8 0] h_1)
 (Con UY 276 [V.p (some (id, 0))] h fun (v : V) (h' : Heap) =>
 ∃ (n : Int),
 v = V.i .u8 n ∧
 If (n == 92)
 (∃ (b : Bool),
 Zj h' id 2 1 = some [V.b b] ∧
 If (!b)
 (Con UY 276 [V.p (some (id, 0))] h' fun (v : V) (h' : Heap) =>
 ∃ (n : Int), v = V.i .u8 n ∧ K .ret 27 [.i .u8 n] h')
 (K .ret 27 [.i .u8 n] h'))
 (K .ret 27 [.i .u8 n] h')))) := by kernel_rfl
theorem Zvp (id : Nat) (h : Heap) (K : KT) : (Zc UY (UY.loc 291) 100 ((flat (Za Tryz.f291))) ⟨(V.p (some (id, 0)) :: List.replicate 52 .undef), [], h⟩ (VQ [2] K)) =
 (Con UY 296 [V.p (some (id, 0))] h fun (v : V) (h' : Heap) =>
 ∃ (n : Int),
 v = V.i .u8 n ∧
 ∃ (b : Bool),
 Zj h' id 2 1 = some [V.b b] ∧
 If b (K .ret 53 [.lb [.i .u8 n, .i .u8 n]] h')
 (∃ (b : Bool),
 (∃ (h1 : Heap),
 (Con UY 290 [V.p (some (id, 0)), V.i .u8 45] h' fun (v : V) (h' : Heap) =>
 v = V.b b ∧ h' = h1) ∧
 (∀ (i : Nat), i < h'.nx → h1.get i = h'.get i) ∧
 ∀ (p : Nat × TypeId), List.Mem p h'.tg → List.Mem p h1.tg) ∧
 If (!b) (K .ret 53 [.lb [.i .u8 n, .i .u8 n]] h')
 (∃ (n_1 : Int),
 Zj h' id 1 1 = some [V.i .i64 n_1] ∧
 ∃ (h : Heap),
 ZN h' id 1 [V.i .i64 (IntKind.i64.wrap (n_1 + 1))] = some h ∧
 Con UY 296 [V.p (some (id, 0))] h fun (v : V) (h' : Heap) =>
 ∃ (n_2 : Int),
 v = V.i .u8 n_2 ∧
 ∃ (b : Bool),
 Zj h' id 2 1 = some [V.b b] ∧
 If (!b)
 (If (ltI n_2 n)
 (∃ (h : Heap),
 ZN h' id 2 [V.b true] = some h ∧
 ∃ (n_3 : Int),
 Zj h id 1 1 = some [V.i .i64 n_3] ∧
 ∃ (h_1 : Heap),
 ZN h id 1 [V.i .i64 (IntKind.i64.wrap (n_3 - 1))] =
 some h_1 ∧
 K .ret 53 [.lb [.i .u8 n, .i .u8 n_2]] h_1)
 (K .ret 53 [.lb [.i .u8 n, .i .u8 n_2]] h'))
 (K .ret 53 [.lb [.i .u8 n, .i .u8 n_2]] h')))) := by kernel_rfl
theorem Zvq (id : Nat) (h : Heap) (K : KT) : (Zc UY (UY.loc 277) 100 (pre (flat (Za Tryz.f277))) ⟨(V.p (some (id, 0)) :: List.replicate 28 .undef), [], h⟩ (VQ [0, 3] K)) =
 (K .normal 29 [.p (some (id, 0)), .sl none 0 (some 0) 0] h) := by kernel_rfl
theorem Zvr (id : Nat) (a3 : Option (Nat × Nat)) (l3 : Nat) (c3 : Option Nat) (k3 : Nat) (h : Heap) (K : KT) : (Zc UY (UY.loc 277) 100 ((flat (Zv (post (flat (Za Tryz.f277)))))) ⟨mk 29 (([0, 3] : List Nat).zip [V.p (some (id, 0)), V.sl a3 l3 c3 k3]), [], h⟩ (VQ [0, 2, 3] K)) =
 (If ((↑l3 : Int) == 0)
 (Con UY 291 [V.p (some (id, 0))] h fun (v : V) (h' : Heap) =>
 ∃ (n n_1 : Int), v = V.agg [V.i .u8 n, V.i .u8 n_1] ∧
 ∃ (a : Option (Nat × Nat)) (l : Nat) (c : Option Nat) (k : Nat) (h : Heap), Zk UY h' 218 218 (V.sl a3 l3 c3 k3) (V.ts [V.i .u8 n, V.i .u8 n_1] 1 (some 1)) =
 some (V.sl a l c k, h) ∧
 ∃ (b : Bool),
 Zj h id 2 1 = some [V.b b] ∧
 If b (K .ret 29 [.p (some (id, 0)), .sl none 0 (some 0) 0, .sl a l c k] h)
 (K .normal 29 [.p (some (id, 0)), .undef, .sl a l c k] h))
 (∃ (b : Bool),
 (∃ (h1 : Heap),
 (Con UY 290 [V.p (some (id, 0)), V.i .u8 93] h fun (v : V) (h' : Heap) => v = V.b b ∧ h' = h1) ∧
 (∀ (i : Nat), i < h.nx → h1.get i = h.get i) ∧ ∀ (p : Nat × TypeId), List.Mem p h.tg → List.Mem p h1.tg) ∧
 If (!b)
 (Con UY 291 [V.p (some (id, 0))] h fun (v : V) (h' : Heap) =>
 ∃ (n n_1 : Int), v = V.agg [V.i .u8 n, V.i .u8 n_1] ∧
 ∃ (a : Option (Nat × Nat)) (l : Nat) (c : Option Nat) (k : Nat) (h : Heap), Zk UY h' 218 218 (V.sl a3 l3 c3 k3)
 (V.ts [V.i .u8 n, V.i .u8 n_1] 1 (some 1)) =
 some (V.sl a l c k, h) ∧
 ∃ (b : Bool),
 Zj h id 2 1 = some [V.b b] ∧
 If b (K .ret 29 [.p (some (id, 0)), .sl none 0 (some 0) 0, .sl a l c k] h)
 (K .normal 29 [.p (some (id, 0)), .undef, .sl a l c k] h))
 (K (.exit 0) 29 [.p (some (id, 0)), .undef, .sl a3 l3 c3 k3] h))) := by kernel_rfl
theorem Zvs (id : Nat) (a3 : Option (Nat × Nat)) (l3 : Nat) (c3 : Option Nat) (k3 : Nat) (h : Heap) (K : KT) : (Zc UY (UY.loc 277) 100 (((post (flat (Za Tryz.f277))).drop 1)) ⟨mk 29 (([0, 3] : List Nat).zip [V.p (some (id, 0)), V.sl a3 l3 c3 k3]), [], h⟩ (VQ [2] K)) =
 (∃ (n : Int),
 Zj h id 1 1 = some [V.i .i64 n] ∧
 ∃ (h_1 : Heap),
 ZN h id 1 [V.i .i64 (IntKind.i64.wrap (n + 1))] = some h_1 ∧ K .ret 29 [.sl a3 l3 c3 k3] h_1) := by kernel_rfl
theorem Zvt (id : Nat) (h : Heap) (K : KT) : (Zc UY (UY.loc 261) 100 ((flat (Za Tryz.f261))) ⟨(V.p (some (id, 0)) :: List.replicate 24 .undef), [], h⟩ (VQ [2] K)) =
 (Con UY 276 [V.p (some (id, 0))] h fun (v : V) (h' : Heap) =>
 ∃ (n : Int),
 v = V.i .u8 n ∧
 If (n == 42) (K .ret 25 [.lb [.i .i64 2, .i .u8 0, .sl none 0 (some 0) 0]] h')
 (If (n == 63) (K .ret 25 [.lb [.i .i64 1, .i .u8 0, .sl none 0 (some 0) 0]] h')
 (If (n == 91)
 (Con UY 277 [V.p (some (id, 0))] h' fun (v : V) (h' : Heap) =>
 ∃ (cs : List V) (l : Nat) (c : Option Nat), v = V.ts cs l c ∧ K .ret 25 [.lb [.i .i64 3, .i .u8 0, .ts cs l c]] h')
 (If (n == 92)
 (Con UY 276 [V.p (some (id, 0))] h' fun (v : V) (h' : Heap) =>
 ∃ (n : Int),
 v = V.i .u8 n ∧
 K .ret 25 [.lb [.i .i64 0, .i .u8 n, .sl none 0 (some 0) 0]] h')
 (K .ret 25 [.lb [.i .i64 0, .i .u8 n, .sl none 0 (some 0) 0]] h'))))) := by kernel_rfl
structure Rd (h : Heap) (id : Nat) (s : List UInt8) (i : Nat) (b : Bool) : Prop where
 get : h.get id = some (.arr [.s s, .i .i64 (i : Nat), .b b] true)
 lt : id < h.nx

section
variable {h : Heap} {id : Nat} {s : List UInt8} {i : Nat} {b : Bool}
theorem Rd.c0 (r : Rd h id s i b) : Zj h id 0 1 = some [.s s] := by simp [Zj, r.get, Zh]
theorem Rd.c1 (r : Rd h id s i b) : Zj h id 1 1 = some [.i .i64 (i : Nat)] := by simp [Zj, r.get, Zh]
theorem Rd.c2 (r : Rd h id s i b) : Zj h id 2 1 = some [.b b] := by simp [Zj, r.get, Zh]
theorem Rd.s1 (r : Rd h id s i b) (j : Nat) : ∃ h1, ZN h id 1 [.i .i64 (j : Nat)] = some h1 ∧ Rd h1 id s j b ∧ FrO h id h1 := by
 refine ⟨h.set id (some (.arr [.s s, .i .i64 (j : Nat), .b b] true)), ?_, ⟨by simp, r.lt⟩, .set _ _ _⟩
 simp [ZN, r.get, splice]
theorem Rd.s2 (r : Rd h id s i b) (c : Bool) : ∃ h1, ZN h id 2 [.b c] = some h1 ∧ Rd h1 id s i c ∧ FrO h id h1 := by
 refine ⟨h.set id (some (.arr [.s s, .i .i64 (i : Nat), .b c] true)), ?_, ⟨by simp, r.lt⟩, .set _ _ _⟩
 simp [ZN, r.get, splice]
end

def RdQ (h : Heap) (id : Nat) (s : List UInt8) (v0 : V) (j : Nat) (c : Bool) (v : V) (h' : Heap) : Prop := v = v0 ∧ Rd h' id s j c ∧ FrO h id h'

theorem Zba {h : Heap} {id : Nat} {s : List UInt8} {i : Nat} {b : Bool} (r : Rd h id s i b) (hs : s.length < 2 ^ 30) (hi : i ≤ s.length) :
  Con UY 276 [.p (some (id, 0))] h (RdQ h id s (.i .u8 (VE s i b).1) (VE s i b).2.1 (VE s i b).2.2) := by
 refine ZL UK (fn := Tryz.f276) (by kernel_rfl) (by kernel_rfl) (Zm UK (loc := UY.loc 276) 100 [2] ?_)
 rw [show (⟨[.p (some (id, 0))] ++ List.replicate (Tryz.f276.ntmps - [V.p (some (id, 0))].length) .undef, [], h⟩ : St) = ⟨.p (some (id, 0)) :: List.replicate 32 .undef, [], h⟩ by rfl, Zvm]
 refine ⟨_, r.c1, _, r.c0, Qz (fun hle => ?_) (fun hlt => ?_)⟩
 ·have : s[i]? = none := List.getElem?_eq_none (by omega)
  obtain ⟨h1, g1, g2, g3⟩ := r.s2 true
  refine ⟨h1, g1, finC (.inr rfl) rfl (.now ⟨?_, ?_, g3⟩)⟩
  ·simp [VE, this, V.plain]
  ·simpa [VE, this] using g2
 ·have hlt' : i < s.length := by omega
  obtain ⟨h1, g1, g2, g3⟩ := r.s1 (i + 1)
  refine ⟨_, r.c1, h1, by rw [Zf (by omega)]; exact g1, _, g2.c0, _, g2.c1, s[i], ?_, finC (.inr rfl) rfl (.now ⟨?_, ?_, g3⟩)⟩
  ·rw [Xu (by omega) (by omega)]
   refine ⟨by omega, ?_⟩
   rw [show (((i + 1 : Nat) : Int) - 1).toNat = i by omega]
   simp [hlt']
  ·simp [VE, hlt', V.plain]
  ·simpa [VE, hlt'] using g2

theorem Zbb {h : Heap} {id : Nat} {s : List UInt8} {i : Nat} {b : Bool} (r : Rd h id s i b) (c : UInt8) :
  RCon UY 290 [.p (some (id, 0)), .i .u8 (c.toNat : Nat)] h (.b (s[i]? == some c)) := by
 refine ⟨h, ?_, fun _ _ => rfl, fun _ h => h⟩
 refine ZL UK (fn := Tryz.f290) (by kernel_rfl) (by kernel_rfl) (Zm UK (loc := UY.loc 290) 100 [4] ?_)
 rw [show (⟨[.p (some (id, 0)), .i .u8 (c.toNat : Nat)] ++ List.replicate (Tryz.f290.ntmps - [V.p (some (id, 0)), .i .u8 (c.toNat : Nat)].length) .undef, [], h⟩ : St) = ⟨.p (some (id, 0)) :: .i .u8 (c.toNat : Nat) :: List.replicate 26 .undef, [], h⟩ by rfl, Zvn]
 refine ⟨_, r.c1, _, r.c0, Zw (fun hlt => ?_) (fun hge => ?_)⟩
 ·have hlt' : i < s.length := by omega
  refine ⟨_, r.c0, _, r.c1, s[i], ⟨by omega, by simp [hlt']⟩, finC (.inr rfl) rfl (.now ⟨?_, rfl⟩)⟩
  rw [Zp6]; simp [hlt', V.plain]
 ·have : s[i]? = none := List.getElem?_eq_none (by omega)
  refine finC (.inr rfl) rfl (.now ⟨?_, rfl⟩)
  simp [this, V.plain]

def endQ (r : Except Nat (Int × Nat)) (h : Heap) (id : Nat) (s : List UInt8) (b : Bool) (v : V) (h' : Heap) : Prop := match r with
 | .error e => ∃ n, v = .i .u8 n ∧ Rd h' id s e true ∧ FrO h id h'
 | .ok (c, j) => v = .i .u8 c ∧ Rd h' id s j b ∧ FrO h id h'

theorem Zng {h : Heap} {id : Nat} {s : List UInt8} {i : Nat} (r : Rd h id s i false) (hs : s.length < 2 ^ 30) (hi : i ≤ s.length) :
  Con UY 296 [.p (some (id, 0))] h (endQ (endS s i) h id s false) := by
 refine ZL UK (fn := Tryz.f296) (by kernel_rfl) (by kernel_rfl) (Zm UK (loc := UY.loc 296) 100 [2] ?_)
 rw [show (⟨[.p (some (id, 0))] ++ List.replicate (Tryz.f296.ntmps - [V.p (some (id, 0))].length) .undef, [], h⟩ : St) = ⟨.p (some (id, 0)) :: List.replicate 26 .undef, [], h⟩ by rfl, Zvo]
 have bad : (s[i]? = none ∨ s[i]? = some 93 ∨ s[i]? = some 45) → endS s i = .error i := by
  rintro (h | h | h) <;> simp [endS, h]
 have fail : (s[i]? = none ∨ s[i]? = some 93 ∨ s[i]? = some 45) → ∃ h1, ZN h id 2 [.b true] = some h1 ∧ Fin UY Tryz.f296 [2] (AfterZ (endQ (endS s i) h id s false)) .ret 27 [.i .u8 0] h1 := by
  intro hb
  obtain ⟨h1, g1, g2, g3⟩ := r.s2 true
  refine ⟨h1, g1, finC (.inr rfl) rfl (.now ?_)⟩
  rw [bad hb]
  exact ⟨0, rfl, g2, g3⟩
 refine ⟨_, Zbb r 93, Zd (fun hc => fail (.inr (.inl (by simpa using hc)))) (fun hc1 => ?_)⟩
 refine ⟨_, Zbb r 45, Zd (fun hc => fail (.inr (.inr (by simpa using hc)))) (fun hc2 => ?_)⟩
 refine (Zba r hs hi).mono fun v h' ⟨hv, g1, g2⟩ => ⟨_, hv, ?_⟩
 cases hsi : s[i]? with
 | none =>
  simp only [VE, hsi] at g1 ⊢
  refine Zd (fun hc => by simp at hc) (fun _ => finC (.inr rfl) rfl (.now ?_))
  rw [bad (.inl hsi)]
  exact ⟨0, rfl, g1, g2⟩
 | some c =>
  rw [hsi] at hc1 hc2
  have n1 : c ≠ 93 := by simpa using hc1
  have n2 : c ≠ 45 := by simpa using hc2
  simp only [VE, hsi] at g1 ⊢
  have hlt := (List.getElem?_eq_some_iff.1 hsi).1
  rw [show (92 : Int) = (((92 : UInt8).toNat : Nat) : Int) by decide, Zp6]
  refine Zd (fun hc => ?_) (fun hc => ?_)
  ·have hc : c = 92 := by simpa using hc
   refine ⟨_, g1.c2, ?_⟩
   show Con UY 276 [.p (some (id, 0))] h' _
   refine (Zba g1 hs (by omega)).mono fun v h2 ⟨hv, q1, q2⟩ => ⟨_, hv, finC (.inr rfl) rfl (.now ?_)⟩
   subst hc
   cases hs2 : s[i + 1]? with
   | none =>
    simp only [VE, hs2] at q1 ⊢
    simp only [endS, hsi, hs2]
    exact ⟨0, rfl, q1, g2.trans q2⟩
   | some d =>
    simp only [VE, hs2] at q1 ⊢
    simp only [endS, hsi, hs2]
    exact ⟨rfl, q1, g2.trans q2⟩
  ·have hc : c ≠ 92 := by simpa using hc
   refine finC (.inr rfl) rfl (.now ?_)
   simp only [endS, hsi, n1, n2, hc, or_self, if_false]
   exact ⟨rfl, g1, g2⟩
end Go.Y
