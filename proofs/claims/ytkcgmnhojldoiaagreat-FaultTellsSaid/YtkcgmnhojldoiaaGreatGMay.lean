/- Valid pieces, by contracts. -/
import Derived.Test.YtkcgmnhojldoiaaGreatGPipe6
import Derived.Test.YtkcgmnhojldoiaaGreatGPeer55
import Derived.Test.YtkcgmnhojldoiaaGreatYTryzP
import Derived.Test.YtkcgmnhojldoiaaGreatYLoop
namespace Go.Y
open Go.Proofs
set_option maxRecDepth 1000000
set_option maxHeartbeats 0
theorem Zqg (x : Span) : PCon UY 293 [.agg (encS x)] (· = .b (ltI x.hi x.lo)) := by
 refine Zt UK (fn := Tryz.f293) (by kernel_rfl) (by kernel_rfl) rfl (Zm UK (loc := UY.loc 293) 100 [2] ?_)
 refine Eq.mpr (Zx4 x.lo x.hi _ _) ?_
 exact Zs (.inr rfl) rfl (.b _) rfl

theorem Zqh  (l : List Span) (p : Span → Bool) (h : Heap) (hl : l.length < 2 ^ 30) (hp : ∀ x ∈ l, PCon UY 293 [.agg (encS x)] (· = .b (p x))) :
  Con UY 294 [lst encS l, .fn (.func 293) [] []] h fun v h' => ∃ n : Int, v = .i .i64 n ∧ leI 0 n = l.any p ∧ h' = h := by
 refine ZL UK (fn := Tryz.f294) (by kernel_rfl) (by kernel_rfl) ?_
 refine ZH UK (n := 19) (loc := UY.loc 294) 100 [0, 1, 7, 8] (by kernel_rfl) ?_
 refine Eq.mpr (Ztk (row encS l) l.length  h _) ?_
 refine ⟨rfl, ZK [0, 1, 7, 8] [0, 1, 4, 7, 8] rfl (by kernel_rfl) (fun m vs h' => ∃ i : Nat, vs = [lst encS l, .fn (.func 293) [] [], .i .i64 l.length, .i .i64 (i : Nat)] ∧ i ≤ l.length ∧ (l.take i).any p = false ∧ m = l.length - i ∧ h' = h) l.length Zu ⟨0, rfl, by omega, rfl, by omega, rfl⟩ ?_⟩
 rintro m vs h' ⟨i, rfl, hi, hno, rfl, rfl⟩
 refine ZI UK (loc := UY.loc 294) 100 [0, 1, 4, 7, 8] ?_
 refine Eq.mpr (Ztl (row encS l) l.length  (i : Nat) h' _) ?_
 refine Zg (fun hlt => ?_) (fun hge => ?_)
 ·have hget : Zh 2 (List.drop ((i : Int).toNat * 2) (row encS l)) = some (encS l[i]) := by rw [Int.toNat_natCast]; exact Zr (f := encS) (k := 2) (fun _ => rfl) hlt
  refine ⟨bnd_nat hlt, _, _, hget, p l[i], hp l[i] (List.getElem_mem hlt), Zd (fun hc => ?_) (fun hc => ?_)⟩
  ·refine Zl (.inr rfl) rfl (.now ⟨(i : Nat), rfl, ?_, rfl⟩)
   have : l.any p = true := List.any_eq_true.2 ⟨l[i], List.getElem_mem hlt, hc⟩
   rw [this]; simp [leI]
  ·refine ⟨rfl, l.length - (i + 1), by omega, i + 1, ?_, by omega, ?_, rfl, rfl⟩
   ·rw [Zf (by omega)]; rfl
   ·rw [List.take_succ_eq_append_getElem hlt, List.any_append, hno]; simp [hc]
 ·refine Ze [] (by kernel_rfl) rfl rfl ?_
  refine Zm UK (loc := UY.loc 294) 100 [4] ?_
  refine Eq.mpr (Ztm h' _) ?_
  rw [List.take_of_length_le hge] at hno
  exact finC (.inr rfl) rfl (.now ⟨-1, rfl, by rw [hno]; rfl, rfl⟩)

theorem Zij  (l : List Span) (p : Span → Bool) (h : Heap) (hl : l.length < 2 ^ 30) (hp : ∀ x ∈ l, PCon UY 293 [.agg (encS x)] (· = .b (p x))) :
  Con UY 283 [lst encS l, .fn (.func 293) [] []] h fun v h' => v = .b (l.any p) ∧ h' = h := by
 refine ZL UK (fn := Tryz.f283) (by kernel_rfl) (by kernel_rfl) (Zm UK (loc := UY.loc 283) 100 [4] ?_)
 refine Eq.mpr (Ztj (row encS l) l.length  h _) ?_
 refine (Zqh  l p h hl hp).mono fun v h' ⟨n, e1, e2, e3⟩ => ⟨n, e1, ?_⟩
 subst e3
 rw [e2]
 exact finC (.inr rfl) rfl (.now ⟨rfl, rfl⟩)

theorem Zts (g : Glob) (hs : g.sp.length < 2 ^ 30) : PCon UY 282 [.agg (encG g)] (· = .b (oneS g)) := by
 refine Zt UK (fn := Tryz.f282) (by kernel_rfl) (by kernel_rfl) rfl (Zm UK (loc := UY.loc 282) 100 [2] ?_)
 refine Eq.mpr (Zx3 g.k g.b (row encS g.sp) g.sp.length _ _) ?_
 have f : ∀ b : Bool, b = oneS g → Fin UY Tryz.f282 [2] (fun v h => ∃ r, Frz h v r ∧ r = .b (oneS g)) .ret 40 [.b b] .empty := fun b hb => Zs (.inr rfl) rfl (.b _) (by rw [hb])
 have he : (((g.sp.length : Nat) : Int) == 0) = g.sp.isEmpty := by cases g.sp <;> simp <;> omega
 rw [he]
 refine Zd (fun h0 => f _ ?_) (fun h0 => ?_)
 ·have h0 : g.k = 0 := by simpa using h0
  simp [oneS, h0]
 have h0 : g.k ≠ 0 := by simpa using h0
 refine Zd (fun h1 => ?_) (fun h1 => ?_)
 ·have h1 : g.k = 1 := by simpa using h1
  exact Zd (fun hb => f _ (by simp [oneS, h1, hb])) (fun hb => f _ (by simp [oneS, h1, hb]))
 have h1 : g.k ≠ 1 := by simpa using h1
 refine Zd (fun h2 => ?_) (fun h2 => ?_)
 ·have h2 : g.k = 2 := by simpa using h2
  exact Zd (fun hb => f _ (by simp [oneS, h2, hb])) (fun hb => f _ (by simp [oneS, h2, hb]))
 have h2 : g.k ≠ 2 := by simpa using h2
 refine Zd (fun h3 => ?_) (fun h3 => f _ ?_)
 ·have h3 : g.k = 3 := by simpa using h3
  refine Zd (fun hb => ?_) (fun hb => f _ (by simp [oneS, h3, hb]))
  refine QF (fun hp => ?_) (fun hz => f _ ?_)
  ·refine (Zij g.sp (fun x => ltI x.hi x.lo) _ hs fun x _ => Zqg x).mono fun v h' ⟨e1, e2⟩ => ⟨_, e1, ?_⟩
   subst e2
   refine f _ ?_
   have : g.sp.isEmpty = false := by cases hsp : g.sp with
    | nil => rw [hsp] at hp; simp at hp
    | cons _ _ => rfl
   simp [oneS, h3, hb, this]
  ·have : g.sp = [] := List.eq_nil_of_length_eq_zero hz
   simp [oneS, h3, this]
 ·have h3 : g.k ≠ 3 := by simpa using h3
  simp [oneS, h0, h1, h2, h3]

theorem Zqi (g : Glob) (hs : g.sp.length < 2 ^ 30) : PCon UY 281 [.agg (encG g)] (· = .b (!oneS g)) := by
 refine Zt UK (fn := Tryz.f281) (by kernel_rfl) (by kernel_rfl) rfl (Zm UK (loc := UY.loc 281) 100 [2] ?_)
 refine Eq.mpr (Zx2 g.k g.b (row encS g.sp) g.sp.length _ _) ?_
 exact ⟨_, Zts g hs, Zs (.inr rfl) rfl (.b _) rfl⟩

theorem Zqj  (l : List Glob) (p : Glob → Bool) (h : Heap) (hl : l.length < 2 ^ 30) (hp : ∀ x ∈ l, PCon UY 281 [.agg (encG x)] (· = .b (p x))) :
  Con UY 292 [lst encG l, .fn (.func 281) [] []] h fun v h' => ∃ n : Int, v = .i .i64 n ∧ leI 0 n = l.any p ∧ h' = h := by
 refine ZL UK (fn := Tryz.f292) (by kernel_rfl) (by kernel_rfl) ?_
 refine ZH UK (n := 19) (loc := UY.loc 292) 100 [0, 1, 7, 8] (by kernel_rfl) ?_
 refine Eq.mpr (Zxz (row encG l) l.length  h _) ?_
 refine ⟨rfl, ZK [0, 1, 7, 8] [0, 1, 4, 7, 8] rfl (by kernel_rfl) (fun m vs h' => ∃ i : Nat, vs = [lst encG l, .fn (.func 281) [] [], .i .i64 l.length, .i .i64 (i : Nat)] ∧ i ≤ l.length ∧ (l.take i).any p = false ∧ m = l.length - i ∧ h' = h) l.length Zu ⟨0, rfl, by omega, rfl, by omega, rfl⟩ ?_⟩
 rintro m vs h' ⟨i, rfl, hi, hno, rfl, rfl⟩
 refine ZI UK (loc := UY.loc 292) 100 [0, 1, 4, 7, 8] ?_
 refine Eq.mpr (Zx0 (row encG l) l.length  (i : Nat) h' _) ?_
 refine Zg (fun hlt => ?_) (fun hge => ?_)
 ·have hget : Zh 3 (List.drop ((i : Int).toNat * 3) (row encG l)) = some (encG l[i]) := by rw [Int.toNat_natCast]; exact Zr (f := encG) (k := 3) (fun _ => rfl) hlt
  refine ⟨bnd_nat hlt, _, _, _, _, _, hget, p l[i], hp l[i] (List.getElem_mem hlt), Zd (fun hc => ?_) (fun hc => ?_)⟩
  ·refine Zl (.inr rfl) rfl (.now ⟨(i : Nat), rfl, ?_, rfl⟩)
   have : l.any p = true := List.any_eq_true.2 ⟨l[i], List.getElem_mem hlt, hc⟩
   rw [this]; simp [leI]
  ·refine ⟨rfl, l.length - (i + 1), by omega, i + 1, ?_, by omega, ?_, rfl, rfl⟩
   ·rw [Zf (by omega)]; rfl
   ·rw [List.take_succ_eq_append_getElem hlt, List.any_append, hno]; simp [hc]
 ·refine Ze [] (by kernel_rfl) rfl rfl ?_
  refine Zm UK (loc := UY.loc 292) 100 [4] ?_
  refine Eq.mpr (Zx1 h' _) ?_
  rw [List.take_of_length_le hge] at hno
  exact finC (.inr rfl) rfl (.now ⟨-1, rfl, by rw [hno]; rfl, rfl⟩)

theorem Zik  (l : List Glob) (p : Glob → Bool) (h : Heap) (hl : l.length < 2 ^ 30) (hp : ∀ x ∈ l, PCon UY 281 [.agg (encG x)] (· = .b (p x))) :
  Con UY 280 [lst encG l, .fn (.func 281) [] []] h fun v h' => v = .b (l.any p) ∧ h' = h := by
 refine ZL UK (fn := Tryz.f280) (by kernel_rfl) (by kernel_rfl) (Zm UK (loc := UY.loc 280) 100 [4] ?_)
 refine Eq.mpr (Zxy (row encG l) l.length  h _) ?_
 refine (Zqj  l p h hl hp).mono fun v h' ⟨n, e1, e2, e3⟩ => ⟨n, e1, ?_⟩
 subst e3
 rw [e2]
 exact finC (.inr rfl) rfl (.now ⟨rfl, rfl⟩)

def okG (l : List Glob) : Prop := l.length < 2 ^ 28 ∧ ∀ x ∈ l, x.sp.length < 2 ^ 28

theorem Zqk (l : List Glob) (hs : okG l) : PCon UY 269 [lst encG l] (· = .b (mayS l)) := by
 refine Zt UK (fn := Tryz.f269) (by kernel_rfl) (by kernel_rfl) rfl (Zm UK (loc := UY.loc 269) 100 [2] ?_)
 refine Eq.mpr (Zxx (row encG l) l.length _ _) ?_
 refine (Zik l (fun g => !oneS g) _ (by have := hs.1; omega) fun x hx => Zqi x (by have := hs.2 x hx; omega)).mono fun v h' ⟨e1, e2⟩ => ⟨_, e1, ?_⟩
 subst e2
 refine Zs (.inr rfl) rfl (.b _) ?_
 rw [mayS, List.not_any_eq_all_not]
 simp

theorem Zql (g : Glob) (hs : g.sp.length < 2 ^ 30) : PCon UY 196 [.agg (encG g)] (· = .b (oneS g)) := by
 refine Zt UK (fn := Tryz.f196) (by kernel_rfl) (by kernel_rfl) rfl ?_
 refine ZH UK (n := 54) (loc := UY.loc 196) 100 [1, 2, 3] (by kernel_rfl) ?_
 refine Eq.mpr (Zv3 g.k g.b (row encS g.sp) g.sp.length _ _) ?_
 have f : ∀ (b : Bool) (v1 v3 : V) (h : Heap), b = oneS g → AtV [1, 2, 3] (FinS UY Tryz.f196 fun v h => ∃ r, Frz h v r ∧ r = .b (oneS g)) .ret 54 [v1, .b b, v3] h := fun b v1 v3 h hb => Zl (.inr rfl) rfl ⟨_, .b _, by rw [hb]⟩
 have he : (((g.sp.length : Nat) : Int) == 0) = g.sp.isEmpty := by cases g.sp <;> simp <;> omega
 refine Zd (fun h0 => f _ _ _ _ ?_) (fun h0 => ?_)
 ·have h0 : g.k = 0 := by simpa using h0
  rw [he]; simp [oneS, h0]
 have h0 : g.k ≠ 0 := by simpa using h0
 refine Zd (fun hb => f _ _ _ _ ?_) (fun hb => ?_)
 ·have hb : g.b ≠ 0 := by simpa using hb
  simp [oneS, h0, hb]
 have hb : g.b = 0 := by simpa using hb
 refine Zw (fun hk => f _ _ _ _ ?_) (fun hk => ?_)
 ·have n1 : g.k ≠ 1 := by omega
  have n2 : g.k ≠ 2 := by omega
  have n3 : g.k ≠ 3 := by omega
  simp [oneS, h0, n1, n2, n3]
 refine Zw (fun hk3 => f _ _ _ _ ?_) (fun hk3 => ?_)
 ·have n1 : g.k ≠ 1 := by omega
  have n2 : g.k ≠ 2 := by omega
  have n3 : g.k ≠ 3 := by omega
  simp [oneS, h0, n1, n2, n3]
 have hlen : ltI 0 ((g.sp.length : Nat) : Int) = !g.sp.isEmpty := by cases g.sp <;> simp [ltI] <;> omega
 rw [hlen]
 have h12 : g.k ≠ 3 → (g.k = 1 ∨ g.k = 2) := by omega
 refine Zd (fun hc => f _ _ _ _ ?_) (fun hc => ?_)
 ·by_cases h3 : g.k = 3
  ·have : g.sp.isEmpty = true := by rw [h3] at hc; cases h : g.sp.isEmpty <;> rw [h] at hc <;> simp_all
   simp [oneS, h3, this]
  ·have : g.sp.isEmpty = false := by
    have h3' : (g.k == 3) = false := by simpa using h3
    rw [h3'] at hc; cases h : g.sp.isEmpty <;> rw [h] at hc <;> simp_all
   simp [oneS, h0, h12 h3, this]
 refine ⟨rfl, ZK [1, 3] [1, 2, 3] rfl (by kernel_rfl) (fun m vs _ => ∃ i : Nat, vs = [.lb (encG g), .i .i64 (i : Nat)] ∧ i ≤ g.sp.length ∧ (g.sp.take i).any (fun x => ltI x.hi x.lo) = false ∧ m = g.sp.length - i) g.sp.length Zu ⟨0, rfl, by omega, rfl, by omega⟩ ?_⟩
 rintro m vs h' ⟨i, rfl, hi, hno, rfl⟩
 refine ZI UK (loc := UY.loc 196) 100 [1, 2, 3] ?_
 refine Eq.mpr (Zv4 g.k g.b (row encS g.sp) g.sp.length (i : Nat) h' _) ?_
 have hspe : g.k ≠ 3 → g.sp = [] := by
  intro h3
  have h3' : (g.k == 3) = false := by simpa using h3
  rw [h3'] at hc
  cases h : g.sp.isEmpty
  ·rw [h] at hc; simp at hc
  ·exact List.isEmpty_iff.1 h
 refine Zg (fun hlt => ?_) (fun hge => ?_)
 ·have rc := Xg Za8 g.sp hlt
  rw [Int.toNat_natCast, rc]
  have h3 : g.k = 3 := by
   by_cases h3 : g.k = 3
   ·exact h3
   ·rw [hspe h3] at hlt; simp at hlt
  have hne : g.sp.isEmpty = false := by
   cases hsp : g.sp with
   | nil => rw [hsp] at hlt; simp at hlt
   | cons _ _ => rfl
  refine ⟨bnd_nat hlt, _, rfl, bnd_nat hlt, _, rfl, Zd (fun hc => f _ _ _ _ ?_) (fun hc => ?_)⟩
  ·have : g.sp.any (fun x => ltI x.hi x.lo) = true := List.any_eq_true.2 ⟨_, List.getElem_mem hlt, hc⟩
   simp [oneS, h3, hb, hne, this]
  ·refine ⟨rfl, g.sp.length - (i + 1), by omega, i + 1, ?_, by omega, ?_, rfl⟩
   ·rw [Zf (by omega)]; rfl
   ·rw [List.take_succ_eq_append_getElem hlt, List.any_append, hno]; simp [hc]
 ·refine Ze [] (by kernel_rfl) rfl rfl ?_
  refine Zm UK (loc := UY.loc 196) 100 [2] ?_
  refine Eq.mpr (Zv5 h' _) ?_
  rw [List.take_of_length_le hge] at hno
  refine Zs (.inr rfl) rfl (.b _) ?_
  by_cases h3 : g.k = 3
  ·have hne : g.sp.isEmpty = false := by
    rw [h3] at hc
    cases h : g.sp.isEmpty <;> rw [h] at hc <;> simp_all
   simp [oneS, h3, hb, hne, hno]
  ·simp [oneS, h0, h12 h3, hb, hspe h3]

theorem Zqm (l : List Glob) (hs : okG l) : PCon UY 162 [lst encG l] (· = .b (mayS l)) := by
 refine Zt UK (fn := Tryz.f162) (by kernel_rfl) (by kernel_rfl) rfl ?_
 refine ZH UK (n := 16) (loc := UY.loc 162) 100 [0, 3] (by kernel_rfl) ?_
 refine Eq.mpr (Zv0 (row encG l) l.length _ _) ?_
 have hl := hs.1
 refine ⟨rfl, ZK [0, 3] [0, 2, 3] rfl (by kernel_rfl) (fun m vs _ => ∃ i : Nat, vs = [lst encG l, .i .i64 (i : Nat)] ∧ i ≤ l.length ∧ (l.take i).all oneS = true ∧ m = l.length - i) l.length Zu ⟨0, rfl, by omega, rfl, by omega⟩ ?_⟩
 rintro m vs h' ⟨i, rfl, hi, hno, rfl⟩
 refine ZI UK (loc := UY.loc 162) 100 [0, 2, 3] ?_
 refine Eq.mpr (Zv1 (row encG l) l.length (i : Nat) h' _) ?_
 refine Zg (fun hlt => ?_) (fun hge => ?_)
 ·rw [Int.toNat_natCast]
  refine ⟨bnd_nat hlt, _, _, _, _, _, Zr Ji hlt, _, Zql l[i] (by have := hs.2 _ (List.getElem_mem hlt); omega), Zd (fun hc => ?_) (fun hc => ?_)⟩
  ·refine Zl (.inr rfl) rfl ⟨_, .b _, ?_⟩
   have : mayS l = false := by
    rw [mayS, List.all_eq_false]
    exact ⟨_, List.getElem_mem hlt, by simpa using hc⟩
   rw [this]
  ·refine ⟨rfl, l.length - (i + 1), by omega, i + 1, ?_, by omega, ?_, rfl⟩
   ·rw [Zf (by omega)]; rfl
   ·rw [List.take_succ_eq_append_getElem hlt, List.all_append, hno]; simpa using hc
 ·refine Ze [] (by kernel_rfl) rfl rfl ?_
  refine Zm UK (loc := UY.loc 162) 100 [2] ?_
  refine Eq.mpr (Zv2 h' _) ?_
  rw [List.take_of_length_le hge] at hno
  exact Zs (.inr rfl) rfl (.b _) (by rw [mayS, hno])

def ZE1 (l : List Glob) : Bool := decide (l.length ≤ 80) && l.all fun g => decide (g.sp.length ≤ 40)
theorem Zx8 (a : List V) (n0 : Nat) (s1 : List UInt8) (h : Heap) (K : KT) : (Zc UY (UY.loc 123) 100 (pre (flat (Za Tryz.f123))) ⟨(V.ts a n0 none :: V.s s1 :: List.replicate 83 .undef), [], h⟩ (VQ [0, 1, 4, 5, 6, 9] K)) =
 (∃ (b : Bool),
 (PCon UY 162 [V.ts a n0 none] fun v => v = V.b b) ∧
 If (!b) (K .ret 85 [.ts a n0 none, .s s1, .b false, .undef, .undef, .ts a n0 none] h)
 (((0 : Int) ≤ IntKind.i64.wrap ((↑s1.length : Int) + (1 : Int)) ∧
 IntKind.i64.wrap ((↑s1.length : Int) + (1 : Int)) ≤ IntKind.i64.wrap ((↑s1.length : Int) + (1 : Int)) ∧
 IntKind.i64.wrap ((↑s1.length : Int) + (1 : Int)) ≤ (most : Int) ∧
 IntKind.i64.wrap ((↑s1.length : Int) + (1 : Int)) * (↑(1 : Nat) : Int) ≤ (most : Int)) ∧
 ((0 : Int) ≤ (0 : Int) ∧ (0 : Int) < (↑(IntKind.i64.wrap ((↑s1.length : Int) + (1 : Int))).toNat : Int)) ∧
 1 = 1 ∧
 ∃ (h_1 : Heap),
 ZN
 (h.push
 (YObj.arr
 (List.replicate (IntKind.i64.wrap ((↑s1.length : Int) + (1 : Int))).toNat [V.b false]).flatten
 true))
 h.nx 0 [V.b true] =
 some h_1 ∧
 K .normal 85
 [.ts a n0 none, .s s1, .b false,
 .sl (some (h.nx, 0)) (IntKind.i64.wrap ((↑s1.length : Int) + (1 : Int))).toNat
 (some (IntKind.i64.wrap ((↑s1.length : Int) + (1 : Int))).toNat) 1,
 .i .i64 0, .ts a n0 none]
 h_1)) := by kernel_rfl
theorem Zx9 (a : List V) (n0 : Nat) (s1 : List UInt8) (b l5 c5 : Nat) (x6 : Int) (h : Heap) (K : KT) : (Zc UY (UY.loc 123) 100 (pre (flat (Zv (post (flat (Za Tryz.f123)))))) ⟨mk 85 (([0, 1, 5, 6, 9] : List Nat).zip [V.ts a n0 none, V.s s1, V.sl (some (b, 0)) l5 (some c5) 1, V.i .i64 x6, V.ts a n0 none]), [], h⟩ (VQ [0, 1, 5, 6, 9] K)) =
 (If (ltI x6 n0)
 (K .normal 85
 [.ts a n0 none, .s s1, .sl (some (b, 0)) l5 (some c5) 1, .i .i64 x6,
 .ts a n0 none]
 h)
 (K (.exit 0) 85
 [.ts a n0 none, .s s1, .sl (some (b, 0)) l5 (some c5) 1, .i .i64 x6,
 .ts a n0 none]
 h)) := by kernel_rfl
theorem Zya (a : List V) (n0 : Nat) (s1 : List UInt8) (c l5 c5 : Nat) (x6 : Int) (h : Heap) (K : KT) : (Zc UY (UY.loc 123) 100 (pre (flat (Xx (post (flat (Zv (post (flat (Za Tryz.f123))))))))) ⟨mk 85 (([0, 1, 5, 6, 9] : List Nat).zip [V.ts a n0 none, V.s s1, V.sl (some (c, 0)) l5 (some c5) 1, V.i .i64 x6, V.ts a n0 none]), [], h⟩ (VQ [0, 1, 5, 6, 7, 8, 9] K)) =
 (((0 : Int) ≤ IntKind.i64.wrap ((↑s1.length : Int) + (1 : Int)) ∧
 IntKind.i64.wrap ((↑s1.length : Int) + (1 : Int)) ≤ IntKind.i64.wrap ((↑s1.length : Int) + (1 : Int)) ∧
 IntKind.i64.wrap ((↑s1.length : Int) + (1 : Int)) ≤ (most : Int) ∧
 IntKind.i64.wrap ((↑s1.length : Int) + (1 : Int)) * (↑(1 : Nat) : Int) ≤ (most : Int)) ∧
 K .normal 85
 [.ts a n0 none, .s s1, .sl (some (c, 0)) l5 (some c5) 1, .i .i64 x6,
 .sl (some (h.nx, 0)) (IntKind.i64.wrap ((↑s1.length : Int) + (1 : Int))).toNat
 (some (IntKind.i64.wrap ((↑s1.length : Int) + (1 : Int))).toNat) 1,
 .i .i64 0, .ts a n0 none]
 (h.push
 (YObj.arr (List.replicate (IntKind.i64.wrap ((↑s1.length : Int) + (1 : Int))).toNat [V.b false]).flatten true))) := by kernel_rfl
theorem Zyb (d : List V) (n0 : Nat) (s1 : List UInt8) (g l5 c5 : Nat) (x6 : Int) (e f j : Nat) (a : Int) (h : Heap) (K : KT) : (Zc UY (UY.loc 123) 100 ((flat (Zv (post (flat (Xx (post (flat (Zv (post (flat (Za Tryz.f123)))))))))))) ⟨mk 85 (([0, 1, 5, 6, 7, 8, 9] : List Nat).zip [V.ts d n0 none, V.s s1, V.sl (some (g, 0)) l5 (some c5) 1, V.i .i64 x6, V.sl (some (e, 0)) f (some j) 1, V.i .i64 a, V.ts d n0 none]), [], h⟩ (VQ [0, 1, 5, 6, 7, 8, 9] K)) =
 (If (leI a (↑s1.length : Int))
 ((0 ≤ x6 ∧ x6 < n0) ∧
 ∃ (n : Int),
 Zh 1 (List.drop 0 (List.drop (x6.toNat * 3) d)) = some [V.i .i64 n] ∧
 If (n == (2 : Int))
 ((0 ≤ a ∧ a < l5) ∧
 1 = 1 ∧
 ∃ (b : Bool),
 Zj h g ((0 : Nat) + a.toNat * 1) 1 = some [V.b b] ∧
 If b
 ((0 ≤ a ∧ a < f) ∧
 1 = 1 ∧
 ∃ (h_1 : Heap),
 ZN h e ((0 : Nat) + a.toNat * 1) [V.b true] = some h_1 ∧
 K .normal 85
 [.ts d n0 none, .s s1, .sl (some (g, 0)) l5 (some c5) 1,
 .i .i64 x6, .sl (some (e, 0)) f (some j) 1,
 .i .i64 (IntKind.i64.wrap (a + (1 : Int))), .ts d n0 none]
 h_1)
 (If (ltI 0 a)
 (((0 : Int) ≤ IntKind.i64.wrap (a - (1 : Int)) ∧
 IntKind.i64.wrap (a - (1 : Int)) < (f : Int)) ∧
 1 = 1 ∧
 ∃ (b : Bool),
 Zj h e ((0 : Nat) + (IntKind.i64.wrap (a - (1 : Int))).toNat * 1)
 1 =
 some [V.b b] ∧
 (0 ≤ a ∧ a < f) ∧
 1 = 1 ∧
 ∃ (h_1 : Heap),
 ZN h e ((0 : Nat) + a.toNat * 1) [V.b b] = some h_1 ∧
 K .normal 85
 [.ts d n0 none, .s s1,
 .sl (some (g, 0)) l5 (some c5) 1, .i .i64 x6,
 .sl (some (e, 0)) f (some j) 1,
 .i .i64 (IntKind.i64.wrap (a + (1 : Int))), .ts d n0 none]
 h_1)
 ((0 ≤ a ∧ a < f) ∧
 1 = 1 ∧
 ∃ (h_1 : Heap),
 ZN h e ((0 : Nat) + a.toNat * 1) [V.b false] = some h_1 ∧
 K .normal 85
 [.ts d n0 none, .s s1, .sl (some (g, 0)) l5 (some c5) 1,
 .i .i64 x6, .sl (some (e, 0)) f (some j) 1,
 .i .i64 (IntKind.i64.wrap (a + (1 : Int))), .ts d n0 none]
 h_1)))
 (If (ltI 0 a)
 (((0 : Int) ≤ IntKind.i64.wrap (a - (1 : Int)) ∧ IntKind.i64.wrap (a - (1 : Int)) < (l5 : Int)) ∧
 1 = 1 ∧
 ∃ (b : Bool),
 Zj h g ((0 : Nat) + (IntKind.i64.wrap (a - (1 : Int))).toNat * 1) 1 =
 some [V.b b] ∧
 If b
 ((0 ≤ x6 ∧ x6 < n0) ∧
 ∃ (n n_1 : Int) (cs : List V) (l : Nat) (c : Option Nat), Zh 3 (List.drop (x6.toNat * 3) d) =
 some [V.i .i64 n, V.i .u8 n_1, V.ts cs l c] ∧
 ∃ (c_1 : UInt8),
 ((0 : Int) ≤ IntKind.i64.wrap (a - (1 : Int)) ∧
 s1[(IntKind.i64.wrap (a - (1 : Int))).toNat]? = some c_1) ∧
 ∃ (b : Bool),
 (PCon UY 163
 [V.agg [V.i .i64 n, V.i .u8 n_1, V.ts cs l c],
 V.i .u8 (↑c_1.toNat : Int)]
 fun v => v = V.b b) ∧
 (0 ≤ a ∧ a < f) ∧
 1 = 1 ∧
 ∃ (h_1 : Heap),
 ZN h e ((0 : Nat) + a.toNat * 1) [V.b b] =
 some h_1 ∧
 K .normal 85
 [.ts d n0 none, .s s1,
 .sl (some (g, 0)) l5 (some c5) 1,
 .i .i64 x6,
 .sl (some (e, 0)) f (some j) 1,
 .i .i64 (IntKind.i64.wrap (a + (1 : Int))),
 .ts d n0 none]
 h_1)
 ((0 ≤ a ∧ a < f) ∧
 1 = 1 ∧
 ∃ (h_1 : Heap),
 ZN h e ((0 : Nat) + a.toNat * 1) [V.b false] = some h_1 ∧
 K .normal 85
 [.ts d n0 none, .s s1, .sl (some (g, 0)) l5 (some c5) 1,
 .i .i64 x6, .sl (some (e, 0)) f (some j) 1,
 .i .i64 (IntKind.i64.wrap (a + (1 : Int))), .ts d n0 none]
 h_1))
 (K .normal 85
 [.ts d n0 none, .s s1, .sl (some (g, 0)) l5 (some c5) 1, .i .i64 x6,
 .sl (some (e, 0)) f (some j) 1,
 .i .i64 (IntKind.i64.wrap (a + (1 : Int))), .ts d n0 none]
 h)))
 (K (.exit 2) 85
 [.ts d n0 none, .s s1, .sl (some (g, 0)) l5 (some c5) 1, .i .i64 x6,
 .sl (some (e, 0)) f (some j) 1, .i .i64 a, .ts d n0 none]
 h)) := by kernel_rfl
theorem Zyc (a : List V) (n0 : Nat) (s1 : List UInt8) (x6 : Int) (b c d : Nat) (h : Heap) (K : KT) : (Zc UY (UY.loc 123) 100 (((post (flat (Xx (post (flat (Zv (post (flat (Za Tryz.f123))))))))).drop 1)) ⟨mk 85 (([0, 1, 6, 7, 9] : List Nat).zip [V.ts a n0 none, V.s s1, V.i .i64 x6, V.sl (some (b, 0)) c (some d) 1, V.ts a n0 none]), [], h⟩ (VQ [0, 1, 5, 6, 9] K)) =
 (K .normal 85
 [.ts a n0 none, .s s1, .sl (some (b, 0)) c (some d) 1, .i .i64 x6,
 .ts a n0 none]
 h) := by kernel_rfl
theorem Zyd (a : List V) (n0 : Nat) (s1 : List UInt8) (x6 : Int) (b c d : Nat) (h : Heap) (K : KT) : (Zc UY (UY.loc 123) 100 (((post (flat (Zv (post (flat (Za Tryz.f123)))))).drop 1)) ⟨mk 85 (([0, 1, 5, 6, 9] : List Nat).zip [V.ts a n0 none, V.s s1, V.sl (some (b, 0)) c (some d) 1, V.i .i64 x6, V.ts a n0 none]), [], h⟩ (VQ [0, 1, 5, 6, 9] K)) =
 (K .normal 85
 [.ts a n0 none, .s s1, .sl (some (b, 0)) c (some d) 1,
 .i .i64 (IntKind.i64.wrap (x6 + (1 : Int))), .ts a n0 none]
 h) := by kernel_rfl
theorem Zye (s1 : List UInt8) (a l5 c5 : Nat) (h : Heap) (K : KT) : (Zc UY (UY.loc 123) 100 (((post (flat (Za Tryz.f123))).drop 1)) ⟨mk 85 (([1, 5] : List Nat).zip [V.s s1, V.sl (some (a, 0)) l5 (some c5) 1]), [], h⟩ (VQ [4] K)) =
 (((0 : Int) ≤ (↑s1.length : Int) ∧ (↑s1.length : Int) < (l5 : Int)) ∧
 1 = 1 ∧
 ∃ (b : Bool),
 Zj h a ((0 : Nat) + (↑s1.length : Int).toNat * 1) 1 = some [V.b b] ∧
 K .ret 85 [.b b] h) := by kernel_rfl
theorem Ztt {h : Heap} {id : Nat} {c : Int} (hc : Zj h id 0 1 = some [.i .u8 c]) (x : Span) : RCon UY 284 [.agg (encS x), .p (some (id, 0))] h (.b (leI x.lo c && leI c x.hi)) := by
 refine ⟨h, ?_, fun _ _ => rfl, fun _ h => h⟩
 refine ZL UK (fn := Tryz.f284) (by kernel_rfl) (by kernel_rfl) (Zm UK (loc := UY.loc 284) 100 [3] ?_)
 refine Eq.mpr (Ztr x.lo x.hi id h _) ?_
 refine ⟨_, hc, Zd (fun h1 => ⟨_, hc, ?_⟩) (fun h1 => ?_)⟩
 ·exact finC (.inr rfl) rfl (.now ⟨by rw [h1, Bool.true_and]; rfl, rfl⟩)
 ·exact finC (.inr rfl) rfl (.now ⟨by rw [h1, Bool.false_and]; rfl, rfl⟩)

theorem Ztu (id : Nat) (l : List Span) (p : Span → Bool) (h : Heap) (hl : l.length < 2 ^ 30) (hp : ∀ x ∈ l, RCon UY 284 [.agg (encS x), .p (some (id, 0))] h (.b (p x))) :
  Con UY 294 [lst encS l, .fn (.func 284) [] [.p (some (id, 0))]] h fun v h' => ∃ n : Int, v = .i .i64 n ∧ leI 0 n = l.any p ∧ h' = h := by
 refine ZL UK (fn := Tryz.f294) (by kernel_rfl) (by kernel_rfl) ?_
 refine ZH UK (n := 19) (loc := UY.loc 294) 100 [0, 1, 7, 8] (by kernel_rfl) ?_
 refine Eq.mpr (Zto (row encS l) l.length id h _) ?_
 refine ⟨rfl, ZK [0, 1, 7, 8] [0, 1, 4, 7, 8] rfl (by kernel_rfl) (fun m vs h' => ∃ i : Nat, vs = [lst encS l, .fn (.func 284) [] [.p (some (id, 0))], .i .i64 l.length, .i .i64 (i : Nat)] ∧ i ≤ l.length ∧ (l.take i).any p = false ∧ m = l.length - i ∧ h' = h) l.length Zu ⟨0, rfl, by omega, rfl, by omega, rfl⟩ ?_⟩
 rintro m vs h' ⟨i, rfl, hi, hno, rfl, rfl⟩
 refine ZI UK (loc := UY.loc 294) 100 [0, 1, 4, 7, 8] ?_
 refine Eq.mpr (Ztp (row encS l) l.length id (i : Nat) h' _) ?_
 refine Zg (fun hlt => ?_) (fun hge => ?_)
 ·have hget : Zh 2 (List.drop ((i : Int).toNat * 2) (row encS l)) = some (encS l[i]) := by rw [Int.toNat_natCast]; exact Zr (f := encS) (k := 2) (fun _ => rfl) hlt
  refine ⟨bnd_nat hlt, _, _, hget, p l[i], hp l[i] (List.getElem_mem hlt), Zd (fun hc => ?_) (fun hc => ?_)⟩
  ·refine Zl (.inr rfl) rfl (.now ⟨(i : Nat), rfl, ?_, rfl⟩)
   have : l.any p = true := List.any_eq_true.2 ⟨l[i], List.getElem_mem hlt, hc⟩
   rw [this]; simp [leI]
  ·refine ⟨rfl, l.length - (i + 1), by omega, i + 1, ?_, by omega, ?_, rfl, rfl⟩
   ·rw [Zf (by omega)]; rfl
   ·rw [List.take_succ_eq_append_getElem hlt, List.any_append, hno]; simp [hc]
 ·refine Ze [] (by kernel_rfl) rfl rfl ?_
  refine Zm UK (loc := UY.loc 294) 100 [4] ?_
  refine Eq.mpr (Ztq h' _) ?_
  rw [List.take_of_length_le hge] at hno
  exact finC (.inr rfl) rfl (.now ⟨-1, rfl, by rw [hno]; rfl, rfl⟩)

theorem Zk6 (id : Nat) (l : List Span) (p : Span → Bool) (h : Heap) (hl : l.length < 2 ^ 30) (hp : ∀ x ∈ l, RCon UY 284 [.agg (encS x), .p (some (id, 0))] h (.b (p x))) :
  Con UY 283 [lst encS l, .fn (.func 284) [] [.p (some (id, 0))]] h fun v h' => v = .b (l.any p) ∧ h' = h := by
 refine ZL UK (fn := Tryz.f283) (by kernel_rfl) (by kernel_rfl) (Zm UK (loc := UY.loc 283) 100 [4] ?_)
 refine Eq.mpr (Ztn (row encS l) l.length id h _) ?_
 refine (Ztu id l p h hl hp).mono fun v h' ⟨n, e1, e2, e3⟩ => ⟨n, e1, ?_⟩
 subst e3
 rw [e2]
 exact finC (.inr rfl) rfl (.now ⟨rfl, rfl⟩)

theorem Zqn (g : Glob) (c : Int) (hs : g.sp.length < 2 ^ 30) : PCon UY 270 [.agg (encG g), .i .u8 c] (· = .b (Wd g c)) := by
 refine Zt UK (fn := Tryz.f270) (by kernel_rfl) (by kernel_rfl) rfl (Zm UK (loc := UY.loc 270) 100 [4] ?_)
 refine Eq.mpr (Zxw g.k g.b (row encS g.sp) g.sp.length c .empty _) ?_
 have hc : Zj (Heap.empty.push (.arr [.i .u8 c] true)) Heap.empty.nx 0 1 = some [.i .u8 c] := by simp [Zj, Heap.get_push, Zh]
 refine Zd (fun h0 => ⟨_, hc, Zs (.inr rfl) rfl (.b _) ?_⟩) (fun h0 => Zd (fun h1 => Zs (.inr rfl) rfl (.b _) ?_) (fun h1 => ?_))
 ·have h0 : g.k = 0 := by simpa using h0
  simp [Wd, h0]
 ·have h0 : g.k ≠ 0 := by simpa using h0
  simp [Wd, h0, h1]
 ·have h0 : g.k ≠ 0 := by simpa using h0
  refine (Zk6 _ g.sp (fun x => leI x.lo c && leI c x.hi) _ hs fun x _ => Ztt hc x).mono fun v h' ⟨e1, e2⟩ => ⟨_, e1, Zs (.inr rfl) rfl (.b _) ?_⟩
  simp [Wd, h0, h1]

def Zr9 (g : Glob) (c : Int) (m : Nat) (vs : List V) (_ : Heap) : Prop :=
 ∃ (i : Nat) (b : Bool), vs = [.i .u8 c, .lb (encG g), .b b, .i .i64 (i : Nat), .undef] ∧ b = (g.k == 1 || (g.sp.take i).any fun x => leI x.lo c && leI c x.hi) ∧ i ≤ g.sp.length ∧ m = g.sp.length - i

theorem Zn2 (g : Glob) (c : Int) (hs : g.sp.length < 2 ^ 30) : PCon UY 163 [.agg (encG g), .i .u8 c] (· = .b (Wd g c)) := by
 refine Zt UK (fn := Tryz.f163) (by kernel_rfl) (by kernel_rfl) rfl ?_
 refine ZH UK (n := 46) (loc := UY.loc 163) 100 [1, 2, 4, 5, 6, 10] (by kernel_rfl) ?_
 refine Eq.mpr (Zx5 g.k g.b (row encS g.sp) g.sp.length c .empty _) ?_
 refine Zd (fun h0 => Zl (.inr rfl) rfl ⟨_, .b _, ?_⟩) (fun h0 => ?_)
 ·have h0 : g.k = 0 := by simpa using h0
  simp [Wd, h0, V.plain]
 have h0 : g.k ≠ 0 := by simpa using h0
 refine ⟨rfl, ZK [1, 2, 5, 6, 10] [1, 2, 5, 6, 10] rfl (by kernel_rfl) (Zr9 g c) g.sp.length Zu ⟨0, _, rfl, by simp, by omega, by omega⟩ ?_⟩
 rintro m vs h' ⟨i, b, rfl, hb, hi, rfl⟩
 refine ZI UK (loc := UY.loc 163) 100 [1, 2, 5, 6, 10] ?_
 refine Eq.mpr (Zx6 g.k g.b (row encS g.sp) g.sp.length c b (i : Nat) h' _) ?_
 refine Zg (fun hlt => ?_) (fun hge => ?_)
 ·have rc := Xg Za8 g.sp hlt
  rw [Int.toNat_natCast, rc, Zf (by omega)]
  have next : ∀ b' : Bool, b' = (b || (leI g.sp[i].lo c && leI c g.sp[i].hi)) → Xy UY 46 [1, 2, 5, 6, 10] [1, 2, 5, 6, 10] (Zr9 g c) (g.sp.length - i)
    (Xi (post (flat (Za Tryz.f163)))) ((post (flat (Za Tryz.f163))).drop 1) (FinS UY Tryz.f163 fun v h => ∃ r, Frz h v r ∧ r = .b (Wd g c)) .normal 46 [.i .u8 c, .lb (encG g), .b b', .i .i64 ((i + 1 : Nat) : Int), .undef] h' := by
   intro b' hb'
   refine ⟨rfl, g.sp.length - (i + 1), by omega, i + 1, b', rfl, ?_, by omega, rfl⟩
   rw [hb', hb, List.take_succ_eq_append_getElem hlt, List.any_append, Bool.or_assoc]
   simp
  refine Zd (fun hbt => next _ (by rw [hbt]; rfl)) (fun hbf => ?_)
  refine ⟨bnd_nat hlt, _, rfl, Zd (fun h1 => ⟨bnd_nat hlt, _, rfl, next _ (by rw [hbf, h1]; rfl)⟩) (fun h1 => next _ (by rw [hbf, h1]; rfl))⟩
 ·refine Ze [5] (by kernel_rfl) rfl rfl ?_
  refine Zm UK (loc := UY.loc 163) 100 [4] ?_
  refine Eq.mpr (Zx7 b h' _) ?_
  rw [List.take_of_length_le hge] at hb
  refine Zs (.inr rfl) rfl (.b _) ?_
  simp [Wd, h0, hb, V.plain]
end Go.Y
