/- souffleurref16.May of a side that is on, by its contract. -/
import Derived.Test.YtkcgmnhojldoiaaGreatGC2
import Derived.Test.YtkcgmnhojldoiaaGreatGTree
import Derived.Test.YtkcgmnhojldoiaaGreatGPeer55
namespace Go.Y
open Go.Proofs
set_option maxRecDepth 1000000
set_option maxHeartbeats 0
/-! ### line -/
theorem VG (s : List UInt8) (hs : s.length < 2 ^ 30) : PCon UY 108 [.s s] (· = .b (XU s)) := by
 refine Zt UK (fn := Tryz.f108) (by kernel_rfl) (by kernel_rfl) rfl ?_
 refine Zp UK 17 (fun K => Zwz s .empty K) rfl (by kernel_rfl) ?_
 refine ⟨rfl, ZK [0, 3] [0, 2, 3] rfl (by kernel_rfl) (fun m vs _ => ∃ i : Nat, vs = [.s s, .i .i64 (i : Nat)] ∧ i ≤ s.length ∧ m = s.length - i ∧ (s.take i).contains 10 = false) s.length Zu ⟨0, rfl, by omega, by omega, by simp⟩ ?_⟩
 rintro m vs h ⟨i, rfl, hi, rfl, hno⟩
 refine Zq UK (fun K => Zw0 s (i : Nat) h K) rfl ?_
 refine Zg (fun hlt => ?_) (fun hge => ?_)
 ·refine ⟨s[i], ⟨by omega, by rw [Int.toNat_natCast]; exact List.getElem?_eq_getElem hlt⟩, ?_⟩
  rw [show (10 : Int) = (((10 : UInt8).toNat : Nat) : Int) by decide, Zp6]
  refine Zd (fun hc => ?_) (fun hc => ?_)
  ·have hc : s[i] = 10 := by simpa using hc
   have hm : s.contains 10 = true := by
    rw [List.contains_iff_mem, ← hc]
    exact List.getElem_mem hlt
   exact Zl (.inr rfl) rfl ⟨_, .b _, by simp only [XU, hm, Bool.not_true, Bool.and_false]⟩
  ·have hc : s[i] ≠ 10 := by simpa using hc
   refine ⟨rfl, s.length - (i + 1), by omega, i + 1, by rw [Zf (by omega)]; rfl, by omega, rfl, ?_⟩
   rw [← Bool.not_eq_true, List.contains_iff_mem] at hno ⊢
   rw [List.take_succ_eq_append_getElem hlt, List.mem_append]
   rintro (hx | hx)
   ·exact hno hx
   ·exact hc (List.mem_singleton.1 hx).symm
 ·refine Ze [0] (by kernel_rfl) rfl rfl ?_
  refine ZB UK (fun K => Zw1 s h K) rfl ?_
  rw [List.take_of_length_le hge] at hno
  refine Zs (.inr rfl) rfl (.b _) ?_
  have : leI (s.length : Nat) 16 = decide (s.length ≤ 16) := by unfold leI; by_cases hx : s.length ≤ 16 <;> simp [hx] <;> omega
  rw [this, XU, hno]; simp

/-! ### May -/
def R1I (s : Side) (cap : Int) (cs : List V) (np : Nat) (m : Nat) (vs : List V) (_ : Heap) : Prop :=
 ∃ i : Nat, vs = [.lb (Zn s), .lb [.i .i64 cap, .ts cs np none], .i .i64 (i : Nat), .agg [.i .i64 cap, .ts cs np none], .b false, .rf, .b (ltI s.place 0), .rf] ∧ i ≤ s.lines.length ∧ m = s.lines.length - i ∧ (s.lines.take i).all XU = true
def R2I (s : Side) (cap : Int) (cs : List V) (np : Nat) (m : Nat) (vs : List V) (_ : Heap) : Prop :=
 ∃ i : Nat, vs = [.lb (Zn s), .lb [.i .i64 cap, .ts cs np none], .i .i64 (i : Nat), .b false, .rf, .rf] ∧ i ≤ s.ages.length ∧ m = s.ages.length - i ∧ (List.range i).all (Jc s.ages) = true

theorem Zk1 (s : Side) (cap : Int) (cs : List V) (np : Nat) (pm : Bool) (hp : PCon UY 60 [.agg [.i .i64 cap, .ts cs np none]] (· = .b pm)) (hl : s.ages.length < 2 ^ 30) (hon : s.on = true) (hty : s.typed.length < 2 ^ 30) (hll : ∀ x ∈ s.lines, x.length < 2 ^ 30) :
    PCon UY 62 [.agg (Zn s), .agg [.i .i64 cap, .ts cs np none]] (· = .b (Xk s np cap pm)) := by
  refine Zt UK (fn := Tryz.f62) (by kernel_rfl) (by kernel_rfl) rfl ?_
  refine Zp UK 153 (fun K => Zwt s.on s.shut s.eof s.place s.clock s.typed (row encT s.lines) s.lines.length s.fly (row encI s.ages) s.ages.length s.ready s.buffer cap cs np .empty K) rfl (by kernel_rfl) ?_
  have no : ∀ h, false = Xk s np cap pm → ∃ r, Frz h (.b false) r ∧ r = .b (Xk s np cap pm) := fun h e => ⟨_, .b _, by rw [e]⟩
  refine ⟨pm, hp, Zd (fun h1 => Zl (.inr rfl) rfl (no _ (by simp at h1; simp [Xk, h1]))) (fun h1 => ?_)⟩
  have h1 : pm = true := by simpa using h1
  refine Zw (fun h2 => Zl (.inr rfl) rfl (no _ (by have : ¬ 0 ≤ s.place := by omega
                                                   simp [Xk, this]))) (fun h2 => ?_)
  refine Qz (fun h3 => Zl (.inr rfl) rfl (no _ (by have : ¬ s.place < np := by omega
                                                   simp [Xk, this]))) (fun h3 => ?_)
  refine Zw (fun h4 => Zl (.inr rfl) rfl (no _ (by have : ¬ 0 ≤ s.clock := by omega
                                                   simp [Xk, this]))) (fun h4 => ?_)
  refine ⟨_, VG s.typed hty, Zd (fun h5 => Zl (.inr rfl) rfl (no _ (by simp at h5; simp [Xk, h5]))) (fun h5 => ?_)⟩
  have h5 : XU s.typed = true := by simpa using h5
  refine Zw (fun h6 => Zl (.inr rfl) rfl (no _ (by have : ¬ s.lines.length ≤ 2 := by omega
                                                   simp [Xk, this]))) (fun h6 => ?_)
  refine ⟨rfl, ZK [2, 3, 5, 7, 9, 11, 13, 16] [2, 3, 4, 5, 7, 9, 11, 13, 16] rfl (by kernel_rfl) (R1I s cap cs np) s.lines.length Zu ⟨0, by rw [h1]; rfl, by omega, by omega, rfl⟩ ?_⟩
  rintro m vs h ⟨i, rfl, hi, rfl, hli⟩
  refine Zq UK (fun K => Zwu s.place s.clock s.typed (row encT s.lines) s.lines.length s.fly (row encI s.ages) s.ages.length s.ready s.buffer cap cs np s.on s.shut s.eof false (ltI s.place 0) (i : Nat) h K) rfl ?_
  refine Zg (fun hlt => ?_) (fun hge => ?_)
  · refine ⟨bnd_nat hlt, s.lines[i], by rw [Int.toNat_natCast]; exact Zr (f := encT) (k := 1) JR hlt, _, VG s.lines[i] (hll _ (List.getElem_mem hlt)), Zd (fun hc => ?_) (fun hc => ?_)⟩
    · have : s.lines.all XU = false := by
        rw [List.all_eq_false]
        exact ⟨_, List.getElem_mem hlt, by simpa using hc⟩
      exact Zl (.inr rfl) rfl (no _ (by simp only [Xk, this, Bool.and_false, Bool.false_and]))
    · refine ⟨rfl, s.lines.length - (i + 1), by omega, i + 1, by rw [Zf (by omega)]; rfl, by omega, rfl, ?_⟩
      rw [List.take_succ_eq_append_getElem hlt, List.all_append, hli]
      simpa using hc
  refine Ze [2, 3, 7, 9, 11, 13, 16] (by kernel_rfl) rfl rfl ?_
  rw [List.take_of_length_le hge] at hli
  refine Zp UK 153 (fun K => Zwv s.place s.clock (row encT s.lines) s.lines.length (row encI s.ages) s.ages.length cap cs np s.on s.shut s.eof s.typed s.fly s.ready s.buffer false (ltI s.place 0) h K) rfl (by kernel_rfl) ?_
  refine Zd (fun h7 => Zl (.inr rfl) rfl (no _ (by have : ¬ s.ages.length = s.fly.length := fun e => by simp [e] at h7
                                                   have : QW s = false := by simp [QW, this]
                                                   simp only [Xk, this, Bool.and_false, Bool.false_and]))) (fun h7 => ?_)
  have h7 : s.ages.length = s.fly.length := by simp at h7; omega
  refine ⟨_, Zb9 s cap cs np, Zw (fun h9 => Zl (.inr rfl) rfl (no _ (by have : ¬ 0 ≤ Jn s cap := by omega
                                                                        simp [Xk, this]))) (fun h9 => ?_)⟩
  refine Zw (fun h10 => Zl (.inr rfl) rfl (no _ (by have : ¬ s.buffer.length ≤ 64 := by omega
                                                    simp [Xk, this]))) (fun h10 => ?_)
  refine ⟨rfl, ZK [2, 3, 6, 9, 11, 16] [2, 3, 4, 6, 9, 11, 16] rfl (by kernel_rfl) (R2I s cap cs np) s.ages.length Zu ⟨0, rfl, by omega, by omega, rfl⟩ ?_⟩
  rintro m vs h ⟨i, rfl, hi, rfl, hok⟩
  refine Zq UK (fun K => Zww s.place s.clock (row encT s.lines) s.lines.length (row encI s.ages) s.ages.length cap cs np s.on s.shut s.eof s.typed s.fly s.ready s.buffer false (i : Nat) h K) rfl ?_
  have no2 : i < s.ages.length → Jc s.ages i = false → ∃ r, Frz h (.b false) r ∧ r = .b (Xk s np cap pm) := fun hlt ho => no h (by
    have : QW s = false := by simp [QW, Zig hlt ho]
    simp only [Xk, this, Bool.and_false, Bool.false_and])
  refine Zg (fun hlt => ?_) (fun hge => ?_)
  · have hge : s.ages[i]? = some s.ages[i] := List.getElem?_eq_getElem hlt
    have hget : Zh 1 (List.drop ((i : Int).toNat * 1) (row encI s.ages)) = some (encI s.ages[i]) := by rw [Int.toNat_natCast]; exact Zr (f := encI) (k := 1) ZV hlt
    have next : Jc s.ages i = true → _ ∧ _ := fun ho => (⟨(rfl : (153 : Nat) = 153), (⟨s.ages.length - (i + 1), by omega, i + 1, by rw [Zf (by omega)], by omega, rfl, Xj hok ho⟩ : ∃ m', m' < s.ages.length - i ∧ R2I s cap cs np m' [.lb (Zn s), .lb [.i .i64 cap, .ts cs np none], .i .i64 (IntKind.i64.wrap ((i : Nat) + 1)), .b false, .rf, .rf] h)⟩)
    refine ⟨bnd_nat hlt, s.ages[i], hget, Zw (fun hneg => ?_) (fun hnn => Zw (fun hpos => ?_) (fun hz => ?_))⟩
    · exact Zl (.inr rfl) rfl (no2 hlt (by unfold Jc; rw [hge]; simp; omega))
    · refine ⟨bnd_nat hlt, s.ages[i], hget, ?_⟩
      obtain ⟨k, rfl⟩ : ∃ k, i = k + 1 := ⟨i - 1, by omega⟩
      have hw : IntKind.i64.wrap (((k + 1 : Nat) : Int) - 1) = (k : Nat) := by rw [Xu (by omega) (by omega)]; omega
      have hlt' : k < s.ages.length := by omega
      have hgk : s.ages[k]? = some s.ages[k] := List.getElem?_eq_getElem hlt'
      rw [hw]
      refine ⟨bnd_nat hlt', s.ages[k], by rw [Int.toNat_natCast]; exact Zr (f := encI) (k := 1) ZV hlt', Zw (fun hgt => ?_) (fun hle => ?_)⟩
      · exact Zl (.inr rfl) rfl (no2 hlt (by unfold Jc; rw [hge]; simp [hgk]; omega))
      · exact next (by unfold Jc; rw [hge]; simp [hgk]; omega)
    · have : i = 0 := by omega
      subst this
      exact next (by unfold Jc; rw [hge]; simp; omega)
  refine Ze [2, 3, 6, 11, 16] (by kernel_rfl) rfl rfl ?_
  refine Zm UK (loc := UY.loc 62) 100 [4] ?_
  have hi' : i = s.ages.length := by omega
  subst hi'
  refine Eq.mpr (Zwx s.place s.clock (row encT s.lines) s.lines.length (row encI s.ages) s.ages.length cap cs np (s.ages.length : Nat) s.on s.shut s.eof s.typed s.fly s.ready s.buffer h _) ?_
  have h8 : QW s = true := by unfold QW Ze6; rw [hok]; simp [h7]
  have e : Xk s np cap pm = ((!s.shut || decide (s.place = 0 ∧ s.clock = 0 ∧ s.typed = [] ∧ s.lines = [])) && (!s.eof || s.shut && decide (s.fly = [] ∧ s.ready = []))) := by
    have g2 : 0 ≤ s.place := by omega
    have g3 : s.place < np := by omega
    have g4 : 0 ≤ s.clock := by omega
    have g6 : s.lines.length ≤ 2 := by omega
    have g9 : 0 ≤ Jn s cap := by omega
    have g10 : s.buffer.length ≤ 64 := by omega
    simp only [Xk, h1, h5, hli, h8, g2, g3, g4, g6, g9, g10, decide_true, Bool.true_and]
  have fin : ∀ (b : Bool) (h : Heap), b = ((!s.shut || decide (s.place = 0 ∧ s.clock = 0 ∧ s.typed = [] ∧ s.lines = [])) && (!s.eof || s.shut && decide (s.fly = [] ∧ s.ready = []))) → Fin UY Tryz.f62 [4] (fun v h => ∃ r, Frz h v r ∧ r = .b (Xk s np cap pm)) .ret 153 [.b b] h := fun b h e2 => Zs (.inr rfl) rfl (.b _) (by rw [e2, e])
  generalize Fin UY Tryz.f62 [4] (fun v h => ∃ r, Frz h v r ∧ r = .b (Xk s np cap pm)) = K at fin ⊢
  refine Zd (fun hoff => by rw [hon] at hoff; cases hoff) (fun _ => ?_)
  have rest : (!s.shut || decide (s.place = 0 ∧ s.clock = 0 ∧ s.typed = [] ∧ s.lines = [])) = true → ∀ h, If (!s.eof) (K .ret 153 [.b true] h) (If s.shut (If (s.fly == []) (K .ret 153 [.b (s.ready == [])] h) (K .ret 153 [.b false] h)) (K .ret 153 [.b false] h)) := by
    intro hs h
    rw [hs] at fin
    refine Zd (fun h11 => fin _ _ (by simp at h11; simp [h11])) (fun h11 => ?_)
    have h11 : s.eof = true := by simpa using h11
    refine Zd (fun h12 => Zd (fun h13 => fin _ _ ?_) (fun h13 => fin _ _ ?_)) (fun h12 => fin _ _ ?_)
    · have h13 : s.fly = [] := by simpa using h13
      rw [h11, h12]
      by_cases hr : s.ready = [] <;> simp [h13, hr]
    · have h13 : s.fly ≠ [] := by simpa using h13
      simp [h11, h12, h13]
    · simp [h11, h12]
  refine Zd (fun hsh => ?_) (fun hsh => rest (by rw [hsh]; rfl) _)
  have h14 : (s.place = 0 ∧ s.clock = 0 ∧ s.typed = [] ∧ s.lines = []) → (!s.shut || decide (s.place = 0 ∧ s.clock = 0 ∧ s.typed = [] ∧ s.lines = [])) = true := fun hh => by simp [hh]
  have h15 : ¬ (s.place = 0 ∧ s.clock = 0 ∧ s.typed = [] ∧ s.lines = []) → false = ((!s.shut || decide (s.place = 0 ∧ s.clock = 0 ∧ s.typed = [] ∧ s.lines = [])) && (!s.eof || s.shut && decide (s.fly = [] ∧ s.ready = []))) := fun hh => by rw [decide_eq_false hh, hsh]; rfl
  refine Zd (fun g => fin _ _ (h15 fun hh => by simp [hh.1] at g)) (fun g1 => Zd (fun g => fin _ _ (h15 fun hh => by simp [hh.2.1] at g)) (fun g2 => Zd (fun g => fin _ _ (h15 fun hh => by simp [hh.2.2.1] at g)) (fun g3 => Zw (fun g => fin _ _ (h15 fun hh => by simp [hh.2.2.2] at g)) (fun g4 => rest (h14 ⟨?_, ?_, ?_, ?_⟩) _))))
  · simpa using g1
  · simpa using g2
  · simpa using g3
  · exact List.eq_nil_of_length_eq_zero (by omega)
theorem Zk2 (a b : List (List UInt8)) (ha : a.length < 2 ^ 30) : PCon UY 237 [lst encT a, lst encT b] (· = .b (decide (a = b))) := by
 refine Zt UK (fn := Tryz.f237) (by kernel_rfl) (by kernel_rfl) rfl ?_
 refine ZH UK (n := 26) (loc := UY.loc 237) 100 [0, 1, 4, 12, 13] (by kernel_rfl) ?_
 refine Eq.mpr (Zw8 (row encT a) a.length (row encT b) b.length .empty _) ?_
 refine Zd (fun hne => ?_) (fun heq => ?_)
 ·have : a ≠ b := fun e => by rw [e] at hne; simp at hne
  exact Zl (.inr rfl) rfl ⟨_, .b _, by simp [this]⟩
 have hlen : a.length = b.length := by simp at heq; omega
 refine ⟨rfl, ZK [0, 1, 12, 13] [0, 1, 4, 12, 13] rfl (by kernel_rfl) (fun m vs _ => ∃ i : Nat, vs = [lst encT a, lst encT b, .i .i64 a.length, .i .i64 (i : Nat)] ∧ i ≤ a.length ∧ m = a.length - i ∧ a.take i = b.take i) a.length Zu ⟨0, rfl, by omega, by omega, rfl⟩ ?_⟩
 rintro m vs h ⟨i, rfl, hi, rfl, hs⟩
 refine ZI UK (loc := UY.loc 237) 100 [0, 1, 4, 12, 13] ?_
 refine Eq.mpr (Zw9 (row encT a) a.length (row encT b) b.length (i : Nat) h _) ?_
 refine Zg (fun hlt => ?_) (fun hge => ?_)
 ·have hlt' : i < b.length := by omega
  refine ⟨bnd_nat hlt, a[i], by rw [Int.toNat_natCast]; exact Zr (f := encT) (k := 1) JR hlt, bnd_nat hlt', b[i], by rw [Int.toNat_natCast]; exact Zr (f := encT) (k := 1) JR hlt', Zd (fun hc => ?_) (fun hc => ?_)⟩
  ·have hc : a[i] ≠ b[i] := by simpa using hc
   have : a ≠ b := fun e => by subst e; exact hc rfl
   exact Zl (.inr rfl) rfl ⟨_, .b _, by simp [this]⟩
  ·have hc : a[i] = b[i] := by simpa using hc
   exact ⟨rfl, a.length - (i + 1), by omega, i + 1, by rw [Zf (by omega)]; rfl, by omega, rfl, VB hs hlt hlt' hc⟩
 ·refine Ze [] (by kernel_rfl) rfl rfl ?_
  refine Zm UK (loc := UY.loc 237) 100 [4] ?_
  refine Eq.mpr (Zxa h _) ?_
  exact Zs (.inr rfl) rfl (.b _) (by rw [VA hs hge (by omega)]; simp)

theorem Zk3 (a b : List Int) (ha : a.length < 2 ^ 30) : PCon UY 238 [lst encI a, lst encI b] (· = .b (decide (a = b))) := by
 refine Zt UK (fn := Tryz.f238) (by kernel_rfl) (by kernel_rfl) rfl ?_
 refine ZH UK (n := 26) (loc := UY.loc 238) 100 [0, 1, 4, 12, 13] (by kernel_rfl) ?_
 refine Eq.mpr (Zxb (row encI a) a.length (row encI b) b.length .empty _) ?_
 refine Zd (fun hne => ?_) (fun heq => ?_)
 ·have : a ≠ b := fun e => by rw [e] at hne; simp at hne
  exact Zl (.inr rfl) rfl ⟨_, .b _, by simp [this]⟩
 have hlen : a.length = b.length := by simp at heq; omega
 refine ⟨rfl, ZK [0, 1, 12, 13] [0, 1, 4, 12, 13] rfl (by kernel_rfl) (fun m vs _ => ∃ i : Nat, vs = [lst encI a, lst encI b, .i .i64 a.length, .i .i64 (i : Nat)] ∧ i ≤ a.length ∧ m = a.length - i ∧ a.take i = b.take i) a.length Zu ⟨0, rfl, by omega, by omega, rfl⟩ ?_⟩
 rintro m vs h ⟨i, rfl, hi, rfl, hs⟩
 refine ZI UK (loc := UY.loc 238) 100 [0, 1, 4, 12, 13] ?_
 refine Eq.mpr (Zxc (row encI a) a.length (row encI b) b.length (i : Nat) h _) ?_
 refine Zg (fun hlt => ?_) (fun hge => ?_)
 ·have hlt' : i < b.length := by omega
  refine ⟨bnd_nat hlt, a[i], by rw [Int.toNat_natCast]; exact Zr (f := encI) (k := 1) ZV hlt, bnd_nat hlt', b[i], by rw [Int.toNat_natCast]; exact Zr (f := encI) (k := 1) ZV hlt', Zd (fun hc => ?_) (fun hc => ?_)⟩
  ·have hc : a[i] ≠ b[i] := by simpa using hc
   have : a ≠ b := fun e => by subst e; exact hc rfl
   exact Zl (.inr rfl) rfl ⟨_, .b _, by simp [this]⟩
  ·have hc : a[i] = b[i] := by simpa using hc
   exact ⟨rfl, a.length - (i + 1), by omega, i + 1, by rw [Zf (by omega)]; rfl, by omega, rfl, VB hs hlt hlt' hc⟩
 ·refine Ze [] (by kernel_rfl) rfl rfl ?_
  refine Zm UK (loc := UY.loc 238) 100 [4] ?_
  refine Eq.mpr (Zxd h _) ?_
  exact Zs (.inr rfl) rfl (.b _) (by rw [VA hs hge (by omega)]; simp)
deriving instance DecidableEq for Side

theorem Zqd (a b : Side) (hl : a.lines.length < 2 ^ 30) (ha : a.ages.length < 2 ^ 30) : PCon UY 214 [.agg (Zn a), .agg (Zn b)] (· = .b (decide (a = b))) := by
 refine Zt UK (fn := Tryz.f214) (by kernel_rfl) (by kernel_rfl) rfl (Zm UK (loc := UY.loc 214) 100 [4] ?_)
 refine Eq.mpr (Zwy a.on a.shut a.eof a.place a.clock a.typed (row encT a.lines) a.lines.length a.fly (row encI a.ages) a.ages.length a.ready a.buffer b.on b.shut b.eof b.place b.clock b.typed (row encT b.lines) b.lines.length b.fly (row encI b.ages) b.ages.length b.ready b.buffer .empty _) ?_
 have fin : ∀ (x : Bool) (h : Heap), x = decide (a = b) → Fin UY Tryz.f214 [4] (fun v h => ∃ r, Frz h v r ∧ r = .b (decide (a = b))) .ret 80 [.b x] h := fun x h e => Zs (.inr rfl) rfl (.b _) (by rw [e])
 generalize Fin UY Tryz.f214 [4] (fun v h => ∃ r, Frz h v r ∧ r = .b (decide (a = b))) = K at fin ⊢
 have no : (a = b → False) → K .ret 80 [.b false] .empty := fun h => fin _ _ (decide_eq_false h).symm
 refine Zd (fun g0 => ?_) (fun g => no fun e => by rw [e] at g; simp at g)
 refine Zd (fun g1 => ?_) (fun g => no fun e => by rw [e] at g; simp at g)
 refine Zd (fun g2 => ?_) (fun g => no fun e => by rw [e] at g; simp at g)
 refine Zd (fun g3 => ?_) (fun g => no fun e => by rw [e] at g; simp at g)
 refine Zd (fun g4 => ?_) (fun g => no fun e => by rw [e] at g; simp at g)
 refine Zd (fun g5 => ?_) (fun g => no fun e => by rw [e] at g; simp at g)
 refine Zd (fun g6 => ?_) (fun g => no fun e => by rw [e] at g; simp at g)
 refine Zd (fun g7 => ?_) (fun g => no fun e => by rw [e] at g; simp at g)
 refine Zd (fun g8 => ?_) (fun g => no fun e => by rw [e] at g; simp at g)
 refine ⟨_, Zk2 a.lines b.lines hl, Zd (fun g9 => ⟨_, Zk3 a.ages b.ages ha, fin _ _ ?_⟩) (fun g => no fun e => by rw [e] at g; simp at g)⟩
 obtain ⟨a0, a1, a2, a3, a4, a5, a6, a7, a8, a9, a10⟩ := a
 obtain ⟨b0, b1, b2, b3, b4, b5, b6, b7, b8, b9, b10⟩ := b
 simp only [beq_iff_eq, decide_eq_true_eq] at g0 g1 g2 g3 g4 g5 g6 g7 g8 g9
 simp only [Side.mk.injEq, g0, g1, g2, g3, g4, g5, g6, g7, g8, g9, true_and, and_true]
def ZO (s : Side) (np : Nat) (cap : Int) (pm : Bool) : Bool :=
 pm && decide (0 ≤ s.place) && decide (s.place < np) && decide (0 ≤ s.clock) && XU s.typed && decide (s.lines.length ≤ 2) && s.lines.all XU && QW s && decide (0 ≤ Jn s cap) && decide (s.buffer.length ≤ 64) && decide (s = XM)

theorem Zk4 (s : Side) (cap : Int) (cs : List V) (np : Nat) (pm : Bool) (hp : PCon UY 170 [.agg [.i .i64 cap, .ts cs np none]] (· = .b pm)) (hl : s.ages.length < 2 ^ 30) (hon : s.on = false) (hll : s.lines.length < 2 ^ 30) :
    PCon UY 171 [.agg (Zn s), .agg [.i .i64 cap, .ts cs np none]] (· = .b (ZO s np cap pm)) := by
  refine Zt UK (fn := Tryz.f171) (by kernel_rfl) (by kernel_rfl) rfl (Zm UK (loc := UY.loc 171) 100 [4] ?_)
  refine Eq.mpr (Zr5 s.on s.shut s.eof s.place s.clock s.typed (row encT s.lines) s.lines.length s.fly (row encI s.ages) s.ages.length s.ready s.buffer cap cs np .empty _) ?_
  have fin : ∀ (b : Bool) (h : Heap), b = ZO s np cap pm → Fin UY Tryz.f171 [4] (fun v h => ∃ r, Frz h v r ∧ r = .b (ZO s np cap pm)) .ret 107 [.b b] h := fun b h e => Zs (.inr rfl) rfl (.b _) (by rw [e])
  refine ⟨pm, hp, Zd (fun h1 => fin _ _ (by simp at h1; simp [ZO, h1])) (fun h1 => ?_)⟩
  have h1 : pm = true := by simpa using h1
  refine Zw (fun h2 => fin _ _ (by have : ¬ 0 ≤ s.place := by omega
                                   simp [ZO, this])) (fun h2 => ?_)
  refine Qz (fun h3 => fin _ _ (by have : ¬ s.place < np := by omega
                                   simp [ZO, this])) (fun h3 => ?_)
  refine Zw (fun h4 => fin _ _ (by have : ¬ 0 ≤ s.clock := by omega
                                   simp [ZO, this])) (fun h4 => ?_)
  refine ⟨_, Ze5 s.typed, Zd (fun h5 => fin _ _ (by simp at h5; simp [ZO, h5])) (fun h5 => ?_)⟩
  have h5 : XU s.typed = true := by simpa using h5
  refine Zw (fun h6 => fin _ _ (by have : ¬ s.lines.length ≤ 2 := by omega
                                   simp [ZO, this])) (fun h6 => ?_)
  refine (Zdn s.lines (fun x => !XU x) .empty hll (fun x _ => Zca x)).mono fun v h' ⟨e1, e2⟩ => ⟨_, e1, ?_⟩
  rw [Znr]
  refine Zd (fun h7 => fin _ _ (by have : s.lines.all XU = false := by simpa using h7
                                   simp only [ZO, this, Bool.and_false, Bool.false_and])) (fun h7 => ?_)
  have h7 : s.lines.all XU = true := by simpa using h7
  refine ⟨_, Zjt s hl, Zd (fun h8 => fin _ _ (by simp at h8; simp [ZO, h8])) (fun h8 => ?_)⟩
  have h8 : QW s = true := by simpa using h8
  refine ⟨_, Zbc s cap cs np, Zw (fun h9 => fin _ _ (by have : ¬ 0 ≤ Jn s cap := by omega
                                                        simp [ZO, this])) (fun h9 => ?_)⟩
  refine Zw (fun h10 => fin _ _ (by have : ¬ s.buffer.length ≤ 64 := by omega
                                    simp [ZO, this])) (fun h10 => ?_)
  have e : ZO s np cap pm = decide (s = XM) := by
    have g2 : 0 ≤ s.place := by omega
    have g3 : s.place < np := by omega
    have g4 : 0 ≤ s.clock := by omega
    have g6 : s.lines.length ≤ 2 := by omega
    have g9 : 0 ≤ Jn s cap := by omega
    have g10 : s.buffer.length ≤ 64 := by omega
    simp only [ZO, h1, h5, h7, h8, g2, g3, g4, g6, g9, g10, decide_true, Bool.true_and]
  rw [e] at fin ⊢
  refine Zd (fun _ => ⟨_, (Zqd s XM hll hl).wk ?_, fin _ _ rfl⟩) (fun h => by rw [hon] at h; cases h)
  have wn : Wk0 (.sl none 0 (some 0) 0) (.ts [] 0 none) := .inr (.inl ⟨_, _, _, rfl, rfl, fun x hx => by cases hx⟩)
  exact .agg _ _ _ _ (WkL.refl _) (.agg _ _ _ _ (.cons _ _ _ _ (.refl _) (.cons _ _ _ _ (.refl _) (.cons _ _ _ _ (.refl _) (.cons _ _ _ _ (.refl _) (.cons _ _ _ _ (.refl _) (.cons _ _ _ _ (.refl _) (.cons _ _ _ _ wn (.cons _ _ _ _ (.refl _) (.cons _ _ _ _ wn (WkL.refl _)))))))))) .nil)
theorem Ze7 (a b : Side) (hl : a.lines.length < 2 ^ 30) (ha : a.ages.length < 2 ^ 30) : PCon UY 110 [.agg (Zn a), .agg (Zn b)] (· = .b (decide (a = b))) := by
 refine Zt UK (fn := Tryz.f110) (by kernel_rfl) (by kernel_rfl) rfl ?_
 refine ZH UK (n := 122) (loc := UY.loc 110) 100 [2, 3, 4, 5] (by kernel_rfl) ?_
 refine Eq.mpr (Zw3 a.on a.shut a.eof a.place a.clock a.typed (row encT a.lines) a.lines.length a.fly (row encI a.ages) a.ages.length a.ready a.buffer b.on b.shut b.eof b.place b.clock b.typed (row encT b.lines) b.lines.length b.fly (row encI b.ages) b.ages.length b.ready b.buffer .empty _) ?_
 have no : ∀ h, (a = b → False) → ∃ r, Frz h (.b false) r ∧ r = .b (decide (a = b)) := fun h e => ⟨_, .b _, by rw [decide_eq_false e]⟩
 refine Zd (fun g => Zl (.inr rfl) rfl (no _ fun e => by rw [e] at g; simp at g)) (fun g0 => ?_)
 refine Zd (fun g => Zl (.inr rfl) rfl (no _ fun e => by rw [e] at g; simp at g)) (fun g1 => ?_)
 refine Zd (fun g => Zl (.inr rfl) rfl (no _ fun e => by rw [e] at g; simp at g)) (fun g2 => ?_)
 refine Zd (fun g => Zl (.inr rfl) rfl (no _ fun e => by rw [e] at g; simp at g)) (fun g3 => ?_)
 refine Zd (fun g => Zl (.inr rfl) rfl (no _ fun e => by rw [e] at g; simp at g)) (fun g4 => ?_)
 refine Zd (fun g => Zl (.inr rfl) rfl (no _ fun e => by rw [e] at g; simp at g)) (fun g5 => ?_)
 refine Zd (fun g => Zl (.inr rfl) rfl (no _ fun e => by rw [e] at g; simp at g)) (fun g6 => ?_)
 refine Zd (fun g => Zl (.inr rfl) rfl (no _ fun e => by rw [e] at g; simp at g)) (fun g7 => ?_)
 refine Zd (fun g => Zl (.inr rfl) rfl (no _ fun e => by rw [e] at g; simp at g)) (fun g8 => ?_)
 refine Zd (fun g => Zl (.inr rfl) rfl (no _ fun e => by rw [e] at g; simp at g)) (fun g9 => ?_)
 refine Zd (fun g => Zl (.inr rfl) rfl (no _ fun e => by rw [e] at g; simp at g)) (fun g10 => ?_)
 have e9 : a.lines.length = b.lines.length := by simp at g9; omega
 have e10 : a.ages.length = b.ages.length := by simp at g10; omega
 refine ⟨rfl, ZK [2, 3, 5] [2, 3, 4, 5] rfl (by kernel_rfl) (fun m vs _ => ∃ i : Nat, vs = [.lb (Zn a), .lb (Zn b), .i .i64 (i : Nat)] ∧ i ≤ a.lines.length ∧ m = a.lines.length - i ∧ a.lines.take i = b.lines.take i) a.lines.length Zu ⟨0, rfl, by omega, by omega, rfl⟩ ?_⟩
 rintro m vs h ⟨i, rfl, hi, rfl, hs⟩
 refine ZI UK (loc := UY.loc 110) 100 [2, 3, 4, 5] ?_
 refine Eq.mpr (Zw4 ..) ?_
 refine Zg (fun hlt => ?_) (fun hge => ?_)
 ·have hlt' : i < b.lines.length := by omega
  refine ⟨bnd_nat hlt, a.lines[i], by rw [Int.toNat_natCast]; exact Zr (f := encT) (k := 1) JR hlt, bnd_nat hlt', b.lines[i], by rw [Int.toNat_natCast]; exact Zr (f := encT) (k := 1) JR hlt', Zd (fun hc => ?_) (fun hc => ?_)⟩
  ·have hc : a.lines[i] ≠ b.lines[i] := by simpa using hc
   exact Zl (.inr rfl) rfl (no _ fun e => by subst e; exact hc rfl)
  ·have hc : a.lines[i] = b.lines[i] := by simpa using hc
   exact ⟨rfl, a.lines.length - (i + 1), by omega, i + 1, by rw [Zf (by omega)]; rfl, by omega, rfl, VB hs hlt hlt' hc⟩
 have el : a.lines = b.lines := VA hs hge (by omega)
 refine Ze [2, 3] (by kernel_rfl) rfl rfl ?_
 refine ZH UK (n := 122) (loc := UY.loc 110) 100 [2, 3, 6] (by kernel_rfl) ?_
 refine Eq.mpr (Zw5 ..) ?_
 refine ⟨rfl, ZK [2, 3, 6] [2, 3, 4, 6] rfl (by kernel_rfl) (fun m vs _ => ∃ i : Nat, vs = [.lb (Zn a), .lb (Zn b), .i .i64 (i : Nat)] ∧ i ≤ a.ages.length ∧ m = a.ages.length - i ∧ a.ages.take i = b.ages.take i) a.ages.length Zu ⟨0, rfl, by omega, by omega, rfl⟩ ?_⟩
 rintro m vs h ⟨i, rfl, hi, rfl, hs⟩
 refine ZI UK (loc := UY.loc 110) 100 [2, 3, 4, 6] ?_
 refine Eq.mpr (Zw6 ..) ?_
 refine Zg (fun hlt => ?_) (fun hge => ?_)
 ·have hlt' : i < b.ages.length := by omega
  refine ⟨bnd_nat hlt, a.ages[i], by rw [Int.toNat_natCast]; exact Zr (f := encI) (k := 1) ZV hlt, bnd_nat hlt', b.ages[i], by rw [Int.toNat_natCast]; exact Zr (f := encI) (k := 1) ZV hlt', Zd (fun hc => ?_) (fun hc => ?_)⟩
  ·have hc : a.ages[i] ≠ b.ages[i] := by simpa using hc
   exact Zl (.inr rfl) rfl (no _ fun e => by subst e; exact hc rfl)
  ·have hc : a.ages[i] = b.ages[i] := by simpa using hc
   exact ⟨rfl, a.ages.length - (i + 1), by omega, i + 1, by rw [Zf (by omega)]; rfl, by omega, rfl, VB hs hlt hlt' hc⟩
 have ea : a.ages = b.ages := VA hs hge (by omega)
 refine Ze [] (by kernel_rfl) rfl rfl ?_
 refine Zm UK (loc := UY.loc 110) 100 [4] ?_
 refine Eq.mpr (Zw7 h _) ?_
 refine Zs (.inr rfl) rfl (.b _) ?_
 clear no
 obtain ⟨a0, a1, a2, a3, a4, a5, a6, a7, a8, a9, a10⟩ := a
 obtain ⟨b0, b1, b2, b3, b4, b5, b6, b7, b8, b9, b10⟩ := b
 simp at g0 g1 g2 g3 g4 g5 g6 g7 g8 el ea
 simp [g0, g1, g2, g3, g4, g5, g6, g7, g8, el, ea]
end Go.Y
