/- glob.Match, by its contract. -/
import Derived.Test.YtkcgmnhojldoiaaGreatGMay
import Derived.Test.YtkcgmnhojldoiaaGreatGPipe6
import Derived.Test.YtkcgmnhojldoiaaGreatYRow
import Derived.Test.YtkcgmnhojldoiaaGreatGPeer55
import Derived.Test.YtkcgmnhojldoiaaGreatYTryzP
import Derived.Test.YtkcgmnhojldoiaaGreatYLoop
import Derived.Test.YtkcgmnhojldoiaaGreatGTree
namespace Go.Y
open Go.Proofs
set_option maxRecDepth 1000000
set_option maxHeartbeats 0
def Qc (mi : Int) (f : Nat) : Option (Nat × Nat) := if 0 ≤ mi then some (mi.toNat + 1, f) else none

def Zsa (l : List Glob) (s : List UInt8) (m : Nat) (vs : List V) (_ : Heap) : Prop :=
 ∃ (i k : Nat) (mi : Int) (f : Nat) (b : Bool), vs = [lst encG l, .s s, .b b, .i .i64 (i : Nat), .i .i64 (k : Nat), .i .i64 mi, .i .i64 (f : Nat)] ∧ i ≤ l.length ∧ k ≤ s.length ∧ f ≤ k ∧ -1 ≤ mi ∧ mi < l.length ∧
  Ztg l i k (Qc mi f) ∧ goal l s i k (Qc mi f) = M l s ∧ m = (if 0 ≤ mi then ((l.length - mi.toNat) * (s.length + 2) + (s.length + 1 - f)) * (l.length + s.length + 2) else (l.length + 1) * (s.length + 2) * (l.length + s.length + 2)) + (s.length - k) + (l.length - i)

def ZBz (l : List Glob) (s : List UInt8) (m : Nat) (vs : List V) (_ : Heap) : Prop :=
 ∃ (i : Nat) (b : Bool), vs = [lst encG l, .b b, .i .i64 (i : Nat)] ∧ i ≤ l.length ∧ (l.drop i).all (fun g => g.k == 2) = M l s ∧ m = l.length - i

theorem Zn3 (l : List Glob) (s : List UInt8) (hs : okG l) (hsl : s.length < 2 ^ 28) : PCon UY 251 [lst encG l, .s s] (· = .b (mayS l && M l s)) := by
 have hl := hs.1
 refine Zt UK (fn := Tryz.f251) (by kernel_rfl) (by kernel_rfl) rfl ?_
 refine ZH UK (n := 78) (loc := UY.loc 251) 100 [0, 1, 4, 5, 6, 7, 8] (by kernel_rfl) ?_
 refine Eq.mpr (Zxs (row encG l) l.length s .empty _) ?_
 refine ⟨_, Zqk l hs, Zd (fun hm => Zl (.inr rfl) rfl ⟨_, .b _, ?_⟩) (fun hm => ?_)⟩
 ·have : mayS l = false := by simpa using hm
  rw [this]; rfl
 have hmay : mayS l = true := by simpa using hm
 rw [hmay, Bool.true_and]
 refine ⟨rfl, ZK [0, 1, 4, 5, 6, 7, 8] [0, 1, 4, 5, 6, 7, 8] rfl (by kernel_rfl) (Zsa l s) _ Zu ⟨0, 0, -1, 0, false, rfl, by omega, by omega, by omega, by omega, by omega, trivial, ?_, rfl⟩ ?_⟩
 ·simp [goal, Qc]
 rintro m vs h ⟨i, k, mi, f, b, rfl, hi, hk, hf, hm0, hm1, hw, hgoal, rfl⟩
 refine ZI UK (loc := UY.loc 251) 100 [0, 1, 4, 5, 6, 7, 8] ?_
 refine Eq.mpr (Zxt (row encG l) l.length s b (i : Nat) (k : Nat) mi (f : Nat) h _) ?_
 generalize hK : Xy UY 78 [0, 1, 4, 5, 6, 7, 8] [0, 1, 4, 5, 6, 7, 8] (Zsa l s) _ (Xi (post (flat (Za Tryz.f251)))) ((post (flat (Za Tryz.f251))).drop 1) (FinS UY Tryz.f251 fun v h => ∃ r, Frz h v r ∧ r = .b (M l s)) = K
 refine Zg (fun hkl => ?_) (fun hkg => ?_)
 ·-- one more byte is there
  have back : (∀ (h : i < l.length), l[i].k ≠ 2 ∧ Wd l[i] s[k].toNat = false) → If (leI 0 mi) (K .normal 78 [lst encG l, .s s, .b b, .i .i64 (IntKind.i64.wrap (mi + 1)), .i .i64 (IntKind.i64.wrap ((f : Nat) + 1)), .i .i64 mi, .i .i64 (IntKind.i64.wrap ((f : Nat) + 1))] h)
    (K .ret 78 [lst encG l, .s s, .b false, .i .i64 (i : Nat), .i .i64 (k : Nat), .i .i64 mi, .i .i64 (f : Nat)] h) := by
   intro hno
   refine Qz (fun hmi => ?_) (fun hmi => ?_)
   ·obtain ⟨q, rfl⟩ : ∃ q : Nat, mi = (q : Nat) := ⟨mi.toNat, by omega⟩
    have hmo : Qc (q : Nat) f = some (q + 1, f) := by simp [Qc]
    rw [hmo] at hw hgoal
    rw [Zny hkl hno] at hgoal
    subst hK
    refine ⟨rfl, ((l.length - q) * (s.length + 2) + (s.length + 1 - (f + 1))) * (l.length + s.length + 2) + (s.length - (f + 1)) + (l.length - (q + 1)), ?_, q + 1, f + 1, (q : Nat), f + 1, b, ?_, by omega, by omega, by omega, by omega, by omega, ?_, ?_, ?_⟩
    ·rw [if_pos hmi, Int.toNat_natCast]
     have e1 : (l.length - q) * (s.length + 2) + (s.length + 1 - f) = ((l.length - q) * (s.length + 2) + (s.length + 1 - (f + 1))) + 1 := by omega
     rw [e1, Nat.add_mul _ 1]
     omega
    ·rw [Zf (by omega), Zf (by omega)]; rfl
    ·have : Qc (q : Nat) (f + 1) = some (q + 1, f + 1) := by simp [Qc]
     rw [this]
     exact ⟨Nat.le_refl _, by omega, fun j g h1 h2 => by omega⟩
    ·have : Qc (q : Nat) (f + 1) = some (q + 1, f + 1) := by simp [Qc]
     rw [this]; exact hgoal
    ·rw [if_pos hmi, Int.toNat_natCast]
   ·have hmo : Qc mi f = none := by unfold Qc; rw [if_neg (by omega)]
    rw [hmo, Znz hkl hno] at hgoal
    subst hK
    exact Zl (.inr rfl) rfl ⟨_, .b _, by rw [← hgoal]⟩
  -- a piece for one byte
  have one : (∀ (h : i < l.length), l[i].k ≠ 2) → If (ltI (i : Nat) (l.length : Nat)) ((0 ≤ ((i : Nat) : Int) ∧ ((i : Nat) : Int) < (l.length : Nat)) ∧ ∃ (n n_1 : Int) (cs : List V) (l1 : Nat) (c : Option Nat), Zh 3 (List.drop (((i : Nat) : Int).toNat * 3) (row encG l)) = some [.i .i64 n, .i .u8 n_1, .ts cs l1 c] ∧
    ∃ c_1 : UInt8, (0 ≤ ((k : Nat) : Int) ∧ s[((k : Nat) : Int).toNat]? = some c_1) ∧ ∃ b_1 : Bool, (PCon UY 270 [.agg [.i .i64 n, .i .u8 n_1, .ts cs l1 c], .i .u8 (c_1.toNat : Nat)] fun v => v = .b b_1) ∧
     If b_1 (K .normal 78 [lst encG l, .s s, .b b, .i .i64 (IntKind.i64.wrap ((i : Nat) + 1)), .i .i64 (IntKind.i64.wrap ((k : Nat) + 1)), .i .i64 mi, .i .i64 (f : Nat)] h)
      (If (leI 0 mi) (K .normal 78 [lst encG l, .s s, .b b, .i .i64 (IntKind.i64.wrap (mi + 1)), .i .i64 (IntKind.i64.wrap ((f : Nat) + 1)), .i .i64 mi, .i .i64 (IntKind.i64.wrap ((f : Nat) + 1))] h)
       (K .ret 78 [lst encG l, .s s, .b false, .i .i64 (i : Nat), .i .i64 (k : Nat), .i .i64 mi, .i .i64 (f : Nat)] h)))
    (If (leI 0 mi) (K .normal 78 [lst encG l, .s s, .b b, .i .i64 (IntKind.i64.wrap (mi + 1)), .i .i64 (IntKind.i64.wrap ((f : Nat) + 1)), .i .i64 mi, .i .i64 (IntKind.i64.wrap ((f : Nat) + 1))] h)
     (K .ret 78 [lst encG l, .s s, .b false, .i .i64 (i : Nat), .i .i64 (k : Nat), .i .i64 mi, .i .i64 (f : Nat)] h)) := by
   intro h2
   refine Zg (fun hil => ?_) (fun hig => back (fun h => absurd h (by omega)))
   rw [Int.toNat_natCast]
   refine ⟨bnd_nat hil, _, _, _, _, _, Zr Ji hil, s[k], ⟨by omega, by simp [hkl]⟩, _, Zqn l[i] _ (by have := hs.2 _ (List.getElem_mem hil); omega), Zd (fun hfit => ?_) (fun hfit => back (fun h => ⟨h2 h, hfit⟩))⟩
   rw [Znx hil (h2 hil) hkl hfit] at hgoal
   subst hK
   refine ⟨rfl, (if 0 ≤ mi then ((l.length - mi.toNat) * (s.length + 2) + (s.length + 1 - f)) * (l.length + s.length + 2) else (l.length + 1) * (s.length + 2) * (l.length + s.length + 2)) + (s.length - (k + 1)) + (l.length - (i + 1)), by omega, i + 1, k + 1, mi, f, b, ?_, by omega, by omega, by omega, hm0, hm1, ?_, hgoal, rfl⟩
   ·rw [Zf (by omega), Zf (by omega)]; rfl
   ·cases hmo : Qc mi f with
    | none => trivial
    | some qf =>
     obtain ⟨q, f'⟩ := qf
     rw [hmo] at hw
     obtain ⟨w1, w2, w3⟩ := hw
     refine ⟨by omega, by omega, fun j g h3 h4 h5 => ?_⟩
     by_cases hji : j = i
     ·subst hji
      rw [List.getElem?_eq_getElem hil] at h5
      cases h5
      exact h2 hil
     ·exact w3 j g h3 (by omega) h5
  refine Zg (fun hil => ?_) (fun hig => ?_)
  ·have rc := Xg Ji l hil
   refine ⟨bnd_nat hil, l[i].k, by rw [Int.toNat_natCast, rc]; rfl, Zd (fun h2 => ?_) (fun h2 => ?_)⟩
   ·have h2 : l[i].k = 2 := by simpa using h2
    rw [Znw hil h2 hkl hw] at hgoal
    subst hK
    refine ⟨rfl, ((l.length - i) * (s.length + 2) + (s.length + 1 - k)) * (l.length + s.length + 2) + (s.length - k) + (l.length - (i + 1)), ?_, i + 1, k, (i : Nat), k, b, ?_, by omega, by omega, by omega, by omega, by omega, ?_, ?_, ?_⟩
    ·split
     ·rename_i hmi
      have : Qc mi f = some (mi.toNat + 1, f) := by unfold Qc; rw [if_pos hmi]
      rw [this] at hw
      obtain ⟨w1, w2, w3⟩ := hw
      have hlt : mi.toNat < i := by omega
      have e1 : (l.length - i) * (s.length + 2) + (s.length + 2) ≤ (l.length - mi.toNat) * (s.length + 2) := by
       rw [← Nat.succ_mul]
       exact Nat.mul_le_mul_right _ (by omega)
      have e2 : (l.length - i) * (s.length + 2) + (s.length + 1 - k) ≤ (l.length - mi.toNat) * (s.length + 2) + (s.length + 1 - f) := by omega
      have e3 := Nat.mul_le_mul_right (l.length + s.length + 2) e2
      omega
     ·have e1 : (l.length - i) * (s.length + 2) + (s.length + 1 - k) ≤ (l.length + 1) * (s.length + 2) := by
       rw [Nat.add_mul]
       have : (l.length - i) * (s.length + 2) ≤ l.length * (s.length + 2) := Nat.mul_le_mul_right _ (by omega)
       omega
      have e3 := Nat.mul_le_mul_right (l.length + s.length + 2) e1
      omega
    ·rw [Zf (by omega)]; rfl
    ·have : Qc (i : Nat) k = some (i + 1, k) := by simp [Qc]
     rw [this]
     exact ⟨Nat.le_refl _, by omega, fun j g h1 h2 => by omega⟩
    ·have : Qc (i : Nat) k = some (i + 1, k) := by simp [Qc]
     rw [this]; exact hgoal
    ·rw [if_pos (by omega), Int.toNat_natCast]
   ·have h2 : l[i].k ≠ 2 := by simpa using h2
    exact one (fun _ => h2)
  ·exact one (fun h => absurd h (by omega))
 ·subst hK
  have hke : k = s.length := by omega
  rw [Zqe hke hw] at hgoal
  refine Ze [0, 4, 5] (by kernel_rfl) rfl rfl ?_
  refine ZH UK (n := 78) (loc := UY.loc 251) 100 [0, 4, 5] (by kernel_rfl) ?_
  refine Eq.mpr (Zxu (row encG l) l.length (i : Nat) b h _) ?_
  refine ⟨rfl, ZK [0, 4, 5] [0, 4, 5] rfl (by kernel_rfl) (ZBz l s) (l.length - i) Zu ⟨i, b, rfl, hi, hgoal, rfl⟩ ?_⟩
  rintro m vs h ⟨i, b, rfl, hi, hg, rfl⟩
  refine ZI UK (loc := UY.loc 251) 100 [0, 4, 5] ?_
  refine Eq.mpr (Zxv (row encG l) l.length (i : Nat) b h _) ?_
  refine Zg (fun hlt => ?_) (fun hge => ?_)
  ·have rc := Xg Ji l hlt
   refine ⟨bnd_nat hlt, l[i].k, by rw [Int.toNat_natCast, rc]; rfl, Zd (fun h2 => ?_) (fun h2 => ?_)⟩
   ·refine ⟨rfl, l.length - (i + 1), by omega, i + 1, b, ?_, by omega, ?_, rfl⟩
    ·rw [Zf (by omega)]; rfl
    ·rw [← hg, List.drop_eq_getElem_cons hlt, List.all_cons, h2, Bool.true_and]
   ·refine Ze [0, 5] (by kernel_rfl) rfl rfl ?_
    refine Zm UK (loc := UY.loc 251) 100 [4] ?_
    refine Eq.mpr (Zr8 (row encG l) l.length (i : Nat) h _) ?_
    refine Zs (.inr rfl) rfl (.b _) ?_
    rw [← hg, List.drop_eq_getElem_cons hlt, List.all_cons, h2, Bool.false_and]
    have : ¬ (((i : Nat) : Int) = (l.length : Nat)) := by omega
    simp [V.plain]; omega
  ·refine Ze [0, 5] (by kernel_rfl) rfl rfl ?_
   refine Zm UK (loc := UY.loc 251) 100 [4] ?_
   refine Eq.mpr (Zr8 (row encG l) l.length (i : Nat) h _) ?_
   refine Zs (.inr rfl) rfl (.b _) ?_
   rw [← hg, List.drop_of_length_le hge]
   have : i = l.length := by omega
   simp [V.plain, this]
def Zyf (es : List Edge) : Int := es.foldl (fun n e => max (max n e.lo) e.hi) 0
def Zqo (l : List Plc) (p : Int) : Int := if p < 0 then 0 else match l[p.toNat]? with
 | some x => Zyf x.edges
 | none => 0
def ZE2 (s : Side) (l : List Plc) : Side := { s with clock := min s.clock (Zqo l s.place) }
def ZA (s : Side) (cap : Int) (l : List Plc) : List Edge := if Jd s l.length cap (Xm cap l) && s.on && !s.shut then (match l[s.place.toNat]? with
 | some x => x.edges
 | none => []) else []
def Wa (s : List UInt8) : List Glob := if 200 < s.length then [] else match Qw (s.length + 1) s 0 [] with
 | .error _ => []
 | .ok l => l
def hitS (s : Side) (e : Edge) : Bool := match s.lines with
 | [] => false
 | a :: _ => mayS (Wa e.text) && M (Wa e.text) a
def QX (s : Side) (cap : Int) (e : Edge) : Bool :=
 if e.kind = 1 then leI e.lo s.clock && leI e.text.length (Jn s cap) else if e.kind = 2 then hitS s e else leI e.lo s.clock
def XV (s : Side) (cap : Int) : List Edge → Nat → List Int
 | [], _ => []
 | e :: r, i => if QX s cap e then (i : Int) :: XV s cap r (i + 1) else XV s cap r (i + 1)
def Zk7 (s : Side) (cap : Int) (l : List Plc) : List Int := XV s cap (ZA s cap l) 0
def ZB0 (s : Side) (cap : Int) (e : Edge) : Bool := QX s cap e && (e.kind == 2 || leI 0 e.hi && leI e.hi s.clock)
def ZAs (s : Side) (cap : Int) (l : List Plc) : Bool := (ZA s cap l).any (ZB0 s cap)
def XW (s : Side) (cap : Int) (e : Edge) : Bool := (e.kind == 3 || e.kind == 1 && leI e.text.length (Jn s cap)) && ltI s.clock e.lo
def Zau (s : Side) (cap : Int) (l : List Plc) : Bool := (ZA s cap l).any (XW s cap)
def ZB1 (s : Side) (cap : Int) (e : Edge) : Side :=
 if e.kind = 1 then { (Zr6 s cap e.text).1 with place := e.to, clock := 0 } else if e.kind = 2 then { (Zxr s).1 with place := e.to, clock := 0 }
 else if e.kind = 3 then { s with shut := true, place := 0, typed := [], lines := [], clock := 0 } else { s with clock := 0 }
def doS (s : Side) (cap : Int) (l : List Plc) (i : Int) : Side × Int :=
 if Jd s l.length cap (Xm cap l) = false then (XM, 5) else if i < 0 then (XM, 11) else match (ZA s cap l)[i.toNat]? with
  | none => (XM, 11)
  | some e => if QX s cap e then (ZB1 s cap e, 0) else (XM, 11)

/-! ### may, of the next ones -/
theorem Zil {s : Side} {np : Nat} {cap : Int} {pm : Bool} (h : Xk s np cap pm = true) : 0 ≤ s.place ∧ s.place < np ∧ 0 ≤ s.clock ∧ s.ages.length = s.fly.length ∧ Ze6 s.ages = true ∧ (s.shut = true → s.place = 0 ∧ s.clock = 0) := by
 unfold Xk QW at h
 simp only [Bool.and_eq_true, decide_eq_true_eq, Bool.or_eq_true, Bool.not_eq_true'] at h
 obtain ⟨⟨⟨⟨⟨⟨⟨⟨⟨⟨⟨a1, a2⟩, a3⟩, a4⟩, a5⟩, a6⟩, a7⟩, a8, a8'⟩, a9⟩, a10⟩, a11⟩, a12⟩ := h
 refine ⟨a2, a3, a4, a8, a8', fun hs => ?_⟩
 rcases a11 with h | h
 ·rw [hs] at h; cases h
 ·exact ⟨h.1, h.2.1⟩
theorem Zim {s : Side} {np : Nat} {cap : Int} {pm : Bool} (h : ZO s np cap pm = true) : s = XM ∧ 0 < np := by
 unfold ZO at h
 simp only [Bool.and_eq_true, decide_eq_true_eq] at h
 obtain ⟨⟨⟨⟨⟨⟨⟨⟨⟨⟨a1, a2⟩, a3⟩, a4⟩, a5⟩, a6⟩, a7⟩, a8⟩, a9⟩, a10⟩, a11⟩ := h
 exact ⟨a11, by omega⟩

theorem Zin {s : Side} {np : Nat} {cap : Int} {pm : Bool} (h : Xk s np cap pm = true) (c : Int) (h0 : 0 ≤ c) (hs : s.shut = true → c = 0) : Xk { s with clock := c } np cap pm = true := by
 unfold Xk QW at h ⊢
 have hr : Jn { s with clock := c } cap = Jn s cap := rfl
 rw [hr]
 simp only [Bool.and_eq_true, decide_eq_true_eq, Bool.or_eq_true, Bool.not_eq_true'] at h ⊢
 obtain ⟨⟨⟨⟨⟨⟨⟨⟨⟨⟨⟨a1, a2⟩, a3⟩, a4⟩, a5⟩, a6⟩, a7⟩, a8, a8'⟩, a9⟩, a10⟩, a11⟩, a12⟩ := h
 refine ⟨⟨⟨⟨⟨⟨⟨⟨⟨⟨⟨a1, a2⟩, a3⟩, h0⟩, a5⟩, a6⟩, a7⟩, a8, a8'⟩, a9⟩, a10⟩, ?_⟩, a12⟩
 rcases a11 with h | h
 ·exact .inl h
 ·by_cases hsh : s.shut = true
  ·exact .inr ⟨h.1, hs hsh, h.2.2⟩
  ·exact .inl (by simpa using hsh)
def ZFf (s : Side) (B : Int) : Prop := (∀ a ∈ s.ages, a ≤ B) ∧ s.clock ≤ B
theorem Zcf {s : Side} {cap : Int} {l : List Plc} {pm : Bool} (h : Jd s l.length cap pm = true) : 0 ≤ s.place ∧ s.place < l.length ∧ 0 ≤ s.clock ∧ Ze6 s.ages = true := by
 unfold Jd at h
 cases hon : s.on with
 | true =>
  rw [hon] at h
  obtain ⟨p1, p2, p3, p4, p5, p6⟩ := Zil h
  exact ⟨p1, p2, p3, p5⟩
 | false =>
  rw [hon] at h
  obtain ⟨e1, e2⟩ := Zim h
  subst e1
  exact ⟨by decide, by show (0 : Int) < _; omega, by decide, by decide⟩

/-! ### Short -/
section
variable {s : Side} {cap : Int} {l : List Plc}
end
/-! ### what a parse comes to is short -/
theorem Zjv {s : List UInt8} : ∀ {n i : Nat} {out l : List Span} {j : Nat}, setS n s i out = .ok (l, j) → l.length ≤ out.length + (j - i)
 | 0, _, _, _, _, h => by cases h
 | n + 1, i, out, l, j, h => by
  simp only [setS] at h
  split at h
  ·cases h; omega
  ·split at h
   ·cases h
   ·rename_i x k h1
    have g1 := Zez h1
    have g2 := Zjv h
    have g3 := Ze0 h
    simp only [List.length_append, List.length_cons, List.length_nil] at g2
    omega
theorem Zk8 {s : List UInt8} {i : Nat} {x : Glob} {j : Nat} (h : Xb s i = .ok (x, j)) : x.sp.length ≤ s.length := by
 unfold Xb at h
 split at h
 ·cases h
 ·split at h
  ·cases h; exact Nat.zero_le _
  ·split at h
   ·cases h; exact Nat.zero_le _
   ·split at h
    ·split at h
     ·cases h
     ·rename_i l k h1
      have g1 := Zjv h1
      have g2 := Ze0 h1
      cases h
      simp only [List.length_nil] at g1
      show l.length ≤ s.length
      omega
    ·split at h
     ·split at h
      ·cases h
      ·cases h; exact Nat.zero_le _
     ·cases h; exact Nat.zero_le _
theorem Zdp {s : List UInt8} : ∀ {n i : Nat} {out l : List Glob}, Qw n s i out = .ok l → i ≤ s.length → (∀ x ∈ out, x.sp.length ≤ s.length) → l.length ≤ out.length + (s.length - i) ∧ ∀ x ∈ l, x.sp.length ≤ s.length
 | 0, _, _, _, h, _, _ => by cases h
 | n + 1, i, out, l, h, hi, ho => by
  simp only [Qw] at h
  split at h
  ·split at h
   ·cases h
   ·rename_i x j h1
    have g1 := Zb4 h1
    have g2 := Zk8 h1
    have g3 := Zdp h g1.2 (fun y hy => by
     rcases List.mem_append.1 hy with hy | hy
     ·exact ho y hy
     ·rw [List.mem_singleton.1 hy]; exact g2)
    simp only [List.length_append, List.length_cons, List.length_nil] at g3
    exact ⟨by omega, g3.2⟩
  ·simp only [Except.ok.injEq] at h
   subst h
   exact ⟨by omega, ho⟩
theorem Zgt (s : List UInt8) : okG (Wa s) := by
 unfold Wa
 split
 ·exact ⟨by decide, fun x hx => by cases hx⟩
 ·rename_i h200
  split
  ·exact ⟨by decide, fun x hx => by cases hx⟩
  ·rename_i l hl
   have := Zdp hl (Nat.zero_le _) (fun x hx => by cases hx)
   simp only [List.length_nil] at this
   exact ⟨by omega, fun x hx => by have := this.2 x hx; omega⟩
theorem Zcg (s : List UInt8) : ∃ a e : Int, Zas s = .tup [lst encG (Wa s), .i .i64 a, .i .i64 e] := by
 unfold Zas Wa
 split
 ·exact ⟨_, _, rfl⟩
 ·cases Qw (s.length + 1) s 0 [] with
  | error e => exact ⟨_, _, rfl⟩
  | ok l => exact ⟨_, _, rfl⟩

/-! ### edges that are right -/
theorem Zdq {s : Side} {cap : Int} {l : List Plc} (hp : Xm cap l = true) {e : Edge} (h : e ∈ ZA s cap l) : XO e cap l.length = true := by
 unfold ZA at h
 split at h
 ·split at h
  ·rename_i x hx
   unfold Xm at hp
   simp only [Bool.and_eq_true] at hp
   have hlt := (List.getElem?_eq_some_iff.1 hx).1
   have := List.all_eq_true.1 hp.2 _ (List.mem_range.2 hlt)
   unfold okPl at this
   rw [hx] at this
   simp only [Bool.and_eq_true] at this
   exact List.all_eq_true.1 this.2 e h
  ·cases h
 ·cases h
theorem Zdr {e : Edge} {cap : Int} {np : Nat} (h : XO e cap np = true) : (e.kind = 1 ∧ e.text ≠ [] ∨ e.kind = 2 ∨ e.kind = 3) ∧ e.lo ≤ 9 := by
 unfold XO at h
 split at h
 ·rename_i h1
  simp only [Bool.and_eq_true, Zb6, leI, decide_eq_true_eq, Bool.not_eq_true', beq_eq_false_iff_ne] at h
  exact ⟨.inl ⟨h1, h.1.2⟩, h.1.1.2.1.2⟩
 ·split at h
  ·rename_i h2
   simp only [Bool.and_eq_true, beq_iff_eq] at h
   exact ⟨.inr (.inl h2), by have := h.1.1.2; omega⟩
  ·split at h
   ·rename_i h3
    simp only [Bool.and_eq_true, Zb6, leI, decide_eq_true_eq] at h
    exact ⟨.inr (.inr h3), h.2.1.2⟩
   ·cases h
theorem Zk9 {s : Side} {cap : Int} {l : List Plc} {pm : Bool} (h : Jd s l.length cap pm = true) : pm = true := by
 unfold Jd at h
 cases pm with
 | true => rfl
 | false =>
  split at h
  ·simp [Xk] at h
  ·simp [ZO] at h

/-! ### ticks -/
def ZB2 : Nat → Side → Side
 | 0, s => s
 | k + 1, s => ZBw (ZB2 k s)
section
variable {s : Side} {cap : Int} {l : List Plc}
theorem Ztv (a b : Int) : ltI a b = !leI b a := by
 unfold ltI leI
 by_cases h : a < b
 ·have : ¬ b ≤ a := by omega
  simp [h, this]
 ·have : b ≤ a := by omega
  simp [h, this]
end
end Go.Y
namespace Go.Y
set_option maxRecDepth 1000000
set_option maxHeartbeats 0
theorem HRel.more {W : Vw} {h : Heap} {w w' : World} (r : HRel W h w) {s : Nat → Option Obj} (hs : ∀ b o, W.snap b = some o → s b = some o) (hz : w.heap.size ≤ w'.heap.size)
  (hk : ∀ b, b < w.heap.size → w'.heap[b]? = w.heap[b]?) (hn : ∀ b o, s b = some o → w'.heap[b]? = some o) (hstr : Str w w') :
  HRel (W.more w.heap.size s) h w' ∧ Stp W W.own w (W.more w.heap.size s) (W.more w.heap.size s).own w' := by
 have hle := Zmd (w := w) hs
 have hsame : Same w w' := fun b o hb => by rw [hk b (Zi hb)]; exact hb
 have hlt : ∀ id, W.lv id → (W.mu id).1 < w.heap.size := by
  intro id hl
  obtain ⟨o, ho⟩ := r.block hl
  exact Zi ho
 refine ⟨⟨r.kn, r.lk, r.lv, r.lt, ?_, ?_, r.inj, ?_, fun p hp => ⟨(r.tg p hp).1, (((r.tg p hp).2).same hsame).mono hle (r.tg p hp).1⟩, r.gl.mono hle.snap⟩, ⟨hle, hz, fun b hb _ => hk b hb, fun b hb => .inl hb, ?_, hstr⟩⟩
 ·intro b o hb
  simp only [Vw.more] at hb
  split at hb
  ·exact hn b o hb
  ·exact hsame b o (r.snap b o hb)
 ·intro id o ho
  exact ((r.obj id o ho).same hsame).mono hle (r.known (by simp [ho]))
 ·intro id hl
  have := hlt id hl
  simp only [Vw.more]
  rw [if_neg (by omega)]
  exact r.apart id hl
 ·intro b hb
  simp only [Vw.more] at hb
  split at hb
  ·rename_i h1; exact .inr (.inr h1)
  ·exact .inl hb

theorem Con.ofP {Y : YP} {f : FuncId} {args args' : List V} {h : Heap} {P : V → Prop} (D : List Nat) (hf : FrzAL (Zf2 h D) args args') (p : PCon Y f args' P) : Con Y f args h fun v h' => P v ∧ h' = WZ h D :=
 ⟨p.body, fun W w us hr hv => by
  obtain ⟨g1, g2⟩ := hr.frzD D
  refine (p.tr (W.frzD D w) w us g1.snap g1.gl (hf.vr (Fz.of hr D) (Zbm hr D) hv)).mono ?_
  rintro e w' ⟨r, W', u, h1, h2, h3, h4, h5, h6, h7, h8, h9, h10⟩
  obtain ⟨k1, k2⟩ := g1.more (s := W'.snap) h4 h7 h8 h5 h10
  refine ⟨r, _, _, u, ⟨h1, rfl⟩, h2, k1, h9 _ ?_, g2.trans k2⟩
  intro b o hb
  simp only [Vw.more]
  split
  ·exact hb
  ·rename_i hlt
   rcases h6 b (by simp [hb]) with h9' | h9'
   ·cases hsn : (W.frzD D w).snap b with
    | none => exact absurd hsn h9'
    | some o' => rw [h4 b o' hsn] at hb; exact hb
   ·exact absurd h9' hlt⟩
end Go.Y
namespace Go.Y
open Go.Proofs
set_option maxRecDepth 1000000
set_option maxHeartbeats 0
theorem kd41 : UY.kd 31 = some (.slice 3) := by kernel_rfl

theorem ty3 : UY.ty 3 = some ⟨1, 8, .int .i64, [.i .i64 0]⟩ := by kernel_rfl

theorem Zch (l : List Int) : Xr (row encI l) = true := by
 rw [rowI]
 induction l with
 | nil => rfl
 | cons a l ih => simp only [List.map_cons, Xr, ih, Bool.and_true]; rfl

theorem Ze8 {h : Heap} {id : Nat} {l : List Int} (hid : id < h.nx) (hg : h.get id = some (.arr (row encI l) true)) : Lst encI 1 h (some (id, 0)) l.length none 1 l :=
 ⟨⟨row encI l, ⟨by rw [Zkr ZV], .inr ⟨id, rfl, rfl, rfl, hid, hg⟩⟩, Zch l, Zjo (f := encI) (fun _ => rfl) _ l⟩, rfl⟩

theorem JF (l : List Int) (x : Int) {h : Heap} {a : Option (Nat × Nat)} {n : Nat} {c : Option Nat} {k : Nat} (hL : Lst encI 1 h a n c k l) (hl : l.length < 2 ^ 29) :
  ∃ a' n' c' k' h', Zk UY h 31 31 (.sl a n c k) (.ts [.i .i64 x] 1 (some 1)) = some (.sl a' n' c' k', h') ∧ Lst encI 1 h' a' n' c' k' (l ++ [x]) ∧ Fr h a h' ∧ ∃ j, a' = some (j, 0) ∧ h.nx ≤ j :=
 Lst.app1 (Y := UY) (e := 3) (te := ⟨1, 8, .int .i64, [.i .i64 0]⟩) x kd41 ty3 rfl (by decide) hL (.cons _ _ _ _ (.i _ _) .nil) rfl rfl rfl (by decide) hl

theorem Zgu (s : Side) (cap : Int) (l : List Plc) (hl : s.ages.length < 2 ^ 30) (hll : s.lines.length < 2 ^ 30) : PCon UY 171 [.agg (Zn s), .agg (Xp cap l)] (· = .b (Jd s l.length cap (Xm cap l))) := by
 unfold Jd
 cases hon : s.on with
 | true => rw [if_pos rfl]; exact Zte s cap (row ZG l) l.length _ (Ze4 cap l) hl hon hll
 | false => rw [if_neg (by decide)]; exact Zk4 s cap (row ZG l) l.length _ (Ze4 cap l) hl hon hll


theorem Zds (s : Side) (cap : Int) (l : List Plc) (hn : ∀ x ∈ l, x.name.length < 2 ^ 30) (hl : s.ages.length < 2 ^ 30) (hll : s.lines.length < 2 ^ 30) (hty : s.typed.length < 2 ^ 30) (hle : ∀ x ∈ s.lines, x.length < 2 ^ 30) :
  PCon UY 62 [.agg (Zn s), .agg (Xp cap l)] (· = .b (Jd s l.length cap (Xm cap l))) := by
 unfold Jd
 cases hon : s.on with
 | true => rw [if_pos rfl]; exact Zk1 s cap (row ZG l) l.length _ (Zb7 cap l hn) hl hon hty hle
 | false => rw [if_neg (by decide)]; exact Zih s cap (row ZG l) l.length _ (Zb7 cap l hn) hl hon hty hle hll
theorem Zyg (d e j : Bool) (a m : Int) (n : List UInt8) (o : List V) (p : Nat) (q : List UInt8) (r : List V) (t : Nat) (u w : List UInt8) (x : Int) (f : List V) (g : Nat) (h : Heap) (K : KT) : (Zc UY (UY.loc 220) 100 ((flat (Za Tryz.f220))) ⟨(V.agg (vSD d e j a m n o p none q r t none u w) :: V.agg [V.i .i64 x, V.ts f g none] :: List.replicate 23 .undef), [], h⟩ (VQ [4] K)) =
 (∃ (b : Bool),
 (PCon UY 171
 [V.agg
 (vSD d e j a m n o p none q r t none u w),
 V.agg [V.i .i64 x, V.ts f g none]]
 fun v => v = V.b b) ∧
 If (!b) (K .ret 25 [.sl none 0 (some 0) 0] h)
 (If (!d) (K .ret 25 [.sl none 0 (some 0) 0] h)
 (If e (K .ret 25 [.sl none 0 (some 0) 0] h)
 ((0 ≤ a ∧ a < g) ∧
 ∃ (cs : List V) (l : Nat) (c : Option Nat), Zh 1 (List.drop 2 (List.drop (a.toNat * 3) f)) =
 some [V.ts cs l c] ∧
 K .ret 25 [.ts cs l c] h)))) := by kernel_rfl
theorem Zyh (d e f : Bool) (g a : Int) (j : List UInt8) (m : List V) (o : Nat) (p : List UInt8) (q : List V) (r : Nat) (t u : List UInt8) (z : Int) (A : List V) (B : Nat) (w : Int) (x : List UInt8) (y C D : Int) (h : Heap) (K : KT) : (Zc UY (UY.loc 221) 100 ((flat (Za Tryz.f221))) ⟨(V.agg (vSD d e f g a j m o none p q r none t u) :: V.agg [V.i .i64 z, V.ts A B none] :: V.agg [V.i .i64 w, V.s x, V.i .i64 y, V.i .i64 C, V.i .i64 D] :: List.replicate 52 .undef), [], h⟩ (VQ [6] K)) =
 (If (w == (1 : Int))
 (If (leI y a)
 (∃ (n : Int),
 (PCon UY 213
 [V.agg
 (vSD d e f g a j m o none p q r none t u),
 V.agg [V.i .i64 z, V.ts A B none]]
 fun v => v = V.i .i64 n) ∧
 K .ret 55 [.b (leI (↑x.length : Int) n)] h)
 (K .ret 55 [.b false] h))
 (If (w == (2 : Int))
 (∃ (s : List UInt8) (b : Bool), (PCon UY 250
 [V.agg
 (vSD d e f g a j m o none p q r none t u)]
 fun v => v = V.tup [V.s s, V.b b]) ∧
 ∃ (cs : List V) (l : Nat) (c : Option Nat) (n n_1 : Int), (PCon UY 235 [V.s x] fun (v : V) =>
 v = V.tup [V.ts cs l c, V.i .i64 n, V.i .i64 n_1]) ∧
 If b
 (∃ (b : Bool),
 (PCon UY 251 [V.ts cs l c, V.s s] fun v => v = V.b b) ∧
 K .ret 55 [.b b] h)
 (K .ret 55 [.b false] h))
 (K .ret 55 [.b (leI y a)] h))) := by kernel_rfl
theorem Zyi (a d e : Bool) (f g : Int) (j : List UInt8) (m : List V) (n : Nat) (o : List UInt8) (p : List V) (q : Nat) (r t : List UInt8) (u : Int) (w : List V) (x : Nat) (h : Heap) (K : KT) : (Zc UY (UY.loc 181) 100 (pre (flat (Za Tryz.f181))) ⟨(V.agg (vSD a d e f g j m n none o p q none r t) :: V.agg [V.i .i64 u, V.ts w x none] :: List.replicate 25 .undef), [], h⟩ (VQ [2, 3, 5, 10, 11, 12] K)) =
 (∃ (cs : List V) (l : Nat) (c : Option Nat), (PCon UY 220
 [V.agg
 (vSD a d e f g j m n none o p q none r t),
 V.agg [V.i .i64 u, V.ts w x none]]
 fun v => v = V.ts cs l c) ∧
 K .normal 27
 [.lb
 (vSD a d e f g j m n none o p q none r t),
 .lb [.i .i64 u, .ts w x none],
 .sl none 0 (some 0) 0, .ts cs l c, .i .i64 (l : Int),
 .i .i64 0]
 h) := by kernel_rfl
theorem Zyj (e f g : Bool) (j m : Int) (o : List UInt8) (p : List V) (q : Nat) (r : List UInt8) (t : List V) (u : Nat) (w x : List UInt8) (y : Int) (z : List V) (A : Nat) (E : Option Nat) (B : List V) (C : Nat) (D : Int) (F : Option (Nat × Nat)) (G : Nat) (H : Option Nat) (I : Nat) (d : Int) (h : Heap) (K : KT) : (Zc UY (UY.loc 181) 100 ((flat (Zv (post (flat (Za Tryz.f181)))))) ⟨mk 27 (([2, 3, 5, 10, 11, 12] : List Nat).zip [V.lb (vSD e f g j m o p q none r t u none w x), V.lb [V.i .i64 y, V.ts z A none], V.sl F G H I, V.ts B C E, V.i .i64 D, V.i .i64 d]), [], h⟩ (VQ [2, 3, 5, 10, 11, 12] K)) =
 (If (ltI d D)
 ((0 ≤ d ∧ d < C) ∧
 ∃ (n : Int) (s : List UInt8) (n_1 n_2 n_3 : Int), Zh 5 (List.drop (d.toNat * 5) B) =
 some [V.i .i64 n, V.s s, V.i .i64 n_1, V.i .i64 n_2, V.i .i64 n_3] ∧
 ∃ (b : Bool),
 (PCon UY 221
 [V.agg
 (vSD e f g j m o p q none r t u none w x),
 V.agg [V.i .i64 y, V.ts z A none],
 V.agg [V.i .i64 n, V.s s, V.i .i64 n_1, V.i .i64 n_2, V.i .i64 n_3]]
 fun v => v = V.b b) ∧
 If b
 (∃ (a : Option (Nat × Nat)) (l : Nat) (c : Option Nat) (k : Nat) (h_1 : Heap), Zk UY h 31 31 (V.sl F G H I)
 (V.ts [V.i .i64 d] 1 (some 1)) =
 some (V.sl a l c k, h_1) ∧
 K .normal 27
 [.lb
 (vSD e f g j m o p q none r t u none w x),
 .lb [.i .i64 y, .ts z A none], .sl a l c k,
 .ts B C E, .i .i64 D,
 .i .i64 (IntKind.i64.wrap (d + (1 : Int)))]
 h_1)
 (K .normal 27
 [.lb
 (vSD e f g j m o p q none r t u none w x),
 .lb [.i .i64 y, .ts z A none], .sl F G H I,
 .ts B C E, .i .i64 D,
 .i .i64 (IntKind.i64.wrap (d + (1 : Int)))]
 h))
 (K (.exit 0) 27
 [.lb
 (vSD e f g j m o p q none r t u none w x),
 .lb [.i .i64 y, .ts z A none], .sl F G H I, .ts B C E,
 .i .i64 D, .i .i64 d]
 h)) := by kernel_rfl
theorem Zyk (a : Option (Nat × Nat)) (b : Nat) (c : Option Nat) (d : Nat) (h : Heap) (K : KT) : (Zc UY (UY.loc 181) 100 (((post (flat (Za Tryz.f181))).drop 1)) ⟨mk 27 (([5] : List Nat).zip [V.sl a b c d]), [], h⟩ (VQ [4] K)) =
 (K .ret 27 [.sl a b c d] h) := by kernel_rfl
theorem Zyl (a d e : Bool) (f g : Int) (j : List UInt8) (m : List V) (o : Nat) (q : List UInt8) (r : List V) (t : Nat) (u w : List UInt8) (x : Int) (y : List V) (z : Nat) (h : Heap) (K : KT) : (Zc UY (UY.loc 182) 100 ((flat (Za Tryz.f182))) ⟨(V.agg (vSD a d e f g j m o none q r t none u w) :: V.agg [V.i .i64 x, V.ts y z none] :: List.replicate 8 .undef), [], h⟩ (VQ [4] K)) =
 (∃ (b b_1 b_2 : Bool) (n n_1 : Int) (s : List UInt8) (cs : List V) (l : Nat) (c : Option Nat) (s_1 : List UInt8) (cs_1 : List V) (l_1 : Nat) (c_1 : Option Nat) (s_2 s_3 : List UInt8), Zj
 ((h.push
 (YObj.arr
 (vSD a d e f g j m o none q r t none u w)
 true)).push
 (YObj.arr [V.i .i64 x, V.ts y z none] true))
 h.nx 0 11 =
 some
 (vSD b b_1 b_2 n n_1 s cs l c s_1 cs_1 l_1 c_1 s_2 s_3) ∧
 ∃ (n_2 : Int) (cs_2 : List V) (l_2 : Nat) (c_2 : Option Nat), Zj
 ((h.push
 (YObj.arr
 (vSD a d e f g j m o none q r t none u w)
 true)).push
 (YObj.arr [V.i .i64 x, V.ts y z none] true))
 (h.nx + (1 : Nat)) 0 2 =
 some [V.i .i64 n_2, V.ts cs_2 l_2 c_2] ∧
 ∃ (cs_3 : List V) (l_3 : Nat) (c_3 : Option Nat), (PCon UY 220
 [V.agg
 (vSD b b_1 b_2 n n_1 s cs l c s_1 cs_1 l_1 c_1 s_2 s_3),
 V.agg [V.i .i64 n_2, V.ts cs_2 l_2 c_2]]
 fun v => v = V.ts cs_3 l_3 c_3) ∧
 Con UY 207
 [V.ts cs_3 l_3 c_3,
 V.fn (Fn.func (222 : Nat)) []
 [V.p (some (h.nx, 0)),
 V.p (some (h.nx + (1 : Nat), 0))]]
 ((h.push
 (YObj.arr
 (vSD a d e f g j m o none q r t none u w)
 true)).push
 (YObj.arr [V.i .i64 x, V.ts y z none]
 true))
 fun (v : V) (h' : Heap) =>
 ∃ (b : Bool), v = V.b b ∧ K .ret 10 [.b b] h') := by kernel_rfl
theorem Ztw (a : List V) (n0 c d : Nat) (h : Heap) (K : KT) : (Zc UY (UY.loc 207) 100 ((flat (Za Tryz.f207))) ⟨(V.ts a n0 none :: V.fn (Fn.func 222) [] [V.p (some (c, 0)), V.p (some (d, 0))] :: List.replicate 7 .undef), [], h⟩ (VQ [4] K)) =
 (Con UY 233
 [V.ts a n0 none, V.fn (Fn.func 222) [] [V.p (some (c, 0)), V.p (some (d, 0))]] h
 fun (v : V) (h' : Heap) => ∃ (n : Int), v = V.i .i64 n ∧ K .ret 9 [.b (leI 0 n)] h') := by kernel_rfl
theorem Ztx (a : List V) (n0 b c : Nat) (h : Heap) (K : KT) : (Zc UY (UY.loc 233) 100 (pre (flat (Za Tryz.f233))) ⟨(V.ts a n0 none :: V.fn (Fn.func 222) [] [V.p (some (b, 0)), V.p (some (c, 0))] :: List.replicate 17 .undef), [], h⟩ (VQ [0, 1, 7, 8] K)) =
 (K .normal 19
 [.ts a n0 none, .fn (Fn.func 222) [] [.p (some (b, 0)), .p (some (c, 0))],
 .i .i64 (n0 : Int), .i .i64 0]
 h) := by kernel_rfl
theorem Zty (a : List V) (n0 c d : Nat) (x8 : Int) (h : Heap) (K : KT) : (Zc UY (UY.loc 233) 100 ((flat (Zv (post (flat (Za Tryz.f233)))))) ⟨mk 19 (([0, 1, 7, 8] : List Nat).zip [V.ts a n0 none, V.fn (Fn.func 222) [] [V.p (some (c, 0)), V.p (some (d, 0))], V.i .i64 (n0 : Int), V.i .i64 x8]), [], h⟩ (VQ [0, 1, 4, 7, 8] K)) =
 (If (ltI x8 n0)
 ((0 ≤ x8 ∧ x8 < n0) ∧
 ∃ (n : Int) (s : List UInt8) (n_1 n_2 n_3 : Int), Zh 5 (List.drop (x8.toNat * 5) a) =
 some [V.i .i64 n, V.s s, V.i .i64 n_1, V.i .i64 n_2, V.i .i64 n_3] ∧
 ∃ (b : Bool),
 RCon UY 222
 [V.agg [V.i .i64 n, V.s s, V.i .i64 n_1, V.i .i64 n_2, V.i .i64 n_3],
 V.p (some (c, 0)), V.p (some (d, 0))]
 h (V.b b) ∧
 If b
 (K .ret 19
 [.ts a n0 none,
 .fn (Fn.func 222) [] [.p (some (c, 0)), .p (some (d, 0))],
 .i .i64 x8, .i .i64 (n0 : Int), .i .i64 x8]
 h)
 (K .normal 19
 [.ts a n0 none,
 .fn (Fn.func 222) [] [.p (some (c, 0)), .p (some (d, 0))],
 .undef, .i .i64 (n0 : Int), .i .i64 (IntKind.i64.wrap (x8 + (1 : Int)))]
 h))
 (K (.exit 0) 19
 [.ts a n0 none, .fn (Fn.func 222) [] [.p (some (c, 0)), .p (some (d, 0))],
 .undef, .i .i64 (n0 : Int), .i .i64 x8]
 h)) := by kernel_rfl
theorem Ztz (h : Heap) (K : KT) : (Zc UY (UY.loc 233) 100 (((post (flat (Za Tryz.f233))).drop 1)) ⟨mk 19 (([] : List Nat).zip []), [], h⟩ (VQ [4] K)) =
 (K .ret 19 [.i .i64 (-1)] h) := by kernel_rfl
theorem Zym (d : Int) (f : List UInt8) (e j m : Int) (a g : Nat) (h : Heap) (K : KT) : (Zc UY (UY.loc 222) 100 ((flat (Za Tryz.f222))) ⟨(V.agg [V.i .i64 d, V.s f, V.i .i64 e, V.i .i64 j, V.i .i64 m] :: V.p (some (a, 0)) :: V.p (some (g, 0)) :: List.replicate 28 .undef), [], h⟩ (VQ [4] K)) =
 (If (d == (3 : Int))
 (∃ (n : Int),
 Zj h a 4 1 = some [V.i .i64 n] ∧ K .ret 31 [.b (ltI n e)] h)
 (If (d == (1 : Int))
 (∃ (b b_1 b_2 : Bool) (n n_1 : Int) (s : List UInt8) (cs : List V) (l : Nat) (c : Option Nat) (s_1 : List UInt8) (cs_1 : List V) (l_1 : Nat) (c_1 : Option Nat) (s_2 s_3 : List UInt8), Zj h a 0 11 =
 some
 (vSD b b_1 b_2 n n_1 s cs l c s_1 cs_1 l_1 c_1 s_2 s_3) ∧
 ∃ (n_2 : Int) (cs_2 : List V) (l_2 : Nat) (c_2 : Option Nat), Zj h g 0 2 =
 some [V.i .i64 n_2, V.ts cs_2 l_2 c_2] ∧
 ∃ (n_3 : Int),
 (PCon UY 213
 [V.agg
 (vSD b b_1 b_2 n n_1 s cs l c s_1 cs_1 l_1 c_1 s_2 s_3),
 V.agg [V.i .i64 n_2, V.ts cs_2 l_2 c_2]]
 fun v => v = V.i .i64 n_3) ∧
 If (leI (↑f.length : Int) n_3)
 (∃ (n : Int),
 Zj h a 4 1 = some [V.i .i64 n] ∧
 K .ret 31 [.b (ltI n e)] h)
 (K .ret 31 [.b false] h))
 (K .ret 31 [.b false] h))) := by kernel_rfl
structure BdS (s : Side) : Prop where
 ag : s.ages.length < 2 ^ 20
 ln : s.lines.length < 2 ^ 20
 el : ∀ x ∈ s.lines, x.length < 2 ^ 20
 ty : s.typed.length < 2 ^ 20
 fl : s.fly.length < 2 ^ 20
/-! ### Tick -/
def ZE3 (s : Side) (m : Nat) (vs : List V) (h : Heap) : Prop :=
 ∃ (i : Nat) (a : Option (Nat × Nat)) (l : Nat) (c : Option Nat) (k : Nat), vs = [.lb (Zn s), .lb Zsy, .sl a l c k, .i .i64 (i : Nat)] ∧ i ≤ s.ages.length ∧ m = s.ages.length - i ∧ Lst encI 1 h a l c k ((s.ages.take i).map bump)

/-! ### small -/
/-! ### Longest, Short -/
theorem Zci {l : List Plc} {p : Int} (p0 : 0 ≤ p) (p1 : p < l.length) : ∃ x, l[p.toNat]? = some x ∧ Zh 1 (List.drop 2 (List.drop (p.toNat * 3) (row ZG l))) = some [lst encE x.edges] := by
 have hlt : p.toNat < l.length := by omega
 refine ⟨l[p.toNat], List.getElem?_eq_getElem hlt, ?_⟩
 rw [Xg QS l hlt]
 rfl
def ZFg (es : List Edge) (m : Nat) (vs : List V) (_ : Heap) : Prop :=
 ∃ i : Nat, vs = [.i .i64 (Zyf (es.take i)), lst encE es, .i .i64 es.length, .i .i64 (i : Nat)] ∧ i ≤ es.length ∧ m = es.length - i
/-! ### edges, open -/
theorem Zgv (s : Side) (cap : Int) (l : List Plc) (b : BdS s) : PCon UY 220 [.agg (Zn s), .agg (Xp cap l)] (· = lst encE (ZA s cap l)) := by
 refine Zz UK (fn := Tryz.f220) (by kernel_rfl) (by kernel_rfl) rfl (fun K => Zyg s.on s.shut s.eof s.place s.clock s.typed (row encT s.lines) s.lines.length s.fly (row encI s.ages) s.ages.length s.ready s.buffer cap (row ZG l) l.length .empty K) rfl ?_
 have b1 := b.ag
 have b2 := b.ln
 have nil : ∀ h, ZA s cap l = [] → Fin UY Tryz.f220 [4] (fun v h => ∃ r, Frz h v r ∧ r = lst encE (ZA s cap l)) .ret 25 [.sl none 0 (some 0) 0] h := by
  intro h he
  exact Zs (.inr rfl) rfl (.sln _ _ none (fun x hx => by cases hx)) (by rw [he]; rfl)
 refine ⟨_, Zgu s cap l (by omega) (by omega), Zd (fun h1 => nil _ ?_) (fun h1 => Zd (fun h2 => nil _ ?_) (fun h2 => Zd (fun h3 => nil _ ?_) (fun h3 => ?_)))⟩
 ·have h1 : Jd s l.length cap (Xm cap l) = false := by simpa using h1
  unfold ZA; rw [h1]; rfl
 ·have h2 : s.on = false := by simpa using h2
  unfold ZA; rw [h2]; simp
 ·unfold ZA; rw [h3]; simp
 ·have h1 : Jd s l.length cap (Xm cap l) = true := by simpa using h1
  have h2 : s.on = true := by simpa using h2
  obtain ⟨p0, p1, _, _⟩ := Zcf h1
  obtain ⟨x, hx, ht⟩ := Zci p0 p1
  have he : ZA s cap l = x.edges := by unfold ZA; rw [h1, h2, h3, hx]; rfl
  rw [he]
  exact ⟨⟨p0, p1⟩, row encE x.edges, x.edges.length, none, ht, Zs (.inr rfl) rfl (Qx _ _ _ _) rfl⟩

theorem Zqp (s : Side) (cap : Int) (l : List Plc) (e : Edge) (b : BdS s) : PCon UY 221 [.agg (Zn s), .agg (Xp cap l), .agg (encE e)] (· = .b (QX s cap e)) := by
 refine Zz UK (fn := Tryz.f221) (by kernel_rfl) (by kernel_rfl) rfl (fun K => Zyh s.on s.shut s.eof s.place s.clock s.typed (row encT s.lines) s.lines.length s.fly (row encI s.ages) s.ages.length s.ready s.buffer cap (row ZG l) l.length e.kind e.text e.lo e.hi e.to .empty K) rfl ?_
 have fin : ∀ x : Bool, x = QX s cap e → Fin UY Tryz.f221 [6] (fun v h => ∃ r, Frz h v r ∧ r = .b (QX s cap e)) .ret 55 [.b x] .empty := fun x hx => Zs (.inr rfl) rfl (.b _) (by rw [hx])
 refine Zd (fun k1 => Zd (fun h1 => ⟨_, Zbc s cap (row ZG l) l.length, fin _ ?_⟩) (fun h1 => fin _ ?_)) (fun k1 => Zd (fun k2 => ?_) (fun k2 => fin _ ?_))
 ·have k1 : e.kind = 1 := by simpa using k1
  unfold QX; rw [if_pos k1, h1]; rfl
 ·have k1 : e.kind = 1 := by simpa using k1
  unfold QX; rw [if_pos k1, h1]; rfl
 ·have k1 : e.kind ≠ 1 := by simpa using k1
  have k2 : e.kind = 2 := by simpa using k2
  have ho : QX s cap e = hitS s e := by unfold QX; rw [if_neg k1, if_pos k2]
  obtain ⟨a, er, hp⟩ := Zcg e.text
  refine ⟨_, _, Zns s, row encG (Wa e.text), (Wa e.text).length, none, a, er, (Zgo e.text).mono fun r hr => by rw [hr, hp], ?_⟩
  unfold Zcb
  cases hln : s.lines with
  | nil =>
   refine Zd (fun h => by cases h) (fun _ => fin _ ?_)
   rw [ho]; unfold hitS; rw [hln]
  | cons x r =>
   refine Zd (fun _ => ⟨_, Zn3 (Wa e.text) x (Zgt _) (by have := b.el x (by rw [hln]; simp); omega), fin _ ?_⟩) (fun h => by cases h)
   rw [ho]; unfold hitS; rw [hln]
 ·have k1 : e.kind ≠ 1 := by simpa using k1
  have k2 : e.kind ≠ 2 := by simpa using k2
  unfold QX; rw [if_neg k1, if_neg k2]

/-! ### Open -/
def ZB3 (s : Side) (cap : Int) (l : List Plc) (es : List Edge) (m : Nat) (vs : List V) (h : Heap) : Prop :=
 ∃ (i : Nat) (a : Option (Nat × Nat)) (n : Nat) (c : Option Nat) (k : Nat) (out : List Int), vs = [.lb (Zn s), .lb (Xp cap l), .sl a n c k, lst encE es, .i .i64 es.length, .i .i64 (i : Nat)] ∧ i ≤ es.length ∧ m = es.length - i ∧
  Lst encI 1 h a n c k out ∧ out.length ≤ i ∧ out ++ XV s cap (es.drop i) i = XV s cap es 0

theorem Zn4 (s : Side) (cap : Int) (l : List Plc) (b : BdS s) (hb : ∀ x ∈ l, x.edges.length < 2 ^ 20) : PCon UY 181 [.agg (Zn s), .agg (Xp cap l)] (· = lst encI (Zk7 s cap l)) := by
 refine Zt UK (fn := Tryz.f181) (by kernel_rfl) (by kernel_rfl) rfl ?_
 refine Zp UK 27 (fun K => Zyi s.on s.shut s.eof s.place s.clock s.typed (row encT s.lines) s.lines.length s.fly (row encI s.ages) s.ages.length s.ready s.buffer cap (row ZG l) l.length .empty K) rfl (by kernel_rfl) ?_
 have hes : (ZA s cap l).length < 2 ^ 20 := by
  unfold ZA
  split
  ·split
   ·rename_i x hx; exact hb x (List.mem_of_getElem? hx)
   ·decide
  ·decide
 have hE := Zgv s cap l b
 unfold Zk7
 generalize ZA s cap l = es at hes hE
 refine ⟨row encE es, es.length, none, hE, rfl, ZK [2, 3, 5, 10, 11, 12] [2, 3, 5, 10, 11, 12] rfl (by kernel_rfl) (ZB3 s cap l es) es.length Zu ⟨0, none, 0, some 0, 0, [], rfl, by omega, by omega, Lst.nil _ _ _ _ _, by simp, rfl⟩ ?_⟩
 rintro m vs h ⟨i, a, n, c, k, out, rfl, hi, rfl, hL, ho, hr⟩
 refine Zq UK (fun K => Zyj s.on s.shut s.eof s.place s.clock s.typed (row encT s.lines) s.lines.length s.fly (row encI s.ages) s.ages.length s.ready s.buffer cap (row ZG l) l.length none (row encE es) es.length (es.length : Nat) a n c k (i : Nat) h K) rfl ?_
 refine Zg (fun hlt => ?_) (fun hge => ?_)
 ·rw [List.drop_eq_getElem_cons hlt, XV] at hr
  refine ⟨bnd_nat hlt, _, _, _, _, _, by rw [Int.toNat_natCast]; exact Zr (f := encE) (k := 5) JS hlt, _, Zqp s cap l es[i] b, Zd (fun hc => ?_) (fun hc => ?_)⟩
  ·rw [hc, if_pos rfl] at hr
   obtain ⟨a', n', c', k', h', q1, q2, _, _⟩ := JF out (i : Nat) hL (by omega)
   refine ⟨a', n', c', k', h', q1, rfl, es.length - (i + 1), by omega, i + 1, a', n', c', k', out ++ [((i : Nat) : Int)], by rw [Zf (by omega)]; rfl, by omega, rfl, q2, by simp; omega, ?_⟩
   rw [List.append_assoc]; exact hr
  ·rw [hc] at hr
   exact ⟨rfl, es.length - (i + 1), by omega, i + 1, a, n, c, k, out, by rw [Zf (by omega)]; rfl, by omega, rfl, hL, by omega, hr⟩
 ·refine Ze [5] (by kernel_rfl) rfl rfl ?_
  refine ZB UK (fun K => Zyk a n c k h K) rfl ?_
  rw [List.drop_of_length_le hge, XV, List.append_nil] at hr
  rw [← hr]
  exact Zs (.inr rfl) rfl (hL.frz (by decide) ZV) rfl

/-! ### Do -/
end Go.Y
