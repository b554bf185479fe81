/- souffleurref16.May of a side that is off, by its contract. -/
import Derived.Test.YtkcgmnhojldoiaaGreatGPipe4
import Derived.Test.YtkcgmnhojldoiaaGreatGTree
import Derived.Test.YtkcgmnhojldoiaaGreatYTryzP
import Derived.Test.YtkcgmnhojldoiaaGreatYLoop
import Derived.Test.YtkcgmnhojldoiaaGreatYRow
namespace Go.Y
open Go.Proofs
set_option maxRecDepth 1000000
set_option maxHeartbeats 0
theorem Zih (s : Side) (cap : Int) (cs : List V) (np : Nat) (pm : Bool) (hp : PCon UY 60 [.agg [.i .i64 cap, .ts cs np none]] (· = .b pm)) (hl : s.ages.length < 2 ^ 30) (hon : s.on = false) (hty : s.typed.length < 2 ^ 30) (hll : ∀ x ∈ s.lines, x.length < 2 ^ 30) (hlb : s.lines.length < 2 ^ 30) :
    PCon UY 62 [.agg (Zn s), .agg [.i .i64 cap, .ts cs np none]] (· = .b (ZO s np cap pm)) := by
  refine Zt UK (fn := Tryz.f62) (by kernel_rfl) (by kernel_rfl) rfl ?_
  refine Zp UK 153 (fun K => Zwt s.on s.shut s.eof s.place s.clock s.typed (row encT s.lines) s.lines.length s.fly (row encI s.ages) s.ages.length s.ready s.buffer cap cs np .empty K) rfl (by kernel_rfl) ?_
  have no : ∀ h, false = ZO s np cap pm → ∃ r, Frz h (.b false) r ∧ r = .b (ZO s np cap pm) := fun h e => ⟨_, .b _, by rw [e]⟩
  refine ⟨pm, hp, Zd (fun h1 => Zl (.inr rfl) rfl (no _ (by simp at h1; simp [ZO, h1]))) (fun h1 => ?_)⟩
  have h1 : pm = true := by simpa using h1
  refine Zw (fun h2 => Zl (.inr rfl) rfl (no _ (by have : ¬ 0 ≤ s.place := by omega
                                                   simp [ZO, this]))) (fun h2 => ?_)
  refine Qz (fun h3 => Zl (.inr rfl) rfl (no _ (by have : ¬ s.place < np := by omega
                                                   simp [ZO, this]))) (fun h3 => ?_)
  refine Zw (fun h4 => Zl (.inr rfl) rfl (no _ (by have : ¬ 0 ≤ s.clock := by omega
                                                   simp [ZO, this]))) (fun h4 => ?_)
  refine ⟨_, VG s.typed hty, Zd (fun h5 => Zl (.inr rfl) rfl (no _ (by simp at h5; simp [ZO, h5]))) (fun h5 => ?_)⟩
  have h5 : XU s.typed = true := by simpa using h5
  refine Zw (fun h6 => Zl (.inr rfl) rfl (no _ (by have : ¬ s.lines.length ≤ 2 := by omega
                                                   simp [ZO, this]))) (fun h6 => ?_)
  refine ⟨rfl, ZK [2, 3, 5, 7, 9, 11, 13, 16] [2, 3, 4, 5, 7, 9, 11, 13, 16] rfl (by kernel_rfl) (R1I s cap cs np) s.lines.length Zu ⟨0, by rw [h1]; rfl, by omega, by omega, rfl⟩ ?_⟩
  rintro m vs h ⟨i, rfl, hi, rfl, hli⟩
  refine Zq UK (fun K => Zwu s.place s.clock s.typed (row encT s.lines) s.lines.length s.fly (row encI s.ages) s.ages.length s.ready s.buffer cap cs np s.on s.shut s.eof false (ltI s.place 0) (i : Nat) h K) rfl ?_
  refine Zg (fun hlt => ?_) (fun hge => ?_)
  · refine ⟨bnd_nat hlt, s.lines[i], by rw [Int.toNat_natCast]; exact Zr (f := encT) (k := 1) JR hlt, _, VG s.lines[i] (hll _ (List.getElem_mem hlt)), Zd (fun hc => ?_) (fun hc => ?_)⟩
    · have : s.lines.all XU = false := by
        rw [List.all_eq_false]
        exact ⟨_, List.getElem_mem hlt, by simpa using hc⟩
      exact Zl (.inr rfl) rfl (no _ (by simp only [ZO, this, Bool.and_false, Bool.false_and]))
    · refine ⟨rfl, s.lines.length - (i + 1), by omega, i + 1, by rw [Zf (by omega)]; rfl, by omega, rfl, ?_⟩
      rw [List.take_succ_eq_append_getElem hlt, List.all_append, hli]
      simpa using hc
  refine Ze [2, 3, 7, 9, 11, 13, 16] (by kernel_rfl) rfl rfl ?_
  rw [List.take_of_length_le hge] at hli
  refine Zp UK 153 (fun K => Zwv s.place s.clock (row encT s.lines) s.lines.length (row encI s.ages) s.ages.length cap cs np s.on s.shut s.eof s.typed s.fly s.ready s.buffer false (ltI s.place 0) h K) rfl (by kernel_rfl) ?_
  refine Zd (fun h7 => Zl (.inr rfl) rfl (no _ (by have : ¬ s.ages.length = s.fly.length := fun e => by simp [e] at h7
                                                   have : QW s = false := by simp [QW, this]
                                                   simp only [ZO, this, Bool.and_false, Bool.false_and]))) (fun h7 => ?_)
  have h7 : s.ages.length = s.fly.length := by simp at h7; omega
  refine ⟨_, Zb9 s cap cs np, Zw (fun h9 => Zl (.inr rfl) rfl (no _ (by have : ¬ 0 ≤ Jn s cap := by omega
                                                                        simp [ZO, this]))) (fun h9 => ?_)⟩
  refine Zw (fun h10 => Zl (.inr rfl) rfl (no _ (by have : ¬ s.buffer.length ≤ 64 := by omega
                                                    simp [ZO, this]))) (fun h10 => ?_)
  refine ⟨rfl, ZK [2, 3, 6, 9, 11, 16] [2, 3, 4, 6, 9, 11, 16] rfl (by kernel_rfl) (R2I s cap cs np) s.ages.length Zu ⟨0, rfl, by omega, by omega, rfl⟩ ?_⟩
  rintro m vs h ⟨i, rfl, hi, rfl, hok⟩
  refine Zq UK (fun K => Zww s.place s.clock (row encT s.lines) s.lines.length (row encI s.ages) s.ages.length cap cs np s.on s.shut s.eof s.typed s.fly s.ready s.buffer false (i : Nat) h K) rfl ?_
  have no2 : i < s.ages.length → Jc s.ages i = false → ∃ r, Frz h (.b false) r ∧ r = .b (ZO s np cap pm) := fun hlt ho => no h (by
    have : QW s = false := by simp [QW, Zig hlt ho]
    simp only [ZO, this, Bool.and_false, Bool.false_and])
  refine Zg (fun hlt => ?_) (fun hge => ?_)
  · have hge : s.ages[i]? = some s.ages[i] := List.getElem?_eq_getElem hlt
    have hget : Zh 1 (List.drop ((i : Int).toNat * 1) (row encI s.ages)) = some (encI s.ages[i]) := by rw [Int.toNat_natCast]; exact Zr (f := encI) (k := 1) ZV hlt
    have next : Jc s.ages i = true → _ ∧ _ := fun ho => (⟨(rfl : (153 : Nat) = 153), (⟨s.ages.length - (i + 1), by omega, i + 1, by rw [Zf (by omega)], by omega, rfl, Xj hok ho⟩ : ∃ m', m' < s.ages.length - i ∧ R2I s cap cs np m' [.lb (Zn s), .lb [.i .i64 cap, .ts cs np none], .i .i64 (IntKind.i64.wrap ((i : Nat) + 1)), .b false, .rf, .rf] h)⟩)
    refine ⟨bnd_nat hlt, s.ages[i], hget, Zw (fun hneg => ?_) (fun hnn => Zw (fun hpos => ?_) (fun hz => ?_))⟩
    · exact Zl (.inr rfl) rfl (no2 hlt (by unfold Jc; rw [hge]; simp; omega))
    · refine ⟨bnd_nat hlt, s.ages[i], hget, ?_⟩
      obtain ⟨k, rfl⟩ : ∃ k, i = k + 1 := ⟨i - 1, by omega⟩
      have hw : IntKind.i64.wrap (((k + 1 : Nat) : Int) - 1) = (k : Nat) := by rw [Xu (by omega) (by omega)]; omega
      have hlt' : k < s.ages.length := by omega
      have hgk : s.ages[k]? = some s.ages[k] := List.getElem?_eq_getElem hlt'
      rw [hw]
      refine ⟨bnd_nat hlt', s.ages[k], by rw [Int.toNat_natCast]; exact Zr (f := encI) (k := 1) ZV hlt', Zw (fun hgt => ?_) (fun hle => ?_)⟩
      · exact Zl (.inr rfl) rfl (no2 hlt (by unfold Jc; rw [hge]; simp [hgk]; omega))
      · exact next (by unfold Jc; rw [hge]; simp [hgk]; omega)
    · have : i = 0 := by omega
      subst this
      exact next (by unfold Jc; rw [hge]; simp; omega)
  refine Ze [2, 3, 6, 11, 16] (by kernel_rfl) rfl rfl ?_
  refine Zm UK (loc := UY.loc 62) 100 [4] ?_
  have hi' : i = s.ages.length := by omega
  subst hi'
  refine Eq.mpr (Zwx s.place s.clock (row encT s.lines) s.lines.length (row encI s.ages) s.ages.length cap cs np (s.ages.length : Nat) s.on s.shut s.eof s.typed s.fly s.ready s.buffer h _) ?_
  have h8 : QW s = true := by unfold QW Ze6; rw [hok]; simp [h7]
  have e : ZO s np cap pm = decide (s = XM) := by
    have g2 : 0 ≤ s.place := by omega
    have g3 : s.place < np := by omega
    have g4 : 0 ≤ s.clock := by omega
    have g6 : s.lines.length ≤ 2 := by omega
    have g9 : 0 ≤ Jn s cap := by omega
    have g10 : s.buffer.length ≤ 64 := by omega
    simp only [ZO, h1, h5, hli, h8, g2, g3, g4, g6, g9, g10, decide_true, Bool.true_and]
  have fin : ∀ (b : Bool) (h : Heap), b = decide (s = XM) → Fin UY Tryz.f62 [4] (fun v h => ∃ r, Frz h v r ∧ r = .b (ZO s np cap pm)) .ret 153 [.b b] h := fun b h e2 => Zs (.inr rfl) rfl (.b _) (by rw [e2, e])
  generalize Fin UY Tryz.f62 [4] (fun v h => ∃ r, Frz h v r ∧ r = .b (ZO s np cap pm)) = K at fin ⊢
  refine Zd (fun _ => ⟨_, (Ze7 s XM hlb hl).wk ?_, Zd (fun h => fin _ _ ?_) (fun h => ?_)⟩) (fun h => by rw [hon] at h; cases h)
  · have wn : Wk0 (.sl none 0 (some 0) 0) (.ts [] 0 none) := .inr (.inl ⟨_, _, _, rfl, rfl, fun x hx => by cases hx⟩)
    exact .agg _ _ _ _ (WkL.refl _) (.agg _ _ _ _ (.cons _ _ _ _ (.refl _) (.cons _ _ _ _ (.refl _) (.cons _ _ _ _ (.refl _) (.cons _ _ _ _ (.refl _) (.cons _ _ _ _ (.refl _) (.cons _ _ _ _ (.refl _) (.cons _ _ _ _ wn (.cons _ _ _ _ (.refl _) (.cons _ _ _ _ wn (WkL.refl _)))))))))) .nil)
  · simpa using h
  · have e0 : s = XM := by simpa using h
    have t : true = decide (s = XM) := by simp [e0]
    exact Zd (fun hs => by rw [e0] at hs; cases hs) (fun _ => Zd (fun _ => fin _ _ t) (fun hs => by rw [e0] at hs; cases hs))
def Zxn (l : List Plc) (p : Int) : Bool := match l[p.toNat]? with
 | some x => x.echo
 | none => false
def Zxo (s : Side) (cap : Int) (l : List Plc) (t : List UInt8) : Side := if Zxn l s.place then (Zr6 s cap t).1 else s
def ZBy (s : Side) (cap : Int) (l : List Plc) (c : UInt8) : Option Side :=
 if c = 10 then if 2 ≤ s.lines.length then none else some (Zxo { s with lines := s.lines ++ [s.typed], typed := [] } cap l [13, 10])
 else if s.typed.length < 16 then some (Zxo { s with typed := s.typed ++ [c] } cap l [c]) else some s
def Zxp (cap : Int) (l : List Plc) : List UInt8 → Side → Option Side
 | [], s => some s
 | c :: r, s => match ZBy s cap l c with
  | none => none
  | some s' => Zxp cap l r s'
def Jd (s : Side) (np : Nat) (cap : Int) (pm : Bool) : Bool := if s.on then Xk s np cap pm else ZO s np cap pm
def ZFe (s : Side) (cap : Int) (l : List Plc) (t : List UInt8) : Side × Int :=
 if Jd s l.length cap (Xm cap l) = false then (XM, 5) else if s.on = false then (XM, 11) else if s.shut then (XM, 13) else match Zxp cap l t s with
  | none => (XM, 9)
  | some s' => (s', 0)

structure OkS (s : Side) (cap : Int) (np : Nat) : Prop where
 on : s.on = true
 shut : s.shut = false
 eof : s.eof = false
 p0 : 0 ≤ s.place
 p1 : s.place < np
 c0 : 0 ≤ s.clock
 ty : XU s.typed = true
 ln : s.lines.length ≤ 2
 la : s.lines.all XU = true
 ag : s.ages.length = s.fly.length
 dn : Ze6 s.ages = true
 rm : ((s.fly.length + s.ready.length : Nat) : Int) ≤ cap
 bu : s.buffer.length ≤ 64
theorem Zxq (d e f : Bool) (g j : Int) (l : List UInt8) (c : List V) (a : Nat) (m : List UInt8) (n : List V) (o : Nat) (p q : List UInt8) (h : Heap) (K : KT) : (Zc UY (UY.loc 250) 100 ((flat (Za Tryz.f250))) ⟨(V.agg (vSD d e f g j l c a none m n o none p q) :: List.replicate 11 .undef), [], h⟩ (VQ [2, 3] K)) =
 (If ((↑a : Int) == (0 : Int)) (K .ret 12 [.s #[].toList, .b false] h)
 (((0 : Int) ≤ (0 : Int) ∧ (0 : Int) < (a : Int)) ∧
 ∃ (s : List UInt8), Zh 1 c = some [V.s s] ∧ K .ret 12 [.s s, .b true] h)) := by kernel_rfl
def Zxr (s : Side) : Side × Int := match s.lines with
 | [] => (XM, 10)
 | _ :: r => ({ s with lines := r }, 0)

def Zcb (s : Side) : List UInt8 × Bool := match s.lines with
 | [] => ([], false)
 | a :: _ => (a, true)
theorem Zns (s : Side) : PCon UY 250 [.agg (Zn s)] (· = .tup [.s (Zcb s).1, .b (Zcb s).2]) := by
 refine Zt UK (fn := Tryz.f250) (by kernel_rfl) (by kernel_rfl) rfl (Zm UK (loc := UY.loc 250) 100 [2, 3] ?_)
 refine Eq.mpr (Zxq s.on s.shut s.eof s.place s.clock s.typed (row encT s.lines) s.lines.length s.fly (row encI s.ages) s.ages.length s.ready s.buffer .empty _) ?_
 cases hln : s.lines with
 | nil =>
  have e : Zcb s = ([], false) := by unfold Zcb; rw [hln]
  rw [e]
  exact Zd (fun _ => Zh8 (.inr rfl) rfl (.s _) (.b _) rfl) (fun h => by simp at h)
 | cons a r =>
  have e : Zcb s = (a, true) := by unfold Zcb; rw [hln]
  rw [e]
  exact Zd (fun h => by simp at h; omega) (fun _ => ⟨⟨by omega, by simp⟩, a, rfl, Zh8 (.inr rfl) rfl (.s _) (.b _) rfl⟩)
end Go.Y
namespace Go.Y
set_option maxRecDepth 1000000
set_option maxHeartbeats 0
def Wd (g : Glob) (c : Int) : Bool := if g.k = 0 then g.b == c else g.k == 1 || g.sp.any fun x => leI x.lo c && leI c x.hi

def M : List Glob → List UInt8 → Bool
 | [], [] => true
 | [], _ :: _ => false
 | g :: l, [] => g.k == 2 && M l []
 | g :: l, c :: r => if g.k = 2 then M l (c :: r) || M (g :: l) r else Wd g c.toNat && M l r
termination_by l s => (l.length, s.length)

theorem Zdo (g : Glob) (hg : g.k = 2) (l : List Glob) (s : List UInt8) : M (g :: l) s = true ↔ ∃ t, t <:+ s ∧ M l t = true := by
 induction s with
 | nil =>
  rw [M, hg]
  simp
 | cons c r ih =>
  rw [M, if_pos hg]
  simp only [Bool.or_eq_true, ih]
  constructor
  ·rintro (h | ⟨t, h1, h2⟩)
   ·exact ⟨_, List.suffix_refl _, h⟩
   ·exact ⟨t, h1.trans (List.suffix_cons c r), h2⟩
  ·rintro ⟨t, h1, h2⟩
   rcases List.suffix_cons_iff.1 h1 with rfl | h1
   ·exact .inl h2
   ·exact .inr ⟨t, h1, h2⟩

theorem Znt (g : Glob) (hg : g.k ≠ 2) (l : List Glob) (s : List UInt8) : M (g :: l) s = true ↔ ∃ c r, s = c :: r ∧ Wd g c.toNat = true ∧ M l r = true := by
 cases s with
 | nil => rw [M]; simp [hg]
 | cons c r =>
  rw [M, if_neg hg, Bool.and_eq_true]
  exact ⟨fun h => ⟨c, r, rfl, h⟩, fun ⟨c', r', he, h⟩ => by cases he; exact h⟩

theorem JT : ∀ (l m : List Glob) (s : List UInt8), M (l ++ m) s = true ↔ ∃ a b, s = a ++ b ∧ M l a = true ∧ M m b = true
 | [], m, s => by
  rw [List.nil_append]
  constructor
  ·intro h; exact ⟨[], s, rfl, by rw [M], h⟩
  ·rintro ⟨a, b, rfl, h1, h2⟩
   cases a with
   | nil => exact h2
   | cons c r => rw [M] at h1; cases h1
 | g :: l, m, s => by
  rw [List.cons_append]
  by_cases hg : g.k = 2
  ·rw [Zdo g hg]
   constructor
   ·rintro ⟨t, ⟨p, rfl⟩, h2⟩
    obtain ⟨a, b, rfl, h3, h4⟩ := (JT l m t).1 h2
    exact ⟨p ++ a, b, by simp, (Zdo g hg l (p ++ a)).2 ⟨a, List.suffix_append p a, h3⟩, h4⟩
   ·rintro ⟨a, b, rfl, h1, h2⟩
    obtain ⟨t, ⟨p, rfl⟩, h3⟩ := (Zdo g hg l a).1 h1
    exact ⟨t ++ b, ⟨p, by simp⟩, (JT l m (t ++ b)).2 ⟨t, b, rfl, h3, h2⟩⟩
  ·rw [Znt g hg]
   constructor
   ·rintro ⟨c, r, rfl, h1, h2⟩
    obtain ⟨a, b, rfl, h3, h4⟩ := (JT l m r).1 h2
    exact ⟨c :: a, b, rfl, (Znt g hg l (c :: a)).2 ⟨c, a, rfl, h1, h3⟩, h4⟩
   ·rintro ⟨a, b, rfl, h1, h2⟩
    obtain ⟨c, r, rfl, h3, h4⟩ := (Znt g hg l a).1 h1
    exact ⟨c, r ++ b, rfl, h3, (JT l m (r ++ b)).2 ⟨r, b, rfl, h4, h2⟩⟩

theorem Zcc (g : Glob) (hg : g.k = 2) (l : List Glob) (c : UInt8) (r : List UInt8) : M (g :: l) (c :: r) = (M l (c :: r) || M (g :: l) r) := by rw [M, if_pos hg]
theorem Zaf (g : Glob) (hg : g.k ≠ 2) (l : List Glob) (c : UInt8) (r : List UInt8) : M (g :: l) (c :: r) = (Wd g c.toNat && M l r) := by rw [M, if_neg hg]
theorem Zk5 (s : List UInt8) : M [] s = s.isEmpty := by cases s <;> rw [M] <;> rfl
theorem Znu (l : List Glob) : M l [] = l.all fun g => g.k == 2 := by
 induction l with
 | nil => rw [M]; rfl
 | cons g l ih => rw [M, ih]; rfl

def star (l : List Glob) (s : List UInt8) : Bool := M (⟨2, 0, []⟩ :: l) s
theorem Zbd (l : List Glob) (s : List UInt8) : star l s = true ↔ ∃ t, t <:+ s ∧ M l t = true := Zdo _ rfl _ _
theorem Znv (g : Glob) (hg : g.k = 2) (l : List Glob) (s : List UInt8) : M (g :: l) s = star l s := by
 rw [Bool.eq_iff_iff, Zbd, Zdo g hg]
theorem Ztf {l : List Glob} {s t : List UInt8} (h : t <:+ s) (hs : star l t = true) : star l s = true := by
 rw [Zbd] at hs ⊢
 obtain ⟨u, h1, h2⟩ := hs
 exact ⟨u, h1.trans h, h2⟩

theorem Zii : ∀ (p : List Glob) (q : List Glob) (s : List UInt8), (∀ g ∈ p, g.k ≠ 2) → M (p ++ q) s = true → p.length ≤ s.length ∧ M q (s.drop p.length) = true
 | [], q, s, _, h => ⟨Nat.zero_le _, by simpa using h⟩
 | g :: p, q, s, hp, h => by
  rw [List.cons_append, Znt g (hp g (by simp))] at h
  obtain ⟨c, r, rfl, _, h2⟩ := h
  obtain ⟨h3, h4⟩ := Zii p q r (fun x hx => hp x (by simp [hx])) h2
  exact ⟨by simp; omega, by simpa using h4⟩

def goal (l : List Glob) (s : List UInt8) (i k : Nat) (many : Option (Nat × Nat)) : Bool :=
 M (l.drop i) (s.drop k) || match many with
  | none => false
  | some (q, f) => star (l.drop q) (s.drop (f + 1))

def Ztg (l : List Glob) (i k : Nat) (many : Option (Nat × Nat)) : Prop := match many with
 | none => True
 | some (q, f) => q ≤ i ∧ k = f + (i - q) ∧ ∀ j g, q ≤ j → j < i → l[j]? = some g → g.k ≠ 2

theorem Znw {l : List Glob} {s : List UInt8} {i k : Nat} {many : Option (Nat × Nat)} (hi : i < l.length) (hg : l[i].k = 2) (hk : k < s.length) (hw : Ztg l i k many) :
  goal l s i k many = goal l s (i + 1) k (some (i + 1, k)) := by
 have e1 : M (l.drop i) (s.drop k) = star (l.drop (i + 1)) (s.drop k) := by rw [List.drop_eq_getElem_cons hi]; exact Znv _ hg _ _
 have e2 : star (l.drop (i + 1)) (s.drop k) = (M (l.drop (i + 1)) (s.drop k) || star (l.drop (i + 1)) (s.drop (k + 1))) := by
  rw [List.drop_eq_getElem_cons hk]
  exact Zcc _ rfl _ _ _
 unfold goal
 rw [e1]
 simp only
 rw [← e2]
 cases many with
 | none => simp
 | some qf =>
  obtain ⟨q, f⟩ := qf
  obtain ⟨h1, h2, h3⟩ := hw
  simp only
  rw [Bool.eq_iff_iff, Bool.or_eq_true]
  refine ⟨fun h => h.elim id fun h => ?_, .inl⟩
  rw [Zbd] at h
  obtain ⟨t, ht, hm⟩ := h
  have hsplit : l.drop q = (l.drop q).take (i - q) ++ l.drop i := by
   have := List.take_append_drop (i - q) (l.drop q)
   rw [List.drop_drop, show q + (i - q) = i by omega] at this
   exact this.symm
  rw [hsplit] at hm
  obtain ⟨h5, h6⟩ := Zii _ _ _ (fun g hg => by
   obtain ⟨j, hj, rfl⟩ := List.mem_iff_getElem.1 hg
   simp only [List.length_take, List.length_drop] at hj
   have : ((l.drop q).take (i - q))[j]? = l[q + j]? := by rw [List.getElem?_take_of_lt (by omega), List.getElem?_drop]
   refine h3 (q + j) _ (by omega) (by omega) ?_
   rw [← this]; exact List.getElem?_eq_getElem _) hm
  have hlen : ((l.drop q).take (i - q)).length = i - q := by simp; omega
  rw [hlen] at h5 h6
  rw [List.drop_eq_getElem_cons hi, Znv _ hg] at h6
  refine Ztf ?_ h6
  obtain ⟨p, hp⟩ := ht
  have hpl : p.length + t.length = s.length - (f + 1) := by
   have := congrArg List.length hp
   simpa using this
  refine ⟨(s.drop k).take (p.length + 1), ?_⟩
  have e3 : t.drop (i - q) = (s.drop k).drop (p.length + 1) := by
   have : t = s.drop (f + 1 + p.length) := by
    rw [← List.drop_drop, ← hp]; simp
   rw [this, List.drop_drop, List.drop_drop]
   congr 1; omega
  rw [e3, List.take_append_drop]

theorem Znx {l : List Glob} {s : List UInt8} {i k : Nat} {many : Option (Nat × Nat)} (hi : i < l.length) (hg : l[i].k ≠ 2) (hk : k < s.length) (hf : Wd l[i] s[k].toNat = true) : goal l s i k many = goal l s (i + 1) (k + 1) many := by
 unfold goal
 rw [List.drop_eq_getElem_cons hi, List.drop_eq_getElem_cons hk, Zaf _ hg, hf, Bool.true_and]

theorem Zny {l : List Glob} {s : List UInt8} {i k q f : Nat} (hk : k < s.length) (hno : ∀ (h : i < l.length), l[i].k ≠ 2 ∧ Wd l[i] s[k].toNat = false) :
  goal l s i k (some (q, f)) = goal l s q (f + 1) (some (q, f + 1)) := by
 have e1 : M (l.drop i) (s.drop k) = false := by
  rw [List.drop_eq_getElem_cons hk]
  by_cases hi : i < l.length
  ·obtain ⟨h1, h2⟩ := hno hi
   rw [List.drop_eq_getElem_cons hi, Zaf _ h1, h2, Bool.false_and]
  ·rw [List.drop_of_length_le (by omega), Zk5]; rfl
 unfold goal
 rw [e1, Bool.false_or]
 simp only
 by_cases hfl : f + 1 < s.length
 ·rw [List.drop_eq_getElem_cons hfl]
  exact Zcc _ rfl _ _ _
 ·rw [show s.drop (f + 1) = [] from List.drop_of_length_le (by omega), show s.drop (f + 1 + 1) = [] from List.drop_of_length_le (by omega)]
  unfold star
  rw [M]
  simp
theorem Znz {l : List Glob} {s : List UInt8} {i k : Nat} (hk : k < s.length) (hno : ∀ (h : i < l.length), l[i].k ≠ 2 ∧ Wd l[i] s[k].toNat = false) : goal l s i k none = false := by
 unfold goal
 rw [Bool.or_false, List.drop_eq_getElem_cons hk]
 by_cases hi : i < l.length
 ·obtain ⟨h1, h2⟩ := hno hi
  rw [List.drop_eq_getElem_cons hi, Zaf _ h1, h2, Bool.false_and]
 ·rw [List.drop_of_length_le (by omega), Zk5]; rfl

theorem Zqe {l : List Glob} {s : List UInt8} {i k : Nat} {many : Option (Nat × Nat)} (hk : k = s.length) (hw : Ztg l i k many) : goal l s i k many = (l.drop i).all fun g => g.k == 2 := by
 have e1 : M (l.drop i) (s.drop k) = (l.drop i).all fun g => g.k == 2 := by
  rw [show s.drop k = [] from List.drop_of_length_le (by omega), Znu]
 unfold goal
 rw [e1]
 cases many with
 | none => simp
 | some qf =>
  obtain ⟨q, f⟩ := qf
  obtain ⟨h1, h2, h3⟩ := hw
  simp only
  rw [Bool.eq_iff_iff, Bool.or_eq_true]
  refine ⟨fun h => h.elim id fun h => ?_, .inl⟩
  rw [Zbd] at h
  obtain ⟨t, ht, hm⟩ := h
  have htl : t.length ≤ s.length - (f + 1) := by
   have := ht.length_le
   simpa using this
  by_cases hil : i ≤ l.length
  ·have hsplit : l.drop q = (l.drop q).take (i - q) ++ l.drop i := by
    have := List.take_append_drop (i - q) (l.drop q)
    rw [List.drop_drop, show q + (i - q) = i by omega] at this
    exact this.symm
   rw [hsplit] at hm
   obtain ⟨h5, h6⟩ := Zii _ _ _ (fun g hg => by
    obtain ⟨j, hj, rfl⟩ := List.mem_iff_getElem.1 hg
    simp only [List.length_take, List.length_drop] at hj
    have : ((l.drop q).take (i - q))[j]? = l[q + j]? := by rw [List.getElem?_take_of_lt (by omega), List.getElem?_drop]
    refine h3 (q + j) _ (by omega) (by omega) ?_
    rw [← this]; exact List.getElem?_eq_getElem _) hm
   have hlen : ((l.drop q).take (i - q)).length = i - q := by simp; omega
   rw [hlen] at h5
   -- too few bytes are left
   by_cases hz : i = q
   ·subst hz
    have : t = [] := by
     apply List.eq_nil_of_length_eq_zero
     omega
    subst this
    simp only [Nat.sub_self, List.take_zero, List.length_nil, List.drop_nil] at h6
    rw [Znu] at h6
    exact h6
   ·omega
  ·rw [List.drop_of_length_le (by omega)]; rfl
theorem Zn0 (g : Glob) (hg : g.k ≠ 2) (q : List UInt8) : M [g] q = true ↔ ∃ c, q = [c] ∧ Wd g c.toNat = true := by
 rw [Znt g hg]
 constructor
 ·rintro ⟨c, r, rfl, h1, h2⟩
  rw [Zk5] at h2
  cases r with
  | nil => exact ⟨c, rfl, h1⟩
  | cons _ _ => cases h2
 ·rintro ⟨c, rfl, h⟩; exact ⟨c, [], rfl, h, by rw [Zk5]; rfl⟩
theorem Zth (g : Glob) (hg : g.k = 2) (q : List UInt8) : M [g] q = true := (Zdo g hg [] q).2 ⟨[], List.nil_suffix, by rw [Zk5]; rfl⟩

theorem Vh (a : List Glob) (g : Glob) (hg : g.k = 2) (s : List UInt8) : M (a ++ [g]) s = true ↔ ∃ p, p <+: s ∧ M a p = true := by
 rw [JT]
 exact ⟨fun ⟨p, q, h1, h2, _⟩ => ⟨p, ⟨q, h1.symm⟩, h2⟩, fun ⟨p, ⟨q, h1⟩, h2⟩ => ⟨p, q, h1.symm, h2, Zth g hg q⟩⟩

theorem Zcd (a : List Glob) (g : Glob) (hg : g.k = 2) : M (a ++ [g]) [] = M a [] := by
 rw [Bool.eq_iff_iff, Vh a g hg]
 exact ⟨fun ⟨p, h1, h2⟩ => by rw [List.prefix_nil.1 h1] at h2; exact h2, fun h => ⟨[], List.prefix_refl _, h⟩⟩
theorem Za2 (a : List Glob) (g : Glob) (hg : g.k = 2) (t : List UInt8) (c : UInt8) : M (a ++ [g]) (t ++ [c]) = (M a (t ++ [c]) || M (a ++ [g]) t) := by
 rw [Bool.eq_iff_iff, Bool.or_eq_true, Vh a g hg, Vh a g hg]
 constructor
 ·rintro ⟨p, h1, h2⟩
  rcases List.prefix_concat_iff.1 h1 with rfl | h1
  ·exact .inl h2
  ·exact .inr ⟨p, h1, h2⟩
 ·rintro (h | ⟨p, h1, h2⟩)
  ·exact ⟨_, List.prefix_refl _, h⟩
  ·exact ⟨p, h1.trans (List.prefix_append t [c]), h2⟩
theorem Zc2 (a : List Glob) (g : Glob) (hg : g.k ≠ 2) : M (a ++ [g]) [] = false := by
 rw [Bool.eq_false_iff]
 intro h
 obtain ⟨p, q, h1, _, h3⟩ := (JT a [g] []).1 h
 obtain ⟨c, rfl, _⟩ := (Zn0 g hg q).1 h3
 simp at h1
theorem Zce (a : List Glob) (g : Glob) (hg : g.k ≠ 2) (t : List UInt8) (c : UInt8) : M (a ++ [g]) (t ++ [c]) = (M a t && Wd g c.toNat) := by
 rw [Bool.eq_iff_iff, Bool.and_eq_true, JT]
 constructor
 ·rintro ⟨p, q, h1, h2, h3⟩
  obtain ⟨d, rfl, h4⟩ := (Zn0 g hg q).1 h3
  obtain ⟨rfl, h5⟩ := List.append_inj' h1 rfl
  cases h5
  exact ⟨h2, h4⟩
 ·rintro ⟨h1, h2⟩
  exact ⟨t, [c], rfl, h1, (Zn0 g hg [c]).2 ⟨c, rfl, h2⟩⟩

def tab (l : List Glob) (s : List UInt8) (i k : Nat) : Bool := M (l.take i) (s.take k)

theorem Zr7 (l : List Glob) (s : List UInt8) (k : Nat) (hk : k ≤ s.length) : tab l s 0 k = decide (k = 0) := by
 unfold tab
 rw [List.take_zero, Zk5]
 cases k with
 | zero => rfl
 | succ k =>
  cases s with
  | nil => simp at hk
  | cons c r => rfl
theorem Zgs {l : List Glob} {s : List UInt8} {i : Nat} (hi : i < l.length) (hg : l[i].k = 2) : tab l s (i + 1) 0 = tab l s i 0 := by
 unfold tab
 rw [List.take_succ_eq_append_getElem hi, List.take_zero, Zcd _ _ hg]
theorem Zju {l : List Glob} {s : List UInt8} {i k : Nat} (hi : i < l.length) (hg : l[i].k = 2) (hk : k < s.length) : tab l s (i + 1) (k + 1) = (tab l s i (k + 1) || tab l s (i + 1) k) := by
 unfold tab
 rw [List.take_succ_eq_append_getElem hi, List.take_succ_eq_append_getElem hk, Za2 _ _ hg]
theorem Zqf {l : List Glob} {s : List UInt8} {i : Nat} (hi : i < l.length) (hg : l[i].k ≠ 2) : tab l s (i + 1) 0 = false := by
 unfold tab
 rw [List.take_succ_eq_append_getElem hi, List.take_zero, Zc2 _ _ hg]
theorem Zn1 {l : List Glob} {s : List UInt8} {i k : Nat} (hi : i < l.length) (hg : l[i].k ≠ 2) (hk : k < s.length) : tab l s (i + 1) (k + 1) = (tab l s i k && Wd l[i] s[k].toNat) := by
 unfold tab
 rw [List.take_succ_eq_append_getElem hi, List.take_succ_eq_append_getElem hk, Zce _ _ hg]
theorem Zti (l : List Glob) (s : List UInt8) : tab l s l.length s.length = M l s := by unfold tab; rw [List.take_length, List.take_length]

def oneS (g : Glob) : Bool :=
 if g.k = 0 then g.sp.isEmpty else if g.k = 1 ∨ g.k = 2 then g.b == 0 && g.sp.isEmpty else if g.k = 3 then g.b == 0 && !g.sp.isEmpty && !g.sp.any (fun x => ltI x.hi x.lo) else false
def mayS (l : List Glob) : Bool := l.all oneS
end Go.Y
namespace Go.Y
open Go.Proofs
set_option maxRecDepth 1000000
set_option maxHeartbeats 0
theorem Zxs (a : List V) (n0 : Nat) (s1 : List UInt8) (h : Heap) (K : KT) : (Zc UY (UY.loc 251) 100 (pre (flat (Za Tryz.f251))) ⟨(V.ts a n0 none :: V.s s1 :: List.replicate 76 .undef), [], h⟩ (VQ [0, 1, 4, 5, 6, 7, 8] K)) =
 (∃ (b : Bool),
 (PCon UY 269 [V.ts a n0 none] fun v => v = V.b b) ∧
 If (!b) (K .ret 78 [.ts a n0 none, .s s1, .b false, .undef, .undef, .undef, .undef] h)
 (K .normal 78
 [.ts a n0 none, .s s1, .b false, .i .i64 0, .i .i64 0,
 .i .i64 (-1), .i .i64 0]
 h)) := by kernel_rfl
theorem Zxt (e : List V) (n0 : Nat) (s1 : List UInt8) (b4 : Bool) (a g d f : Int) (h : Heap) (K : KT) : (Zc UY (UY.loc 251) 100 ((flat (Zv (post (flat (Za Tryz.f251)))))) ⟨mk 78 (([0, 1, 4, 5, 6, 7, 8] : List Nat).zip [V.ts e n0 none, V.s s1, V.b b4, V.i .i64 a, V.i .i64 g, V.i .i64 d, V.i .i64 f]), [], h⟩ (VQ [0, 1, 4, 5, 6, 7, 8] K)) =
 (If (ltI g (↑s1.length : Int))
 (If (ltI a n0)
 ((0 ≤ a ∧ a < n0) ∧
 ∃ (n : Int),
 Zh 1 (List.drop 0 (List.drop (a.toNat * 3) e)) = some [V.i .i64 n] ∧
 If (n == (2 : Int))
 (K .normal 78
 [.ts e n0 none, .s s1, .b b4, .i .i64 (IntKind.i64.wrap (a + (1 : Int))),
 .i .i64 g, .i .i64 a, .i .i64 g]
 h)
 (If (ltI a n0)
 ((0 ≤ a ∧ a < n0) ∧
 ∃ (n n_1 : Int) (cs : List V) (l : Nat) (c : Option Nat), Zh 3 (List.drop (a.toNat * 3) e) =
 some [V.i .i64 n, V.i .u8 n_1, V.ts cs l c] ∧
 ∃ (c_1 : UInt8),
 ((0 : Int) ≤ g ∧ s1[g.toNat]? = some c_1) ∧
 ∃ (b : Bool),
 (PCon UY 270
 [V.agg [V.i .i64 n, V.i .u8 n_1, V.ts cs l c],
 V.i .u8 (↑c_1.toNat : Int)]
 fun v => v = V.b b) ∧
 If b
 (K .normal 78
 [.ts e n0 none, .s s1, .b b4,
 .i .i64 (IntKind.i64.wrap (a + (1 : Int))),
 .i .i64 (IntKind.i64.wrap (g + (1 : Int))), .i .i64 d,
 .i .i64 f]
 h)
 (If (leI 0 d)
 (K .normal 78
 [.ts e n0 none, .s s1, .b b4,
 .i .i64 (IntKind.i64.wrap (d + (1 : Int))),
 .i .i64 (IntKind.i64.wrap (f + (1 : Int))), .i .i64 d,
 .i .i64 (IntKind.i64.wrap (f + (1 : Int)))]
 h)
 (K .ret 78
 [.ts e n0 none, .s s1, .b false, .i .i64 a,
 .i .i64 g, .i .i64 d, .i .i64 f]
 h)))
 (If (leI 0 d)
 (K .normal 78
 [.ts e n0 none, .s s1, .b b4, .i .i64 (IntKind.i64.wrap (d + (1 : Int))),
 .i .i64 (IntKind.i64.wrap (f + (1 : Int))), .i .i64 d,
 .i .i64 (IntKind.i64.wrap (f + (1 : Int)))]
 h)
 (K .ret 78
 [.ts e n0 none, .s s1, .b false, .i .i64 a, .i .i64 g,
 .i .i64 d, .i .i64 f]
 h))))
 (If (ltI a n0)
 ((0 ≤ a ∧ a < n0) ∧
 ∃ (n n_1 : Int) (cs : List V) (l : Nat) (c : Option Nat), Zh 3 (List.drop (a.toNat * 3) e) =
 some [V.i .i64 n, V.i .u8 n_1, V.ts cs l c] ∧
 ∃ (c_1 : UInt8),
 ((0 : Int) ≤ g ∧ s1[g.toNat]? = some c_1) ∧
 ∃ (b : Bool),
 (PCon UY 270
 [V.agg [V.i .i64 n, V.i .u8 n_1, V.ts cs l c],
 V.i .u8 (↑c_1.toNat : Int)]
 fun v => v = V.b b) ∧
 If b
 (K .normal 78
 [.ts e n0 none, .s s1, .b b4,
 .i .i64 (IntKind.i64.wrap (a + (1 : Int))),
 .i .i64 (IntKind.i64.wrap (g + (1 : Int))), .i .i64 d,
 .i .i64 f]
 h)
 (If (leI 0 d)
 (K .normal 78
 [.ts e n0 none, .s s1, .b b4,
 .i .i64 (IntKind.i64.wrap (d + (1 : Int))),
 .i .i64 (IntKind.i64.wrap (f + (1 : Int))), .i .i64 d,
 .i .i64 (IntKind.i64.wrap (f + (1 : Int)))]
 h)
 (K .ret 78
 [.ts e n0 none, .s s1, .b false, .i .i64 a, .i .i64 g,
 .i .i64 d, .i .i64 f]
 h)))
 (If (leI 0 d)
 (K .normal 78
 [.ts e n0 none, .s s1, .b b4, .i .i64 (IntKind.i64.wrap (d + (1 : Int))),
 .i .i64 (IntKind.i64.wrap (f + (1 : Int))), .i .i64 d,
 .i .i64 (IntKind.i64.wrap (f + (1 : Int)))]
 h)
 (K .ret 78
 [.ts e n0 none, .s s1, .b false, .i .i64 a, .i .i64 g, .i .i64 d,
 .i .i64 f]
 h))))
 (K (.exit 0) 78
 [.ts e n0 none, .s s1, .b b4, .i .i64 a, .i .i64 g, .i .i64 d,
 .i .i64 f]
 h)) := by kernel_rfl
theorem Zxu (a : List V) (n0 : Nat) (c : Int) (d : Bool) (h : Heap) (K : KT) : (Zc UY (UY.loc 251) 100 (pre ((post (flat (Za Tryz.f251))).drop 1)) ⟨mk 78 (([0, 4, 5] : List Nat).zip [V.ts a n0 none, V.b d, V.i .i64 c]), [], h⟩ (VQ [0, 4, 5] K)) =
 (K .normal 78 [.ts a n0 none, .b d, .i .i64 c] h) := by kernel_rfl
theorem Zxv (c : List V) (n0 : Nat) (a : Int) (d : Bool) (h : Heap) (K : KT) : (Zc UY (UY.loc 251) 100 ((flat (Zv (post ((post (flat (Za Tryz.f251))).drop 1))))) ⟨mk 78 (([0, 4, 5] : List Nat).zip [V.ts c n0 none, V.b d, V.i .i64 a]), [], h⟩ (VQ [0, 4, 5] K)) =
 (If (ltI a n0)
 ((0 ≤ a ∧ a < n0) ∧
 ∃ (n : Int),
 Zh 1 (List.drop 0 (List.drop (a.toNat * 3) c)) = some [V.i .i64 n] ∧
 If (n == (2 : Int))
 (K .normal 78 [.ts c n0 none, .b d, .i .i64 (IntKind.i64.wrap (a + (1 : Int)))]
 h)
 (K (.exit 3) 78 [.ts c n0 none, .b d, .i .i64 a] h))
 (K (.exit 3) 78 [.ts c n0 none, .b d, .i .i64 a] h)) := by kernel_rfl
theorem Zr8 (c : List V) (n0 : Nat) (a : Int) (h : Heap) (K : KT) : (Zc UY (UY.loc 251) 100 (((post ((post (flat (Za Tryz.f251))).drop 1)).drop 1)) ⟨mk 78 (([0, 5] : List Nat).zip [V.ts c n0 none, V.i .i64 a]), [], h⟩ (VQ [4] K)) =
 (K .ret 78 [.b (a == (n0 : Int))] h) := by kernel_rfl
theorem Zxw (a c : Int) (d : List V) (e : Nat) (x1 : Int) (h : Heap) (K : KT) : (Zc UY (UY.loc 270) 100 ((flat (Za Tryz.f270))) ⟨(V.agg [V.i .i64 a, V.i .u8 c, V.ts d e none] :: V.i .u8 x1 :: List.replicate 17 .undef), [], h⟩ (VQ [4] K)) =
 (If (a == (0 : Int))
 (∃ (n : Int),
 Zj (h.push (YObj.arr [V.i .u8 x1] true)) h.nx 0 1 = some [V.i .u8 n] ∧
 K .ret 19 [.b (c == n)] (h.push (YObj.arr [V.i .u8 x1] true)))
 (If (a == (1 : Int)) (K .ret 19 [.b true] (h.push (YObj.arr [V.i .u8 x1] true)))
 (Con UY 283 [V.ts d e none, V.fn (Fn.func (284 : Nat)) [] [V.p (some (h.nx, 0))]]
 (h.push (YObj.arr [V.i .u8 x1] true)) fun (v : V) (h' : Heap) =>
 ∃ (b : Bool), v = V.b b ∧ K .ret 19 [.b b] h'))) := by kernel_rfl
theorem Zxx (a : List V) (n0 : Nat) (h : Heap) (K : KT) : (Zc UY (UY.loc 269) 100 ((flat (Za Tryz.f269))) ⟨(V.ts a n0 none :: List.replicate 5 .undef), [], h⟩ (VQ [2] K)) =
 (Con UY 280 [V.ts a n0 none, V.fn (Fn.func (281 : Nat)) [] []] h fun (v : V) (h' : Heap) =>
 ∃ (b : Bool), v = V.b b ∧ K .ret 6 [.b !b] h') := by kernel_rfl
theorem Zxy (a : List V) (n0 : Nat) (h : Heap) (K : KT) : (Zc UY (UY.loc 280) 100 ((flat (Za Tryz.f280))) ⟨(V.ts a n0 none :: V.fn (.func 281) [] [] :: List.replicate 7 .undef), [], h⟩ (VQ [4] K)) =
 (Con UY 292 [V.ts a n0 none, V.fn (Fn.func 281) [] []] h fun (v : V) (h' : Heap) =>
 ∃ (n : Int), v = V.i .i64 n ∧ K .ret 9 [.b (leI 0 n)] h') := by kernel_rfl
theorem Zxz (a : List V) (n0 : Nat) (h : Heap) (K : KT) : (Zc UY (UY.loc 292) 100 (pre (flat (Za Tryz.f292))) ⟨(V.ts a n0 none :: V.fn (.func 281) [] [] :: List.replicate 17 .undef), [], h⟩ (VQ [0, 1, 7, 8] K)) =
 (K .normal 19
 [.ts a n0 none, .fn (Fn.func 281) [] [], .i .i64 (n0 : Int), .i .i64 0] h) := by kernel_rfl
theorem Zx0 (a : List V) (n0 : Nat) (x8 : Int) (h : Heap) (K : KT) : (Zc UY (UY.loc 292) 100 ((flat (Zv (post (flat (Za Tryz.f292)))))) ⟨mk 19 (([0, 1, 7, 8] : List Nat).zip [V.ts a n0 none, V.fn (Fn.func 281) [] [], V.i .i64 (n0 : Int), V.i .i64 x8]), [], h⟩ (VQ [0, 1, 4, 7, 8] K)) =
 (If (ltI x8 n0)
 ((0 ≤ x8 ∧ x8 < n0) ∧
 ∃ (n n_1 : Int) (cs : List V) (l : Nat) (c : Option Nat), Zh 3 (List.drop (x8.toNat * 3) a) =
 some [V.i .i64 n, V.i .u8 n_1, V.ts cs l c] ∧
 ∃ (b : Bool),
 (PCon UY 281 [V.agg [V.i .i64 n, V.i .u8 n_1, V.ts cs l c]] fun (v : V) =>
 v = V.b b) ∧
 If b
 (K .ret 19
 [.ts a n0 none, .fn (Fn.func 281) [] [], .i .i64 x8,
 .i .i64 (n0 : Int), .i .i64 x8]
 h)
 (K .normal 19
 [.ts a n0 none, .fn (Fn.func 281) [] [], .undef, .i .i64 (n0 : Int),
 .i .i64 (IntKind.i64.wrap (x8 + (1 : Int)))]
 h))
 (K (.exit 0) 19
 [.ts a n0 none, .fn (Fn.func 281) [] [], .undef, .i .i64 (n0 : Int), .i .i64 x8] h)) := by kernel_rfl
theorem Zx1 (h : Heap) (K : KT) : (Zc UY (UY.loc 292) 100 (((post (flat (Za Tryz.f292))).drop 1)) ⟨mk 19 (([] : List Nat).zip []), [], h⟩ (VQ [4] K)) =
 (K .ret 19 [.i .i64 (-1)] h) := by kernel_rfl
theorem Zx2 (a c : Int) (d : List V) (e : Nat) (h : Heap) (K : KT) : (Zc UY (UY.loc 281) 100 ((flat (Za Tryz.f281))) ⟨(V.agg [V.i .i64 a, V.i .u8 c, V.ts d e none] :: List.replicate 5 .undef), [], h⟩ (VQ [2] K)) =
 (∃ (b : Bool),
 (PCon UY 282 [V.agg [V.i .i64 a, V.i .u8 c, V.ts d e none]]
 fun v => v = V.b b) ∧
 K .ret 6 [.b !b] h) := by kernel_rfl
theorem Zx3 (c d : Int) (e : List V) (a : Nat) (h : Heap) (K : KT) : (Zc UY (UY.loc 282) 100 ((flat (Za Tryz.f282))) ⟨(V.agg [V.i .i64 c, V.i .u8 d, V.ts e a none] :: List.replicate 39 .undef), [], h⟩ (VQ [2] K)) =
 (If (c == (0 : Int)) (K .ret 40 [.b ((↑a : Int) == (0 : Int))] h)
 (If (c == (1 : Int))
 (If (d == (0 : Int)) (K .ret 40 [.b ((↑a : Int) == (0 : Int))] h)
 (K .ret 40 [.b false] h))
 (If (c == (2 : Int))
 (If (d == (0 : Int)) (K .ret 40 [.b ((↑a : Int) == (0 : Int))] h)
 (K .ret 40 [.b false] h))
 (If (c == (3 : Int))
 (If (d == (0 : Int))
 (If (ltI 0 a)
 (Con UY 283 [V.ts e a none, V.fn (Fn.func (293 : Nat)) [] []] h
 fun (v : V) (h' : Heap) => ∃ (b : Bool), v = V.b b ∧ K .ret 40 [.b !b] h')
 (K .ret 40 [.b false] h))
 (K .ret 40 [.b false] h))
 (K .ret 40 [.b false] h))))) := by kernel_rfl
theorem Zx4 (a c : Int) (h : Heap) (K : KT) : (Zc UY (UY.loc 293) 100 ((flat (Za Tryz.f293))) ⟨(V.agg [V.i .u8 a, V.i .u8 c] :: List.replicate 7 .undef), [], h⟩ (VQ [2] K)) =
 (K .ret 8 [.b (ltI c a)] h) := by kernel_rfl
theorem Zx5 (a c : Int) (d : List V) (e : Nat) (x1 : Int) (h : Heap) (K : KT) : (Zc UY (UY.loc 163) 100 (pre (flat (Za Tryz.f163))) ⟨(V.agg [V.i .i64 a, V.i .u8 c, V.ts d e none] :: V.i .u8 x1 :: List.replicate 44 .undef), [], h⟩ (VQ [1, 2, 4, 5, 6, 10] K)) =
 (If (a == (0 : Int))
 (K .ret 46
 [.i .u8 x1, .lb [.i .i64 a, .i .u8 c, .ts d e none],
 .b (c == x1), .undef, .undef, .rf]
 h)
 (K .normal 46
 [.i .u8 x1, .lb [.i .i64 a, .i .u8 c, .ts d e none], .b false,
 .b (a == (1 : Int)), .i .i64 0, .undef]
 h)) := by kernel_rfl
theorem Zx6 (e f : Int) (d : List V) (c : Nat) (x1 : Int) (g : Bool) (a : Int) (h : Heap) (K : KT) : (Zc UY (UY.loc 163) 100 ((flat (Zv (post (flat (Za Tryz.f163)))))) ⟨mk 46 (([1, 2, 5, 6, 10] : List Nat).zip [V.i .u8 x1, V.lb [V.i .i64 e, V.i .u8 f, V.ts d c none], V.b g, V.i .i64 a, V.undef]), [], h⟩ (VQ [1, 2, 5, 6, 10] K)) =
 (If (ltI a c)
 (If g
 (K .normal 46
 [.i .u8 x1, .lb [.i .i64 e, .i .u8 f, .ts d c none], .b true,
 .i .i64 (IntKind.i64.wrap (a + (1 : Int))), .undef]
 h)
 ((0 ≤ a ∧ a < c) ∧
 ∃ (n : Int),
 Zh 1 (List.drop 0 (List.drop (a.toNat * 2) d)) =
 some [V.i .u8 n] ∧
 If (leI n x1)
 ((0 ≤ a ∧ a < c) ∧
 ∃ (n : Int),
 Zh 1 (List.drop 1 (List.drop (a.toNat * 2) d)) =
 some [V.i .u8 n] ∧
 K .normal 46
 [.i .u8 x1,
 .lb [.i .i64 e, .i .u8 f, .ts d c none], .b (leI x1 n),
 .i .i64 (IntKind.i64.wrap (a + (1 : Int))), .undef]
 h)
 (K .normal 46
 [.i .u8 x1, .lb [.i .i64 e, .i .u8 f, .ts d c none],
 .b false, .i .i64 (IntKind.i64.wrap (a + (1 : Int))), .undef]
 h)))
 (K (.exit 0) 46
 [.i .u8 x1, .lb [.i .i64 e, .i .u8 f, .ts d c none], .b g,
 .i .i64 a, .undef]
 h)) := by kernel_rfl
theorem Zx7 (a : Bool) (h : Heap) (K : KT) : (Zc UY (UY.loc 163) 100 (((post (flat (Za Tryz.f163))).drop 1)) ⟨mk 46 (([5] : List Nat).zip [V.b a]), [], h⟩ (VQ [4] K)) =
 (K .ret 46 [.b a] h) := by kernel_rfl
theorem Ztj (a : List V) (n0 : Nat) (h : Heap) (K : KT) : (Zc UY (UY.loc 283) 100 ((flat (Za Tryz.f283))) ⟨(V.ts a n0 none :: V.fn (.func 293) [] [] :: List.replicate 7 .undef), [], h⟩ (VQ [4] K)) =
 (Con UY 294 [V.ts a n0 none, V.fn (Fn.func 293) [] []] h fun (v : V) (h' : Heap) =>
 ∃ (n : Int), v = V.i .i64 n ∧ K .ret 9 [.b (leI 0 n)] h') := by kernel_rfl
theorem Ztk (a : List V) (n0 : Nat) (h : Heap) (K : KT) : (Zc UY (UY.loc 294) 100 (pre (flat (Za Tryz.f294))) ⟨(V.ts a n0 none :: V.fn (.func 293) [] [] :: List.replicate 17 .undef), [], h⟩ (VQ [0, 1, 7, 8] K)) =
 (K .normal 19 [.ts a n0 none, .fn (Fn.func 293) [] [], .i .i64 (n0 : Int), .i .i64 0] h) := by kernel_rfl
theorem Ztl (a : List V) (n0 : Nat) (x8 : Int) (h : Heap) (K : KT) : (Zc UY (UY.loc 294) 100 ((flat (Zv (post (flat (Za Tryz.f294)))))) ⟨mk 19 (([0, 1, 7, 8] : List Nat).zip [V.ts a n0 none, V.fn (Fn.func 293) [] [], V.i .i64 (n0 : Int), V.i .i64 x8]), [], h⟩ (VQ [0, 1, 4, 7, 8] K)) =
 (If (ltI x8 n0)
 ((0 ≤ x8 ∧ x8 < n0) ∧
 ∃ (n n_1 : Int), Zh 2 (List.drop (x8.toNat * 2) a) = some [V.i .u8 n, V.i .u8 n_1] ∧
 ∃ (b : Bool),
 (PCon UY 293 [V.agg [V.i .u8 n, V.i .u8 n_1]] fun v => v = V.b b) ∧
 If b
 (K .ret 19
 [.ts a n0 none, .fn (Fn.func 293) [] [], .i .i64 x8, .i .i64 (n0 : Int),
 .i .i64 x8]
 h)
 (K .normal 19
 [.ts a n0 none, .fn (Fn.func 293) [] [], .undef, .i .i64 (n0 : Int),
 .i .i64 (IntKind.i64.wrap (x8 + 1))]
 h))
 (K (.exit 0) 19
 [.ts a n0 none, .fn (Fn.func 293) [] [], .undef, .i .i64 (n0 : Int), .i .i64 x8] h)) := by kernel_rfl
theorem Ztm (h : Heap) (K : KT) : (Zc UY (UY.loc 294) 100 (((post (flat (Za Tryz.f294))).drop 1)) ⟨mk 19 (([] : List Nat).zip []), [], h⟩ (VQ [4] K)) =
 (K .ret 19 [.i .i64 (-1)] h) := by kernel_rfl
theorem Ztn (a : List V) (n0 id : Nat) (h : Heap) (K : KT) : (Zc UY (UY.loc 283) 100 ((flat (Za Tryz.f283))) ⟨(V.ts a n0 none :: V.fn (.func 284) [] [V.p (some (id, 0))] :: List.replicate 7 .undef), [], h⟩ (VQ [4] K)) =
 (Con UY 294 [V.ts a n0 none, V.fn (Fn.func 284) [] [V.p (some (id, 0))]] h fun (v : V) (h' : Heap) =>
 ∃ (n : Int), v = V.i .i64 n ∧ K .ret 9 [.b (leI 0 n)] h') := by kernel_rfl
theorem Zto (a : List V) (n0 id : Nat) (h : Heap) (K : KT) : (Zc UY (UY.loc 294) 100 (pre (flat (Za Tryz.f294))) ⟨(V.ts a n0 none :: V.fn (.func 284) [] [V.p (some (id, 0))] :: List.replicate 17 .undef), [], h⟩ (VQ [0, 1, 7, 8] K)) =
 (K .normal 19
 [.ts a n0 none, .fn (Fn.func 284) [] [.p (some (id, 0))], .i .i64 (n0 : Int), .i .i64 0] h) := by kernel_rfl
theorem Ztp (a : List V) (n0 id : Nat) (x8 : Int) (h : Heap) (K : KT) : (Zc UY (UY.loc 294) 100 ((flat (Zv (post (flat (Za Tryz.f294)))))) ⟨mk 19 (([0, 1, 7, 8] : List Nat).zip [V.ts a n0 none, V.fn (Fn.func 284) [] [V.p (some (id, 0))], V.i .i64 (n0 : Int), V.i .i64 x8]), [], h⟩ (VQ [0, 1, 4, 7, 8] K)) =
 (If (ltI x8 n0)
 ((0 ≤ x8 ∧ x8 < n0) ∧
 ∃ (n n_1 : Int), Zh 2 (List.drop (x8.toNat * 2) a) = some [V.i .u8 n, V.i .u8 n_1] ∧
 ∃ (b : Bool),
 RCon UY 284 [V.agg [V.i .u8 n, V.i .u8 n_1], V.p (some (id, 0))] h (V.b b) ∧
 If b
 (K .ret 19
 [.ts a n0 none, .fn (Fn.func 284) [] [.p (some (id, 0))], .i .i64 x8,
 .i .i64 (n0 : Int), .i .i64 x8]
 h)
 (K .normal 19
 [.ts a n0 none, .fn (Fn.func 284) [] [.p (some (id, 0))], .undef, .i .i64 (n0 : Int),
 .i .i64 (IntKind.i64.wrap (x8 + 1))]
 h))
 (K (.exit 0) 19
 [.ts a n0 none, .fn (Fn.func 284) [] [.p (some (id, 0))], .undef, .i .i64 (n0 : Int),
 .i .i64 x8]
 h)) := by kernel_rfl
theorem Ztq (h : Heap) (K : KT) : (Zc UY (UY.loc 294) 100 (((post (flat (Za Tryz.f294))).drop 1)) ⟨mk 19 (([] : List Nat).zip []), [], h⟩ (VQ [4] K)) =
 (K .ret 19 [.i .i64 (-1)] h) := by kernel_rfl
theorem Ztr (x0 x1 : Int) (id : Nat) (h : Heap) (K : KT) : (Zc UY (UY.loc 284) 100 ((flat (Za Tryz.f284))) ⟨(V.agg [V.i .u8 x0, V.i .u8 x1] :: V.p (some (id, 0)) :: List.replicate 12 .undef), [], h⟩ (VQ [3] K)) =
 (∃ (n : Int),
 Zj h id 0 1 = some [V.i .u8 n] ∧
 If (leI x0 n) (∃ (n : Int), Zj h id 0 1 = some [V.i .u8 n] ∧ K .ret 14 [.b (leI n x1)] h)
 (K .ret 14 [.b false] h)) := by kernel_rfl
end Go.Y
