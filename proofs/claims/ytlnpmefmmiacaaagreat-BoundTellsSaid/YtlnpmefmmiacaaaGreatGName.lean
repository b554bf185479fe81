/- Names, by contracts. -/
import Derived.Test.YtlnpmefmmiacaaaGreatGWk
import Derived.Test.YtlnpmefmmiacaaaGreatGD2
namespace Go.Y
open Go.Proofs
set_option maxRecDepth 100000

theorem ifY' {b : Bool} {P Q : Prop} (hb : b = true) (hp : P) : If b P Q := if_mk (fun _ => hp) (fun h => by rw [hb] at h; cases h)
theorem ifN' {b : Bool} {P Q : Prop} (hb : b = false) (hp : Q) : If b P Q := if_mk (fun h => by rw [hb] at h; cases h) (fun _ => hp)

theorem tree_con {Y : YP} (hY : YOK Y) {f : FuncId} {fn : Func} (hf : Y.P.funcs[f]? = some fn) (hb : fn.body.isSome = true) {args : List V} (hc : coldAll args = true) {P : V → Prop} {slots : List Nat} {env' : List V} {T : (Out → Nat → List V → Heap → Prop) → Prop}
    (tree : ∀ K, codeP Y (Y.loc f) 100 (flat (bodyOf fn)) ⟨env', [], .empty⟩ (VQ slots K) = T K) (he : args ++ List.replicate (fn.ntmps - args.length) .undef = env')
    (hfin : T (Fin Y fn slots (fun v h => ∃ r, Frz h v r ∧ P r))) : PCon Y f args P := by
  refine pcon_of hY hf hb hc ?_
  rw [he]
  refine end_rule hY (loc := Y.loc f) 100 slots ?_
  rw [tree]
  exact hfin

def letterC (x : Int) : Bool := leI 97 x && leI x 122
def digitC (x : Int) : Bool := leI 48 x && leI x 57
def withC (x : Int) : Bool := letterC x || digitC x || x == 95

theorem letter_con (x : Int) : PCon Tryz.Y 99 [.i .u8 x] (· = .b (letterC x)) := by
  refine tree_con Tryz.Yok (fn := Tryz.f99) (by kernel_rfl) (by kernel_rfl) rfl (fun K => f99_0 x .empty K) rfl ?_
  refine if_mk (fun h => finV1 (.inr rfl) rfl (.b _) ?_) (fun h => finV1 (.inr rfl) rfl (.b _) ?_)
  · simp [letterC, h]
  · simp [letterC, h]
theorem within_con (x : Int) : PCon Tryz.Y 100 [.i .u8 x] (· = .b (withC x)) := by
  refine tree_con Tryz.Yok (fn := Tryz.f100) (by kernel_rfl) (by kernel_rfl) rfl (fun K => f100_0 x .empty K) rfl ?_
  refine ⟨_, letter_con x, ?_⟩
  refine if_mk (fun h => finV1 (.inr rfl) rfl (.b _) (by simp [withC, h])) (fun h => if_mk (fun h1 => if_mk (fun h2 => finV1 (.inr rfl) rfl (.b _) ?_) (fun h2 => finV1 (.inr rfl) rfl (.b _) ?_)) (fun h1 => finV1 (.inr rfl) rfl (.b _) ?_))
  · simp [withC, digitC, h, h1, h2]
  · simp [withC, digitC, h, h1, h2]
  · simp [withC, digitC, h, h1]
def smallC (x : Int) (b : Bool) : Bool := letterC x || b && (digitC x || x == 95)
theorem rltr_con (x : Int) (b : Bool) : PCon Tryz.Y 54 [.i .u8 x, .b b] (· = .b (smallC x b)) := by
  refine tree_con Tryz.Yok (fn := Tryz.f54) (by kernel_rfl) (by kernel_rfl) rfl (fun K => f54_0 x b .empty K) rfl ?_
  have fin : ∀ y : Bool, y = smallC x b → Fin Tryz.Y Tryz.f54 [4] (fun v h => ∃ r, Frz h v r ∧ r = .b (smallC x b)) .ret 26 [.b y] .empty := fun y e => finV1 (.inr rfl) rfl (.b _) (by rw [e])
  have rest : letterC x = false → If b (If (leI 48 x) (If (leI x 57) (Fin Tryz.Y Tryz.f54 [4] (fun v h => ∃ r, Frz h v r ∧ r = .b (smallC x b)) .ret 26 [.b true] .empty) (Fin Tryz.Y Tryz.f54 [4] (fun v h => ∃ r, Frz h v r ∧ r = .b (smallC x b)) .ret 26 [.b (x == 95)] .empty)) (Fin Tryz.Y Tryz.f54 [4] (fun v h => ∃ r, Frz h v r ∧ r = .b (smallC x b)) .ret 26 [.b (x == 95)] .empty)) (Fin Tryz.Y Tryz.f54 [4] (fun v h => ∃ r, Frz h v r ∧ r = .b (smallC x b)) .ret 26 [.b false] .empty) := by
    intro hl
    refine if_mk (fun h => if_mk (fun h1 => if_mk (fun h2 => fin _ ?_) (fun h2 => fin _ ?_)) (fun h1 => fin _ ?_)) (fun h => fin _ ?_)
    · simp [smallC, hl, h, digitC, h1, h2]
    · simp [smallC, hl, h, digitC, h1, h2]
    · simp [smallC, hl, h, digitC, h1]
    · simp [smallC, hl, h]
  refine if_mk (fun h => if_mk (fun h1 => fin _ (by simp [smallC, letterC, h, h1])) (fun h1 => rest (by simp [letterC, h1]))) (fun h => rest (by simp [letterC, h]))

def smallAll : List UInt8 → Bool
  | [] => true
  | c :: r => letterC c.toNat && r.all fun c => withC c.toNat
def oneDigit : List UInt8 → Bool
  | [c] => digitC c.toNat
  | _ => false
def nameS (s : List UInt8) : Bool := decide (1 ≤ s.length) && decide (s.length ≤ 8) && (oneDigit s || smallAll s)

theorem smallAll_snoc (a : List UInt8) (c : UInt8) : smallAll (a ++ [c]) = (smallAll a && smallC c.toNat (decide (0 < a.length))) := by
  cases a with
  | nil => simp [smallAll, smallC]
  | cons x a => simp [smallAll, smallC, withC, List.all_append, Bool.or_assoc, Bool.and_assoc]
theorem smallAll_no {s : List UInt8} {i : Nat} (hi : i < s.length) (h : smallC s[i].toNat (decide (0 < i)) = false) : smallAll s = false := by
  cases s with
  | nil => simp at hi
  | cons x r =>
    cases i with
    | zero =>
      have : letterC x.toNat = false := by simpa [smallC] using h
      simp [smallAll, this]
    | succ j =>
      have hj : j < r.length := by simpa using hi
      have h' : withC r[j].toNat = false := by simpa [smallC, withC, Bool.or_assoc] using h
      have : (r.all fun c => withC c.toNat) = false := by
        rw [List.all_eq_false]
        exact ⟨r[j], List.getElem_mem hj, by simp [h']⟩
      simp [smallAll, this]

theorem rname_con (s : List UInt8) (hs : s.length < 2 ^ 30) : PCon Tryz.Y 40 [.s s] (· = .b (nameS s)) := by
  refine pcon_of Tryz.Yok (fn := Tryz.f40) (by kernel_rfl) (by kernel_rfl) rfl ?_
  refine pre_rule Tryz.Yok (n := 38) (loc := Tryz.Y.loc 40) 100 [0, 2, 3] (by kernel_rfl) ?_
  refine Eq.mpr (f40_0 s .empty _) ?_
  have main : oneDigit s = false → PreV Tryz.Y 38 [0, 2, 3] (post (flat (bodyOf Tryz.f40))) (FinS Tryz.Y Tryz.f40 fun v h => ∃ r, Frz h v r ∧ r = .b (nameS s)) .normal 38 [.s s, .b false, .i .i64 0] .empty := by
    intro hod
    refine ⟨rfl, loop2 [0, 3] [0, 2, 3] rfl (by kernel_rfl) (fun m vs _ => ∃ i : Nat, vs = [.s s, .i .i64 (i : Nat)] ∧ i ≤ s.length ∧ m = s.length - i ∧ smallAll (s.take i) = true) s.length mk_len ⟨0, rfl, by omega, by omega, by simp [smallAll]⟩ ?_⟩
    rintro m vs h ⟨i, rfl, hi, rfl, hno⟩
    refine all_rule Tryz.Yok (loc := Tryz.Y.loc 40) 100 [0, 2, 3] ?_
    refine Eq.mpr (f40_1 s (i : Nat) h _) ?_
    refine if_lt_nat (fun hlt => ?_) (fun hge => ?_)
    · refine ⟨s[i], ⟨by omega, by rw [Int.toNat_natCast]; exact List.getElem?_eq_getElem hlt⟩, _, rltr_con _ _, ?_⟩
      rw [ltI_pos]
      refine if_mk (fun hc => ?_) (fun hc => ?_)
      · have hc : smallC s[i].toNat (decide (0 < i)) = false := by simpa using hc
        exact fin_at (.inr rfl) rfl ⟨_, .b _, by simp [nameS, hod, smallAll_no hlt hc]⟩
      · have hc : smallC s[i].toNat (decide (0 < i)) = true := by simpa using hc
        refine ⟨rfl, s.length - (i + 1), by omega, i + 1, by rw [wrap_succ (by omega)]; rfl, by omega, rfl, ?_⟩
        have hl : (s.take i).length = i := by simp; omega
        rw [List.take_succ_eq_append_getElem hlt, smallAll_snoc, hno, hl, hc]; rfl
    · refine roundW_exit [0, 3] (by kernel_rfl) rfl rfl ?_
      refine end_rule Tryz.Yok (loc := Tryz.Y.loc 40) 100 [2] ?_
      refine Eq.mpr (f40_2 s (i : Nat) h _) ?_
      rw [List.take_of_length_le hge] at hno
      refine if_le (fun h1 => finV1 (.inr rfl) rfl (.b _) ?_) (fun h1 => finV1 (.inr rfl) rfl (.b _) ?_)
      · have h1 : 1 ≤ s.length := by omega
        have : leI (s.length : Nat) 8 = decide (s.length ≤ 8) := by unfold leI; by_cases hx : s.length ≤ 8 <;> simp [hx] <;> omega
        simp only [nameS, h1, hno, this, decide_true, Bool.or_true, Bool.true_and, Bool.and_true]
      · have h1 : ¬ 1 ≤ s.length := by omega
        simp [nameS, h1]
  have notd : (s.length = 1 → False) → oneDigit s = false := by
    intro h
    match s, h with
    | [], _ => rfl
    | [c], h => exact absurd rfl h
    | _ :: _ :: _, _ => rfl
  refine if_mk (fun h1 => ?_) (fun h1 => main (notd fun e => by simp [e] at h1))
  have h1 : s.length = 1 := by simp at h1; omega
  obtain ⟨c, rfl⟩ : ∃ c, s = [c] := by
    match s, h1 with
    | [c], _ => exact ⟨c, rfl⟩
  refine ⟨c, ⟨by omega, rfl⟩, if_mk (fun h2 => ⟨c, ⟨by omega, rfl⟩, if_mk (fun h3 => fin_at (.inr rfl) rfl ⟨_, .b _, ?_⟩) (fun h3 => main ?_)⟩) (fun h2 => main ?_)⟩
  · simp [nameS, oneDigit, digitC, h2, h3]
  · simp [oneDigit, digitC, h3]
  · simp [oneDigit, digitC, h2]

theorem name_con (s : List UInt8) : PCon Tryz.Y 79 [.s s] (· = .b (nameS s)) := by
  refine pcon_of Tryz.Yok (fn := Tryz.f79) (by kernel_rfl) (by kernel_rfl) rfl ?_
  refine pre_rule Tryz.Yok (n := 45) (loc := Tryz.Y.loc 79) 100 [0, 2, 35, 36] (by kernel_rfl) ?_
  refine Eq.mpr (f79_0 s .empty _) ?_
  have fin : ∀ (b : Bool) (h : Heap), b = nameS s → ∃ r, Frz h (.b b) r ∧ r = .b (nameS s) := fun b h e => ⟨_, .b _, by rw [e]⟩
  refine if_mk (fun h0 => fin_at (.inr rfl) rfl (fin false _ (by rw [show s = [] by simpa using h0]; rfl))) (fun h0 => ?_)
  have h0 : s ≠ [] := by simpa using h0
  refine if_lt (fun h8 => fin_at (.inr rfl) rfl (fin false _ (by simp [nameS, show ¬ s.length ≤ 8 by omega]))) (fun h8 => ?_)
  have h8 : s.length ≤ 8 := by omega
  match s, h0, h8, fin with
  | c :: r, _, h8, fin =>
  refine if_mk (fun h1 => ?_) (fun h1 => ?_)
  · have h1 : r = [] := by simp at h1; exact List.eq_nil_of_length_eq_zero (by omega)
    subst h1
    refine ⟨c, ⟨by omega, rfl⟩, _, letter_con _, if_mk (fun hl => ?_) (fun hl => ⟨c, ⟨by omega, rfl⟩, if_mk (fun h2 => ⟨c, ⟨by omega, rfl⟩, ?_⟩) (fun h2 => ?_)⟩)⟩
    · exact fin_at (.inr rfl) rfl (fin _ _ (by simp [nameS, smallAll, hl]))
    · exact fin_at (.inr rfl) rfl (fin _ _ (by simp [nameS, smallAll, oneDigit, digitC, hl, h2]))
    · exact fin_at (.inr rfl) rfl (fin _ _ (by simp [nameS, smallAll, oneDigit, digitC, hl, h2]))
  · have h1 : r ≠ [] := fun e => by subst e; simp at h1
    have hod : oneDigit (c :: r) = false := by
      match r, h1 with
      | _ :: _, _ => rfl
    refine ⟨c, ⟨by omega, rfl⟩, _, letter_con _, if_mk (fun hl => ?_) (fun hl => ?_)⟩
    · have hl : letterC c.toNat = false := by simpa using hl
      exact fin_at (.inr rfl) rfl (fin _ _ (by simp [nameS, hod, smallAll, hl]))
    have hl : letterC c.toNat = true := by simpa using hl
    have hw : withC c.toNat = true := by simp [withC, hl]
    refine ⟨rfl, loop2 [0, 35, 36] [0, 2, 35, 36] rfl (by kernel_rfl) (fun m vs _ => ∃ i : Nat, vs = [.s (c :: r), .i .i64 ((c :: r).length : Nat), .i .i64 (i : Nat)] ∧ i ≤ (c :: r).length ∧ m = (c :: r).length - i ∧ ((c :: r).take i).all (fun c => withC c.toNat) = true) (c :: r).length mk_len ⟨0, rfl, by omega, by omega, by simp⟩ ?_⟩
    rintro m vs h ⟨i, rfl, hi, rfl, hno⟩
    refine all_rule Tryz.Yok (loc := Tryz.Y.loc 79) 100 [0, 2, 35, 36] ?_
    refine Eq.mpr (f79_1 (c :: r) (i : Nat) h _) ?_
    refine if_lt_nat (fun hlt => ?_) (fun hge => ?_)
    · refine ⟨(c :: r)[i], ⟨by omega, by rw [Int.toNat_natCast]; exact List.getElem?_eq_getElem hlt⟩, _, within_con _, if_mk (fun hc => ?_) (fun hc => ?_)⟩
      · have hc : withC (c :: r)[i].toNat = false := by simpa using hc
        refine fin_at (.inr rfl) rfl (fin _ _ ?_)
        have hi0 : i ≠ 0 := fun e => by subst e; simp [hw] at hc
        have : smallAll (c :: r) = false := smallAll_no hlt (by
          have : decide (0 < i) = true := by simp; omega
          rw [this]
          simpa [smallC, withC, Bool.or_assoc] using hc)
        simp [nameS, hod, this]
      · have hc : withC (c :: r)[i].toNat = true := by simpa using hc
        refine ⟨rfl, (c :: r).length - (i + 1), by omega, i + 1, by rw [wrap_succ (by omega)]; rfl, by omega, rfl, ?_⟩
        rw [List.take_succ_eq_append_getElem hlt, List.all_append, hno]
        simp only [List.all_cons, List.all_nil, hc, Bool.and_true]
    · refine roundW_exit [] (by kernel_rfl) rfl rfl ?_
      refine end_rule Tryz.Yok (loc := Tryz.Y.loc 79) 100 [2] ?_
      refine Eq.mpr (f79_2 h _) ?_
      rw [List.take_of_length_le hge] at hno
      have hr : (r.all fun c => withC c.toNat) = true := by simpa [hw] using hno
      refine finV1 (.inr rfl) rfl (.b _) ?_
      simp only [nameS, smallAll, hl, hr, h8]
      simp
end Go.Y
