/- What the pieces of functions come to: printed by program. -/
import Derived.Test.YtpddiafjmkjpmaaYTryP
import Derived.Test.YtpddiafjmkjpmaaYLoop
import Derived.Test.YtpddiafjmkjpmaaGPipe3
namespace Go.Y
open Go.Proofs
set_option maxRecDepth 100000
set_option maxHeartbeats 0
theorem f88_0 (s0 : List UInt8) (h : Heap) (K : Out → Nat → List V → Heap → Prop) : (codeP Try.Y (Try.Y.loc 88) 100 (pre (flat (bodyOf Try.f88))) ⟨(V.s s0 :: List.replicate 37 .undef), [], h⟩ (VQ [0, 2, 3] K)) =
  (If ((↑s0.length : Int) == (1 : Int))
  (∃ (c : UInt8),
 ((0 : Int) ≤ (0 : Int) ∧ s0[Int.toNat (0 : Int)]? = some c) ∧
 If (leI (48 : Int) (↑c.toNat : Int))
 (∃ (c : UInt8),
 ((0 : Int) ≤ (0 : Int) ∧ s0[Int.toNat (0 : Int)]? = some c) ∧
 If (leI (↑c.toNat : Int) (57 : Int)) (K Out.ret 38 [V.s s0, V.b true, V.undef] h)
 (K Out.normal 38 [V.s s0, V.b false, V.i IntKind.i64 (0 : Int)] h))
 (K Out.normal 38 [V.s s0, V.b false, V.i IntKind.i64 (0 : Int)] h))
  (K Out.normal 38 [V.s s0, V.b false, V.i IntKind.i64 (0 : Int)] h)) := by kernel_rfl
theorem f88_1 (s0 : List UInt8) (x3 : Int) (h : Heap) (K : Out → Nat → List V → Heap → Prop) : (codeP Try.Y (Try.Y.loc 88) 100 ((flat (loopB (post (flat (bodyOf Try.f88)))))) ⟨mk 38 (([0, 3] : List Nat).zip [V.s s0, V.i IntKind.i64 x3]), [], h⟩ (VQ [0, 2, 3] K)) =
  (If (ltI x3 (↑s0.length : Int))
  (∃ (c : UInt8),
 ((0 : Int) ≤ x3 ∧ s0[x3.toNat]? = some c) ∧
 ∃ (b : Bool),
 (PCon Try.Y (111 : Nat) [V.i IntKind.u8 (↑c.toNat : Int), V.b (ltI (0 : Int) x3)] fun (v : V) => v = V.b b) ∧
 If (!b) (K Out.ret 38 [V.s s0, V.b false, V.i IntKind.i64 x3] h)
 (K Out.normal 38 [V.s s0, V.undef, V.i IntKind.i64 (IntKind.i64.wrap (x3 + (1 : Int)))] h))
  (K (Out.exit 0) 38 [V.s s0, V.undef, V.i IntKind.i64 x3] h)) := by kernel_rfl
theorem f88_2 (s0 : List UInt8) (x3 : Int) (h : Heap) (K : Out → Nat → List V → Heap → Prop) : (codeP Try.Y (Try.Y.loc 88) 100 (((post (flat (bodyOf Try.f88))).drop 1)) ⟨mk 38 (([0, 3] : List Nat).zip [V.s s0, V.i IntKind.i64 x3]), [], h⟩ (VQ [2] K)) =
  (If (leI (1 : Int) (↑s0.length : Int)) (K Out.ret 38 [V.b (leI (↑s0.length : Int) (8 : Int))] h)
  (K Out.ret 38 [V.b false] h)) := by kernel_rfl
theorem f95_0 (s0 : List UInt8) (h : Heap) (K : Out → Nat → List V → Heap → Prop) : (codeP Try.Y (Try.Y.loc 95) 100 (pre (flat (bodyOf Try.f95))) ⟨(V.s s0 :: List.replicate 44 .undef), [], h⟩ (VQ [0, 2, 35, 36] K)) =
  (If (s0 == #[].toList) (K Out.ret 45 [V.s s0, V.b false, V.undef, V.undef] h)
  (If (ltI (8 : Int) (↑s0.length : Int)) (K Out.ret 45 [V.s s0, V.b false, V.undef, V.undef] h)
 (If ((↑s0.length : Int) == (1 : Int))
 (∃ (c : UInt8),
 ((0 : Int) ≤ (0 : Int) ∧ s0[Int.toNat (0 : Int)]? = some c) ∧
 ∃ (b : Bool),
 (PCon Try.Y (115 : Nat) [V.i IntKind.u8 (↑c.toNat : Int)] fun (v : V) => v = V.b b) ∧
 If b (K Out.ret 45 [V.s s0, V.b true, V.undef, V.undef] h)
 (∃ (c : UInt8),
 ((0 : Int) ≤ (0 : Int) ∧ s0[Int.toNat (0 : Int)]? = some c) ∧
 If (leI (48 : Int) (↑c.toNat : Int))
 (∃ (c : UInt8),
 ((0 : Int) ≤ (0 : Int) ∧ s0[Int.toNat (0 : Int)]? = some c) ∧
 K Out.ret 45 [V.s s0, V.b (leI (↑c.toNat : Int) (57 : Int)), V.undef, V.undef] h)
 (K Out.ret 45 [V.s s0, V.b false, V.undef, V.undef] h)))
 (∃ (c : UInt8),
 ((0 : Int) ≤ (0 : Int) ∧ s0[Int.toNat (0 : Int)]? = some c) ∧
 ∃ (b : Bool),
 (PCon Try.Y (115 : Nat) [V.i IntKind.u8 (↑c.toNat : Int)] fun (v : V) => v = V.b b) ∧
 If (!b) (K Out.ret 45 [V.s s0, V.b false, V.undef, V.undef] h)
 (K Out.normal 45
 [V.s s0, V.b false, V.i IntKind.i64 (↑s0.length : Int), V.i IntKind.i64 (0 : Int)] h))))) := by kernel_rfl
theorem f95_1 (s0 : List UInt8) (x36 : Int) (h : Heap) (K : Out → Nat → List V → Heap → Prop) : (codeP Try.Y (Try.Y.loc 95) 100 ((flat (loopB (post (flat (bodyOf Try.f95)))))) ⟨mk 45 (([0, 35, 36] : List Nat).zip [V.s s0, V.i IntKind.i64 (↑s0.length : Int), V.i IntKind.i64 x36]), [], h⟩ (VQ [0, 2, 35, 36] K)) =
  (If (ltI x36 (↑s0.length : Int))
  (∃ (c : UInt8),
 ((0 : Int) ≤ x36 ∧ s0[x36.toNat]? = some c) ∧
 ∃ (b : Bool),
 (PCon Try.Y (116 : Nat) [V.i IntKind.u8 (↑c.toNat : Int)] fun (v : V) => v = V.b b) ∧
 If (!b)
 (K Out.ret 45 [V.s s0, V.b false, V.i IntKind.i64 (↑s0.length : Int), V.i IntKind.i64 x36] h)
 (K Out.normal 45
 [V.s s0, V.undef, V.i IntKind.i64 (↑s0.length : Int),
 V.i IntKind.i64 (IntKind.i64.wrap (x36 + (1 : Int)))]
 h))
  (K (Out.exit 1) 45 [V.s s0, V.undef, V.i IntKind.i64 (↑s0.length : Int), V.i IntKind.i64 x36] h)) := by kernel_rfl
theorem f95_2  (h : Heap) (K : Out → Nat → List V → Heap → Prop) : (codeP Try.Y (Try.Y.loc 95) 100 (((post (flat (bodyOf Try.f95))).drop 1)) ⟨mk 45 (([] : List Nat).zip []), [], h⟩ (VQ [2] K)) =
  (K Out.ret 45 [V.b true] h) := by kernel_rfl
theorem f111_0 (x0 : Int) (b1 : Bool) (h : Heap) (K : Out → Nat → List V → Heap → Prop) : (codeP Try.Y (Try.Y.loc 111) 100 ((flat (bodyOf Try.f111))) ⟨(V.i IntKind.u8 x0 :: V.b b1 :: List.replicate 24 .undef), [], h⟩ (VQ [4] K)) =
  (If (leI (97 : Int) x0)
  (If (leI x0 (122 : Int)) (K Out.ret 26 [V.b true] h)
 (If b1
 (If (leI (48 : Int) x0)
 (If (leI x0 (57 : Int)) (K Out.ret 26 [V.b true] h)
 (K Out.ret 26 [V.b (x0 == (95 : Int))] h))
 (K Out.ret 26 [V.b (x0 == (95 : Int))] h))
 (K Out.ret 26 [V.b false] h)))
  (If b1
 (If (leI (48 : Int) x0)
 (If (leI x0 (57 : Int)) (K Out.ret 26 [V.b true] h) (K Out.ret 26 [V.b (x0 == (95 : Int))] h))
 (K Out.ret 26 [V.b (x0 == (95 : Int))] h))
 (K Out.ret 26 [V.b false] h))) := by kernel_rfl
theorem f115_0 (x0 : Int) (h : Heap) (K : Out → Nat → List V → Heap → Prop) : (codeP Try.Y (Try.Y.loc 115) 100 ((flat (bodyOf Try.f115))) ⟨(V.i IntKind.u8 x0 :: List.replicate 8 .undef), [], h⟩ (VQ [2] K)) =
  (If (leI (97 : Int) x0) (K Out.ret 9 [V.b (leI x0 (122 : Int))] h) (K Out.ret 9 [V.b false] h)) := by kernel_rfl
theorem f116_0 (x0 : Int) (h : Heap) (K : Out → Nat → List V → Heap → Prop) : (codeP Try.Y (Try.Y.loc 116) 100 ((flat (bodyOf Try.f116))) ⟨(V.i IntKind.u8 x0 :: List.replicate 16 .undef), [], h⟩ (VQ [2] K)) =
  (∃ (b : Bool),
  (PCon Try.Y (115 : Nat) [V.i IntKind.u8 x0] fun (v : V) => v = V.b b) ∧
 If b (K Out.ret 17 [V.b true] h)
 (If (leI (48 : Int) x0)
 (If (leI x0 (57 : Int)) (K Out.ret 17 [V.b true] h)
 (K Out.ret 17 [V.b (x0 == (95 : Int))] h))
 (K Out.ret 17 [V.b (x0 == (95 : Int))] h))) := by kernel_rfl
theorem f118_0 (x0Kind : Int) (s0Text : List UInt8) (x0Lo : Int) (x0Hi : Int) (x0To : Int) (h : Heap) (K : Out → Nat → List V → Heap → Prop) : (codeP Try.Y (Try.Y.loc 118) 100 ((flat (bodyOf Try.f118))) ⟨(V.agg [V.i IntKind.i64 x0Kind, V.s s0Text, V.i IntKind.i64 x0Lo, V.i IntKind.i64 x0Hi, V.i IntKind.i64 x0To] :: List.replicate 27 .undef), [], h⟩ (VQ [2] K)) =
  (If (leI (0 : Int) x0Lo)
  (If (leI x0Lo (9 : Int))
 (If (x0Hi == (-1 : Int)) (K Out.ret 28 [V.b true] h)
 (If (leI x0Lo x0Hi) (K Out.ret 28 [V.b (leI x0Hi (9 : Int))] h) (K Out.ret 28 [V.b false] h)))
 (K Out.ret 28 [V.b false] h))
  (K Out.ret 28 [V.b false] h)) := by kernel_rfl
end Go.Y

/- Names, by contracts. -/
namespace Go.Y
open Go.Proofs
set_option maxRecDepth 100000

theorem ifY' {b : Bool} {P Q : Prop} (hb : b = true) (hp : P) : If b P Q := if_mk (fun _ => hp) (fun h => by rw [hb] at h; cases h)
theorem ifN' {b : Bool} {P Q : Prop} (hb : b = false) (hp : Q) : If b P Q := if_mk (fun h => by rw [hb] at h; cases h) (fun _ => hp)

theorem tree_con {Y : YP} (hY : YOK Y) {f : FuncId} {fn : Func} (hf : Y.P.funcs[f]? = some fn) (hb : fn.body.isSome = true) {args : List V} (hc : coldAll args = true) {P : V → Prop} {slots : List Nat} {env' : List V} {T : (Out → Nat → List V → Heap → Prop) → Prop}
    (tree : ∀ K, codeP Y (Y.loc f) 100 (flat (bodyOf fn)) ⟨env', [], .empty⟩ (VQ slots K) = T K) (he : args ++ List.replicate (fn.ntmps - args.length) .undef = env')
    (hfin : T (Fin Y fn slots (fun v h => ∃ r, Frz h v r ∧ P r))) : PCon Y f args P := by
  refine pcon_of hY hf hb hc ?_
  rw [he]
  refine end_rule hY (loc := Y.loc f) 100 slots ?_
  rw [tree]
  exact hfin

def letterC (x : Int) : Bool := leI 97 x && leI x 122
def digitC (x : Int) : Bool := leI 48 x && leI x 57
def withC (x : Int) : Bool := letterC x || digitC x || x == 95

theorem letter_con (x : Int) : PCon Try.Y 115 [.i .u8 x] (· = .b (letterC x)) := by
  refine tree_con Try.Yok (fn := Try.f115) (by kernel_rfl) (by kernel_rfl) rfl (fun K => f115_0 x .empty K) rfl ?_
  refine if_mk (fun h => finV1 (.inr rfl) rfl (.b _) ?_) (fun h => finV1 (.inr rfl) rfl (.b _) ?_)
  · simp [letterC, h]
  · simp [letterC, h]
theorem within_con (x : Int) : PCon Try.Y 116 [.i .u8 x] (· = .b (withC x)) := by
  refine tree_con Try.Yok (fn := Try.f116) (by kernel_rfl) (by kernel_rfl) rfl (fun K => f116_0 x .empty K) rfl ?_
  refine ⟨_, letter_con x, ?_⟩
  refine if_mk (fun h => finV1 (.inr rfl) rfl (.b _) (by simp [withC, h])) (fun h => if_mk (fun h1 => if_mk (fun h2 => finV1 (.inr rfl) rfl (.b _) ?_) (fun h2 => finV1 (.inr rfl) rfl (.b _) ?_)) (fun h1 => finV1 (.inr rfl) rfl (.b _) ?_))
  · simp [withC, digitC, h, h1, h2]
  · simp [withC, digitC, h, h1, h2]
  · simp [withC, digitC, h, h1]
def smallC (x : Int) (b : Bool) : Bool := letterC x || b && (digitC x || x == 95)
theorem rltr_con (x : Int) (b : Bool) : PCon Try.Y 111 [.i .u8 x, .b b] (· = .b (smallC x b)) := by
  refine tree_con Try.Yok (fn := Try.f111) (by kernel_rfl) (by kernel_rfl) rfl (fun K => f111_0 x b .empty K) rfl ?_
  have fin : ∀ y : Bool, y = smallC x b → Fin Try.Y Try.f111 [4] (fun v h => ∃ r, Frz h v r ∧ r = .b (smallC x b)) .ret 26 [.b y] .empty := fun y e => finV1 (.inr rfl) rfl (.b _) (by rw [e])
  have rest : letterC x = false → If b (If (leI 48 x) (If (leI x 57) (Fin Try.Y Try.f111 [4] (fun v h => ∃ r, Frz h v r ∧ r = .b (smallC x b)) .ret 26 [.b true] .empty) (Fin Try.Y Try.f111 [4] (fun v h => ∃ r, Frz h v r ∧ r = .b (smallC x b)) .ret 26 [.b (x == 95)] .empty)) (Fin Try.Y Try.f111 [4] (fun v h => ∃ r, Frz h v r ∧ r = .b (smallC x b)) .ret 26 [.b (x == 95)] .empty)) (Fin Try.Y Try.f111 [4] (fun v h => ∃ r, Frz h v r ∧ r = .b (smallC x b)) .ret 26 [.b false] .empty) := by
    intro hl
    refine if_mk (fun h => if_mk (fun h1 => if_mk (fun h2 => fin _ ?_) (fun h2 => fin _ ?_)) (fun h1 => fin _ ?_)) (fun h => fin _ ?_)
    · simp [smallC, hl, h, digitC, h1, h2]
    · simp [smallC, hl, h, digitC, h1, h2]
    · simp [smallC, hl, h, digitC, h1]
    · simp [smallC, hl, h]
  refine if_mk (fun h => if_mk (fun h1 => fin _ (by simp [smallC, letterC, h, h1])) (fun h1 => rest (by simp [letterC, h1]))) (fun h => rest (by simp [letterC, h]))

def smallAll : List UInt8 → Bool
  | [] => true
  | c :: r => letterC c.toNat && r.all fun c => withC c.toNat
def oneDigit : List UInt8 → Bool
  | [c] => digitC c.toNat
  | _ => false
def nameS (s : List UInt8) : Bool := decide (1 ≤ s.length) && decide (s.length ≤ 8) && (oneDigit s || smallAll s)

theorem smallAll_snoc (a : List UInt8) (c : UInt8) : smallAll (a ++ [c]) = (smallAll a && smallC c.toNat (decide (0 < a.length))) := by
  cases a with
  | nil => simp [smallAll, smallC]
  | cons x a => simp [smallAll, smallC, withC, List.all_append, Bool.or_assoc, Bool.and_assoc]
theorem smallAll_no {s : List UInt8} {i : Nat} (hi : i < s.length) (h : smallC s[i].toNat (decide (0 < i)) = false) : smallAll s = false := by
  cases s with
  | nil => simp at hi
  | cons x r =>
    cases i with
    | zero =>
      have : letterC x.toNat = false := by simpa [smallC] using h
      simp [smallAll, this]
    | succ j =>
      have hj : j < r.length := by simpa using hi
      have h' : withC r[j].toNat = false := by simpa [smallC, withC, Bool.or_assoc] using h
      have : (r.all fun c => withC c.toNat) = false := by
        rw [List.all_eq_false]
        exact ⟨r[j], List.getElem_mem hj, by simp [h']⟩
      simp [smallAll, this]

theorem rname_con (s : List UInt8) (hs : s.length < 2 ^ 30) : PCon Try.Y 88 [.s s] (· = .b (nameS s)) := by
  refine pcon_of Try.Yok (fn := Try.f88) (by kernel_rfl) (by kernel_rfl) rfl ?_
  refine pre_rule Try.Yok (n := 38) (loc := Try.Y.loc 88) 100 [0, 2, 3] (by kernel_rfl) ?_
  refine Eq.mpr (f88_0 s .empty _) ?_
  have main : oneDigit s = false → PreV Try.Y 38 [0, 2, 3] (post (flat (bodyOf Try.f88))) (FinS Try.Y Try.f88 fun v h => ∃ r, Frz h v r ∧ r = .b (nameS s)) .normal 38 [.s s, .b false, .i .i64 0] .empty := by
    intro hod
    refine ⟨rfl, loop2 [0, 3] [0, 2, 3] rfl (by kernel_rfl) (fun m vs _ => ∃ i : Nat, vs = [.s s, .i .i64 (i : Nat)] ∧ i ≤ s.length ∧ m = s.length - i ∧ smallAll (s.take i) = true) s.length mk_len ⟨0, rfl, by omega, by omega, by simp [smallAll]⟩ ?_⟩
    rintro m vs h ⟨i, rfl, hi, rfl, hno⟩
    refine all_rule Try.Yok (loc := Try.Y.loc 88) 100 [0, 2, 3] ?_
    refine Eq.mpr (f88_1 s (i : Nat) h _) ?_
    refine if_lt_nat (fun hlt => ?_) (fun hge => ?_)
    · refine ⟨s[i], ⟨by omega, by rw [Int.toNat_natCast]; exact List.getElem?_eq_getElem hlt⟩, _, rltr_con _ _, ?_⟩
      rw [ltI_pos]
      refine if_mk (fun hc => ?_) (fun hc => ?_)
      · have hc : smallC s[i].toNat (decide (0 < i)) = false := by simpa using hc
        exact fin_at (.inr rfl) rfl ⟨_, .b _, by simp [nameS, hod, smallAll_no hlt hc]⟩
      · have hc : smallC s[i].toNat (decide (0 < i)) = true := by simpa using hc
        refine ⟨rfl, s.length - (i + 1), by omega, i + 1, by rw [wrap_succ (by omega)]; rfl, by omega, rfl, ?_⟩
        have hl : (s.take i).length = i := by simp; omega
        rw [List.take_succ_eq_append_getElem hlt, smallAll_snoc, hno, hl, hc]; rfl
    · refine roundW_exit [0, 3] (by kernel_rfl) rfl rfl ?_
      refine end_rule Try.Yok (loc := Try.Y.loc 88) 100 [2] ?_
      refine Eq.mpr (f88_2 s (i : Nat) h _) ?_
      rw [List.take_of_length_le hge] at hno
      refine if_le (fun h1 => finV1 (.inr rfl) rfl (.b _) ?_) (fun h1 => finV1 (.inr rfl) rfl (.b _) ?_)
      · have h1 : 1 ≤ s.length := by omega
        have : leI (s.length : Nat) 8 = decide (s.length ≤ 8) := by unfold leI; by_cases hx : s.length ≤ 8 <;> simp [hx] <;> omega
        simp only [nameS, h1, hno, this, decide_true, Bool.or_true, Bool.true_and, Bool.and_true]
      · have h1 : ¬ 1 ≤ s.length := by omega
        simp [nameS, h1]
  have notd : (s.length = 1 → False) → oneDigit s = false := by
    intro h
    match s, h with
    | [], _ => rfl
    | [c], h => exact absurd rfl h
    | _ :: _ :: _, _ => rfl
  refine if_mk (fun h1 => ?_) (fun h1 => main (notd fun e => by simp [e] at h1))
  have h1 : s.length = 1 := by simp at h1; omega
  obtain ⟨c, rfl⟩ : ∃ c, s = [c] := by
    match s, h1 with
    | [c], _ => exact ⟨c, rfl⟩
  refine ⟨c, ⟨by omega, rfl⟩, if_mk (fun h2 => ⟨c, ⟨by omega, rfl⟩, if_mk (fun h3 => fin_at (.inr rfl) rfl ⟨_, .b _, ?_⟩) (fun h3 => main ?_)⟩) (fun h2 => main ?_)⟩
  · simp [nameS, oneDigit, digitC, h2, h3]
  · simp [oneDigit, digitC, h3]
  · simp [oneDigit, digitC, h2]

theorem name_con (s : List UInt8) : PCon Try.Y 95 [.s s] (· = .b (nameS s)) := by
  refine pcon_of Try.Yok (fn := Try.f95) (by kernel_rfl) (by kernel_rfl) rfl ?_
  refine pre_rule Try.Yok (n := 45) (loc := Try.Y.loc 95) 100 [0, 2, 35, 36] (by kernel_rfl) ?_
  refine Eq.mpr (f95_0 s .empty _) ?_
  have fin : ∀ (b : Bool) (h : Heap), b = nameS s → ∃ r, Frz h (.b b) r ∧ r = .b (nameS s) := fun b h e => ⟨_, .b _, by rw [e]⟩
  refine if_mk (fun h0 => fin_at (.inr rfl) rfl (fin false _ (by rw [show s = [] by simpa using h0]; rfl))) (fun h0 => ?_)
  have h0 : s ≠ [] := by simpa using h0
  refine if_lt (fun h8 => fin_at (.inr rfl) rfl (fin false _ (by simp [nameS, show ¬ s.length ≤ 8 by omega]))) (fun h8 => ?_)
  have h8 : s.length ≤ 8 := by omega
  match s, h0, h8, fin with
  | c :: r, _, h8, fin =>
  refine if_mk (fun h1 => ?_) (fun h1 => ?_)
  · have h1 : r = [] := by simp at h1; exact List.eq_nil_of_length_eq_zero (by omega)
    subst h1
    refine ⟨c, ⟨by omega, rfl⟩, _, letter_con _, if_mk (fun hl => ?_) (fun hl => ⟨c, ⟨by omega, rfl⟩, if_mk (fun h2 => ⟨c, ⟨by omega, rfl⟩, ?_⟩) (fun h2 => ?_)⟩)⟩
    · exact fin_at (.inr rfl) rfl (fin _ _ (by simp [nameS, smallAll, hl]))
    · exact fin_at (.inr rfl) rfl (fin _ _ (by simp [nameS, smallAll, oneDigit, digitC, hl, h2]))
    · exact fin_at (.inr rfl) rfl (fin _ _ (by simp [nameS, smallAll, oneDigit, digitC, hl, h2]))
  · have h1 : r ≠ [] := fun e => by subst e; simp at h1
    have hod : oneDigit (c :: r) = false := by
      match r, h1 with
      | _ :: _, _ => rfl
    refine ⟨c, ⟨by omega, rfl⟩, _, letter_con _, if_mk (fun hl => ?_) (fun hl => ?_)⟩
    · have hl : letterC c.toNat = false := by simpa using hl
      exact fin_at (.inr rfl) rfl (fin _ _ (by simp [nameS, hod, smallAll, hl]))
    have hl : letterC c.toNat = true := by simpa using hl
    have hw : withC c.toNat = true := by simp [withC, hl]
    refine ⟨rfl, loop2 [0, 35, 36] [0, 2, 35, 36] rfl (by kernel_rfl) (fun m vs _ => ∃ i : Nat, vs = [.s (c :: r), .i .i64 ((c :: r).length : Nat), .i .i64 (i : Nat)] ∧ i ≤ (c :: r).length ∧ m = (c :: r).length - i ∧ ((c :: r).take i).all (fun c => withC c.toNat) = true) (c :: r).length mk_len ⟨0, rfl, by omega, by omega, by simp⟩ ?_⟩
    rintro m vs h ⟨i, rfl, hi, rfl, hno⟩
    refine all_rule Try.Yok (loc := Try.Y.loc 95) 100 [0, 2, 35, 36] ?_
    refine Eq.mpr (f95_1 (c :: r) (i : Nat) h _) ?_
    refine if_lt_nat (fun hlt => ?_) (fun hge => ?_)
    · refine ⟨(c :: r)[i], ⟨by omega, by rw [Int.toNat_natCast]; exact List.getElem?_eq_getElem hlt⟩, _, within_con _, if_mk (fun hc => ?_) (fun hc => ?_)⟩
      · have hc : withC (c :: r)[i].toNat = false := by simpa using hc
        refine fin_at (.inr rfl) rfl (fin _ _ ?_)
        have hi0 : i ≠ 0 := fun e => by subst e; simp [hw] at hc
        have : smallAll (c :: r) = false := smallAll_no hlt (by
          have : decide (0 < i) = true := by simp; omega
          rw [this]
          simpa [smallC, withC, Bool.or_assoc] using hc)
        simp [nameS, hod, this]
      · have hc : withC (c :: r)[i].toNat = true := by simpa using hc
        refine ⟨rfl, (c :: r).length - (i + 1), by omega, i + 1, by rw [wrap_succ (by omega)]; rfl, by omega, rfl, ?_⟩
        rw [List.take_succ_eq_append_getElem hlt, List.all_append, hno]
        simp only [List.all_cons, List.all_nil, hc, Bool.and_true]
    · refine roundW_exit [] (by kernel_rfl) rfl rfl ?_
      refine end_rule Try.Yok (loc := Try.Y.loc 95) 100 [2] ?_
      refine Eq.mpr (f95_2 h _) ?_
      rw [List.take_of_length_le hge] at hno
      have hr : (r.all fun c => withC c.toNat) = true := by simpa [hw] using hno
      refine finV1 (.inr rfl) rfl (.b _) ?_
      simp only [nameS, smallAll, hl, hr, h8]
      simp
end Go.Y

/- What the pieces of functions come to: printed by program. -/
namespace Go.Y
open Go.Proofs
set_option maxRecDepth 100000
set_option maxHeartbeats 0
theorem f34_0 (b0On : Bool) (b0Shut : Bool) (b0Eof : Bool) (x0Place : Int) (x0Clock : Int) (s0Typed : List UInt8) (cs0Lines : List V) (n0Lines : Nat) (s0Fly : List UInt8) (cs0Ages : List V) (n0Ages : Nat) (s0Ready : List UInt8) (s0Buffer : List UInt8) (x1Cap : Int) (cs1Places : List V) (n1Places : Nat) (s2 : List UInt8) (h : Heap) (K : Out → Nat → List V → Heap → Prop) : (codeP Try.Y (Try.Y.loc 34) 100 (pre (flat (bodyOf Try.f34))) ⟨(V.agg [V.b b0On, V.b b0Shut, V.b b0Eof, V.i IntKind.i64 x0Place, V.i IntKind.i64 x0Clock, V.s s0Typed, V.ts cs0Lines n0Lines none, V.s s0Fly, V.ts cs0Ages n0Ages none, V.s s0Ready, V.s s0Buffer] :: V.agg [V.i IntKind.i64 x1Cap, V.ts cs1Places n1Places none] :: V.s s2 :: List.replicate 68 .undef), [], h⟩ (VQ [2, 3, 4, 6, 7, 8] K)) =
  (∃ (b : Bool),
  (PCon Try.Y (24 : Nat)
 [V.agg
 [V.b b0On, V.b b0Shut, V.b b0Eof, V.i IntKind.i64 x0Place, V.i IntKind.i64 x0Clock, V.s s0Typed,
 V.ts cs0Lines n0Lines none, V.s s0Fly, V.ts cs0Ages n0Ages none, V.s s0Ready, V.s s0Buffer],
 V.agg [V.i IntKind.i64 x1Cap, V.ts cs1Places n1Places none]]
 fun (v : V) => v = V.b b) ∧
 If (!b)
 (K Out.ret 71
 [V.s s2,
 V.lb
 [V.b b0On, V.b b0Shut, V.b b0Eof, V.i IntKind.i64 x0Place, V.i IntKind.i64 x0Clock, V.s s0Typed,
 V.ts cs0Lines n0Lines none, V.s s0Fly, V.ts cs0Ages n0Ages none, V.s s0Ready, V.s s0Buffer],
 V.lb [V.i IntKind.i64 x1Cap, V.ts cs1Places n1Places none],
 V.lb
 [V.b false, V.b false, V.b false, V.i IntKind.i64 (0 : Int), V.i IntKind.i64 (0 : Int), V.s [],
 V.sl none 0 (some 0) 0, V.s [],
 V.sl none 0 (some 0) 0, V.s [], V.s []],
 V.i IntKind.i64 (5 : Int), V.undef]
 h)
 (If (!b0On)
 (K Out.ret 71
 [V.s s2,
 V.lb
 [V.b b0On, V.b b0Shut, V.b b0Eof, V.i IntKind.i64 x0Place, V.i IntKind.i64 x0Clock, V.s s0Typed,
 V.ts cs0Lines n0Lines none, V.s s0Fly, V.ts cs0Ages n0Ages none, V.s s0Ready, V.s s0Buffer],
 V.lb [V.i IntKind.i64 x1Cap, V.ts cs1Places n1Places none],
 V.lb
 [V.b false, V.b false, V.b false, V.i IntKind.i64 (0 : Int), V.i IntKind.i64 (0 : Int), V.s [],
 V.sl none 0 (some 0) 0, V.s [],
 V.sl none 0 (some 0) 0, V.s [], V.s []],
 V.i IntKind.i64 (11 : Int), V.undef]
 h)
 (If b0Shut
 (K Out.ret 71
 [V.s s2,
 V.lb
 [V.b b0On, V.b b0Shut, V.b b0Eof, V.i IntKind.i64 x0Place, V.i IntKind.i64 x0Clock, V.s s0Typed,
 V.ts cs0Lines n0Lines none, V.s s0Fly, V.ts cs0Ages n0Ages none, V.s s0Ready, V.s s0Buffer],
 V.lb [V.i IntKind.i64 x1Cap, V.ts cs1Places n1Places none],
 V.lb
 [V.b false, V.b false, V.b false, V.i IntKind.i64 (0 : Int), V.i IntKind.i64 (0 : Int), V.s [],
 V.sl none 0 (some 0) 0, V.s [],
 V.sl none 0 (some 0) 0, V.s [], V.s []],
 V.i IntKind.i64 (13 : Int), V.undef]
 h)
 (K Out.normal 71
 [V.s s2,
 V.lb
 [V.b b0On, V.b b0Shut, V.b b0Eof, V.i IntKind.i64 x0Place, V.i IntKind.i64 x0Clock, V.s s0Typed,
 V.ts cs0Lines n0Lines none, V.s s0Fly, V.ts cs0Ages n0Ages none, V.s s0Ready, V.s s0Buffer],
 V.lb [V.i IntKind.i64 x1Cap, V.ts cs1Places n1Places none],
 V.lb
 [V.b false, V.b false, V.b false, V.i IntKind.i64 (0 : Int), V.i IntKind.i64 (0 : Int), V.s [],
 V.sl none 0 (some 0) 0, V.s [],
 V.sl none 0 (some 0) 0, V.s [], V.s []],
 V.i IntKind.i64 (0 : Int), V.i IntKind.i64 (0 : Int)]
 h)))) := by kernel_rfl
theorem f99_0 (x0Kind : Int) (s0Text : List UInt8) (x0Lo : Int) (x0Hi : Int) (x0To : Int) (x1Cap : Int) (cs1Places : List V) (n1Places : Nat) (h : Heap) (K : Out → Nat → List V → Heap → Prop) : (codeP Try.Y (Try.Y.loc 99) 100 ((flat (bodyOf Try.f99))) ⟨(V.agg [V.i IntKind.i64 x0Kind, V.s s0Text, V.i IntKind.i64 x0Lo, V.i IntKind.i64 x0Hi, V.i IntKind.i64 x0To] :: V.agg [V.i IntKind.i64 x1Cap, V.ts cs1Places n1Places none] :: List.replicate 78 .undef), [], h⟩ (VQ [4] K)) =
  (If (leI (0 : Int) x0To)
  (If (x0Kind == (1 : Int))
 (If (ltI x0To (↑n1Places : Int))
 (∃ (b : Bool),
 (PCon Try.Y (118 : Nat)
 [V.agg
 [V.i IntKind.i64 x0Kind, V.s s0Text, V.i IntKind.i64 x0Lo, V.i IntKind.i64 x0Hi, V.i IntKind.i64 x0To]]
 fun (v : V) => v = V.b b) ∧
 If b
 (If (!s0Text == #[].toList) (K Out.ret 80 [V.b (leI (↑s0Text.length : Int) x1Cap)] h)
 (K Out.ret 80 [V.b false] h))
 (K Out.ret 80 [V.b false] h))
 (K Out.ret 80 [V.b false] h))
 (If (x0Kind == (2 : Int))
 (∃ (cs : List V),
 ∃ (l : Nat),
 ∃ (c : Option Nat),
 ∃ (n : Int),
 ∃ (n_1 : Int),
 (PCon Try.Y (13 : Nat) [V.s s0Text] fun (v : V) =>
 v = V.tup [V.ts cs l c, V.i IntKind.i64 n, V.i IntKind.i64 n_1]) ∧
 If (ltI x0To (↑n1Places : Int))
 (If (x0Lo == (0 : Int))
 (If (x0Hi == (0 : Int)) (K Out.ret 80 [V.b (n_1 == (0 : Int))] h)
 (K Out.ret 80 [V.b false] h))
 (K Out.ret 80 [V.b false] h))
 (K Out.ret 80 [V.b false] h))
 (If (x0Kind == (3 : Int))
 (If (x0To == (0 : Int))
 (If (s0Text == #[].toList)
 (∃ (b : Bool),
 (PCon Try.Y (118 : Nat)
 [V.agg
 [V.i IntKind.i64 x0Kind, V.s s0Text, V.i IntKind.i64 x0Lo, V.i IntKind.i64 x0Hi,
 V.i IntKind.i64 x0To]]
 fun (v : V) => v = V.b b) ∧
 K Out.ret 80 [V.b b] h)
 (K Out.ret 80 [V.b false] h))
 (K Out.ret 80 [V.b false] h))
 (K Out.ret 80 [V.b false] h))))
  (If (x0Kind == (1 : Int)) (K Out.ret 80 [V.b false] h)
 (If (x0Kind == (2 : Int))
 (∃ (cs : List V),
 ∃ (l : Nat),
 ∃ (c : Option Nat),
 ∃ (n : Int),
 ∃ (n_1 : Int),
 (PCon Try.Y (13 : Nat) [V.s s0Text] fun (v : V) =>
 v = V.tup [V.ts cs l c, V.i IntKind.i64 n, V.i IntKind.i64 n_1]) ∧
 K Out.ret 80 [V.b false] h)
 (If (x0Kind == (3 : Int))
 (If (x0To == (0 : Int))
 (If (s0Text == #[].toList)
 (∃ (b : Bool),
 (PCon Try.Y (118 : Nat)
 [V.agg
 [V.i IntKind.i64 x0Kind, V.s s0Text, V.i IntKind.i64 x0Lo, V.i IntKind.i64 x0Hi,
 V.i IntKind.i64 x0To]]
 fun (v : V) => v = V.b b) ∧
 K Out.ret 80 [V.b b] h)
 (K Out.ret 80 [V.b false] h))
 (K Out.ret 80 [V.b false] h))
 (K Out.ret 80 [V.b false] h))))) := by kernel_rfl
theorem f47_0 (x0Cap : Int) (cs0Places : List V) (n0Places : Nat) (h : Heap) (K : Out → Nat → List V → Heap → Prop) : (codeP Try.Y (Try.Y.loc 47) 100 (pre (flat (bodyOf Try.f47))) ⟨(V.agg [V.i IntKind.i64 x0Cap, V.ts cs0Places n0Places none] :: List.replicate 83 .undef), [], h⟩ (VQ [1, 2, 3, 10] K)) =
  (If (ltI x0Cap (1 : Int))
  (K Out.ret 84 [V.lb [V.i IntKind.i64 x0Cap, V.ts cs0Places n0Places none], V.b false, V.undef, V.b true] h)
  (If (ltI (16 : Int) x0Cap)
 (K Out.ret 84 [V.lb [V.i IntKind.i64 x0Cap, V.ts cs0Places n0Places none], V.b false, V.undef, V.b false]
 h)
 (If (ltI (↑n0Places : Int) (1 : Int))
 (K Out.ret 84
 [V.lb [V.i IntKind.i64 x0Cap, V.ts cs0Places n0Places none], V.b false, V.undef, V.b false] h)
 (If (ltI (16 : Int) (↑n0Places : Int))
 (K Out.ret 84
 [V.lb [V.i IntKind.i64 x0Cap, V.ts cs0Places n0Places none], V.b false, V.undef, V.b false] h)
 (K Out.normal 84
 [V.lb [V.i IntKind.i64 x0Cap, V.ts cs0Places n0Places none], V.b false, V.i IntKind.i64 (0 : Int), V.b false]
 h))))) := by kernel_rfl
theorem f47_1 (x0Cap : Int) (cs0Places : List V) (n0Places : Nat) (x3 : Int) (b10z5 : Bool) (h : Heap) (K : Out → Nat → List V → Heap → Prop) : (codeP Try.Y (Try.Y.loc 47) 100 (pre (flat (loopB (post (flat (bodyOf Try.f47)))))) ⟨mk 84 (([1, 3, 10] : List Nat).zip [V.lb [V.i IntKind.i64 x0Cap, V.ts cs0Places n0Places none], V.i IntKind.i64 x3, V.b b10z5]), [], h⟩ (VQ [1, 3, 10] K)) =
  (If (ltI x3 (↑n0Places : Int))
  (K Out.normal 84 [V.lb [V.i IntKind.i64 x0Cap, V.ts cs0Places n0Places none], V.i IntKind.i64 x3, V.b b10z5]
 h)
  (K (Out.exit 0) 84
 [V.lb [V.i IntKind.i64 x0Cap, V.ts cs0Places n0Places none], V.i IntKind.i64 x3, V.b b10z5] h)) := by kernel_rfl
theorem f47_2 (x0Cap : Int) (cs0Places : List V) (n0Places : Nat) (x3 : Int) (b10z5 : Bool) (h : Heap) (K : Out → Nat → List V → Heap → Prop) : (codeP Try.Y (Try.Y.loc 47) 100 (pre (flat (blockB (post (flat (loopB (post (flat (bodyOf Try.f47))))))))) ⟨mk 84 (([1, 3, 10] : List Nat).zip [V.lb [V.i IntKind.i64 x0Cap, V.ts cs0Places n0Places none], V.i IntKind.i64 x3, V.b b10z5]), [], h⟩ (VQ [1, 2, 3, 4, 5, 10] K)) =
  (((0 : Int) ≤ x3 ∧ x3 < (↑n0Places : Int)) ∧
  ∃ (s : List UInt8),
 ∃ (b : Bool),
 ∃ (cs : List V),
 ∃ (l : Nat),
 ∃ (c : Option Nat),
 takeX 3 (List.drop (x3.toNat * (3 : Nat)) cs0Places) = some [V.s s, V.b b, V.ts cs l c] ∧
 ∃ (b_1 : Bool),
 (PCon Try.Y (88 : Nat) [V.s s] fun (v : V) => v = V.b b_1) ∧
 If (!b_1)
 (K Out.ret 84
 [V.lb [V.i IntKind.i64 x0Cap, V.ts cs0Places n0Places none], V.b false, V.i IntKind.i64 x3,
 V.lb [V.s s, V.b b, V.ts cs l c], V.undef, V.b b10z5]
 h)
 (∃ (c_1 : UInt8),
 ((0 : Int) ≤ (0 : Int) ∧ s[Int.toNat (0 : Int)]? = some c_1) ∧
 If (ltI (↑c_1.toNat : Int) (97 : Int))
 (K Out.ret 84
 [V.lb [V.i IntKind.i64 x0Cap, V.ts cs0Places n0Places none], V.b false, V.i IntKind.i64 x3,
 V.lb [V.s s, V.b b, V.ts cs l c], V.undef, V.b b10z5]
 h)
 (If (ltI (8 : Int) (↑l : Int))
 (K Out.ret 84
 [V.lb [V.i IntKind.i64 x0Cap, V.ts cs0Places n0Places none], V.b false,
 V.i IntKind.i64 x3, V.lb [V.s s, V.b b, V.ts cs l c], V.undef, V.b b10z5]
 h)
 (K Out.normal 84
 [V.lb [V.i IntKind.i64 x0Cap, V.ts cs0Places n0Places none], V.undef, V.i IntKind.i64 x3,
 V.lb [V.s s, V.b b, V.ts cs l c], V.i IntKind.i64 (0 : Int), V.b b10z5]
 h)))) := by kernel_rfl
theorem f47_3 (x0Cap : Int) (cs0Places : List V) (n0Places : Nat) (x3 : Int) (s4_0z4 : List UInt8) (b4_1z4 : Bool) (c4_2z2 : Option Nat) (cs4_2z2 : List V) (n4_2z2 : Nat) (b10z6 : Bool) (x5 : Int) (h : Heap) (K : Out → Nat → List V → Heap → Prop) : (codeP Try.Y (Try.Y.loc 47) 100 ((flat (loopB (post (flat (blockB (post (flat (loopB (post (flat (bodyOf Try.f47)))))))))))) ⟨mk 84 (([1, 3, 4, 5, 10] : List Nat).zip [V.lb [V.i IntKind.i64 x0Cap, V.ts cs0Places n0Places none], V.i IntKind.i64 x3, V.lb [V.s s4_0z4, V.b b4_1z4, V.ts cs4_2z2 n4_2z2 c4_2z2], V.i IntKind.i64 x5, V.b b10z6]), [], h⟩ (VQ [1, 2, 3, 4, 5, 10] K)) =
  (If (ltI x5 x3)
  (((0 : Int) ≤ x5 ∧ x5 < (↑n0Places : Int)) ∧
 ∃ (s : List UInt8),
 takeX 1 (List.drop (0 : Nat) (List.drop (x5.toNat * (3 : Nat)) cs0Places)) = some [V.s s] ∧
 If (s == s4_0z4)
 (K Out.ret 84
 [V.lb [V.i IntKind.i64 x0Cap, V.ts cs0Places n0Places none], V.b false, V.i IntKind.i64 x3,
 V.lb [V.s s4_0z4, V.b b4_1z4, V.ts cs4_2z2 n4_2z2 c4_2z2], V.i IntKind.i64 x5, V.b b10z6]
 h)
 (K Out.normal 84
 [V.lb [V.i IntKind.i64 x0Cap, V.ts cs0Places n0Places none], V.undef, V.i IntKind.i64 x3,
 V.lb [V.s s4_0z4, V.b b4_1z4, V.ts cs4_2z2 n4_2z2 c4_2z2],
 V.i IntKind.i64 (IntKind.i64.wrap (x5 + (1 : Int))), V.b b10z6]
 h))
  (K (Out.exit 2) 84
 [V.lb [V.i IntKind.i64 x0Cap, V.ts cs0Places n0Places none], V.undef, V.i IntKind.i64 x3,
 V.lb [V.s s4_0z4, V.b b4_1z4, V.ts cs4_2z2 n4_2z2 c4_2z2], V.i IntKind.i64 x5, V.b b10z6]
 h)) := by kernel_rfl
theorem f47_4 (x0Cap : Int) (cs0Places : List V) (n0Places : Nat) (x3 : Int) (c4_2z2 : Option Nat) (cs4_2z2 : List V) (n4_2z2 : Nat) (s4_0z5 : List UInt8) (b4_1z5 : Bool) (b10z7 : Bool) (h : Heap) (K : Out → Nat → List V → Heap → Prop) : (codeP Try.Y (Try.Y.loc 47) 100 (pre ((post (flat (blockB (post (flat (loopB (post (flat (bodyOf Try.f47))))))))).drop 1)) ⟨mk 84 (([1, 3, 4, 10] : List Nat).zip [V.lb [V.i IntKind.i64 x0Cap, V.ts cs0Places n0Places none], V.i IntKind.i64 x3, V.lb [V.s s4_0z5, V.b b4_1z5, V.ts cs4_2z2 n4_2z2 c4_2z2], V.b b10z7]), [], h⟩ (VQ [1, 3, 4, 6, 10] K)) =
  (K Out.normal 84
  [V.lb [V.i IntKind.i64 x0Cap, V.ts cs0Places n0Places none], V.i IntKind.i64 x3,
 V.lb [V.s s4_0z5, V.b b4_1z5, V.ts cs4_2z2 n4_2z2 c4_2z2], V.i IntKind.i64 (0 : Int), V.b b10z7]
  h) := by kernel_rfl
theorem f47_5 (x0Cap : Int) (cs0Places : List V) (n0Places : Nat) (x3 : Int) (c4_2z2 : Option Nat) (cs4_2z2 : List V) (n4_2z2 : Nat) (s4_0z6 : List UInt8) (b4_1z6 : Bool) (b10z8 : Bool) (x6z2 : Int) (h : Heap) (K : Out → Nat → List V → Heap → Prop) : (codeP Try.Y (Try.Y.loc 47) 100 ((flat (loopB (post ((post (flat (blockB (post (flat (loopB (post (flat (bodyOf Try.f47))))))))).drop 1))))) ⟨mk 84 (([1, 3, 4, 6, 10] : List Nat).zip [V.lb [V.i IntKind.i64 x0Cap, V.ts cs0Places n0Places none], V.i IntKind.i64 x3, V.lb [V.s s4_0z6, V.b b4_1z6, V.ts cs4_2z2 n4_2z2 c4_2z2], V.i IntKind.i64 x6z2, V.b b10z8]), [], h⟩ (VQ [1, 2, 3, 4, 6, 10] K)) =
  (If (ltI x6z2 (↑n4_2z2 : Int))
  (((0 : Int) ≤ x6z2 ∧ x6z2 < (↑n4_2z2 : Int)) ∧
 ∃ (n : Int),
 ∃ (s : List UInt8),
 ∃ (n_1 : Int),
 ∃ (n_2 : Int),
 ∃ (n_3 : Int),
 takeX 5 (List.drop (x6z2.toNat * (5 : Nat)) cs4_2z2) =
 some [V.i IntKind.i64 n, V.s s, V.i IntKind.i64 n_1, V.i IntKind.i64 n_2, V.i IntKind.i64 n_3] ∧
 ∃ (b : Bool),
 (PCon Try.Y (89 : Nat)
 [V.agg [V.i IntKind.i64 n, V.s s, V.i IntKind.i64 n_1, V.i IntKind.i64 n_2, V.i IntKind.i64 n_3],
 V.agg [V.i IntKind.i64 x0Cap, V.ts cs0Places n0Places none]]
 fun (v : V) => v = V.b b) ∧
 If (!b)
 (K Out.ret 84
 [V.lb [V.i IntKind.i64 x0Cap, V.ts cs0Places n0Places none], V.b false, V.i IntKind.i64 x3,
 V.lb [V.s s4_0z6, V.b b4_1z6, V.ts cs4_2z2 n4_2z2 c4_2z2], V.i IntKind.i64 x6z2, V.b b10z8]
 h)
 (K Out.normal 84
 [V.lb [V.i IntKind.i64 x0Cap, V.ts cs0Places n0Places none], V.undef, V.i IntKind.i64 x3,
 V.lb [V.s s4_0z6, V.b b4_1z6, V.ts cs4_2z2 n4_2z2 c4_2z2],
 V.i IntKind.i64 (IntKind.i64.wrap (x6z2 + (1 : Int))), V.b b10z8]
 h))
  (K (Out.exit 4) 84
 [V.lb [V.i IntKind.i64 x0Cap, V.ts cs0Places n0Places none], V.undef, V.i IntKind.i64 x3,
 V.lb [V.s s4_0z6, V.b b4_1z6, V.ts cs4_2z2 n4_2z2 c4_2z2], V.i IntKind.i64 x6z2, V.b b10z8]
 h)) := by kernel_rfl
theorem f47_6 (x0Cap : Int) (cs0Places : List V) (n0Places : Nat) (x3 : Int) (b10z9 : Bool) (h : Heap) (K : Out → Nat → List V → Heap → Prop) : (codeP Try.Y (Try.Y.loc 47) 100 (((post (flat (loopB (post (flat (bodyOf Try.f47)))))).drop 1)) ⟨mk 84 (([1, 3, 10] : List Nat).zip [V.lb [V.i IntKind.i64 x0Cap, V.ts cs0Places n0Places none], V.i IntKind.i64 x3, V.b b10z9]), [], h⟩ (VQ [1, 3, 10] K)) =
  (K Out.normal 84
  [V.lb [V.i IntKind.i64 x0Cap, V.ts cs0Places n0Places none], V.i IntKind.i64 (IntKind.i64.wrap (x3 + (1 : Int))),
 V.b b10z9]
  h) := by kernel_rfl
theorem f47_7  (h : Heap) (K : Out → Nat → List V → Heap → Prop) : (codeP Try.Y (Try.Y.loc 47) 100 (((post (flat (bodyOf Try.f47))).drop 1)) ⟨mk 84 (([] : List Nat).zip []), [], h⟩ (VQ [2] K)) =
  (K Out.ret 84 [V.b true] h) := by kernel_rfl
end Go.Y
