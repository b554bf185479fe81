/- ere.spans, by value. -/
import Derived.Test.YteennilbmmlikaaGreatDoorNJ2
import Derived.Test.YteennilbmmlikaaGreatDoorGRule
import Derived.Test.YteennilbmmlikaaGreatDoorYTryzP
namespace Go.Y
open Go.Proofs
set_option maxRecDepth 100000
set_option maxHeartbeats 1000000

abbrev encP (p : UInt8 × UInt8) : List V := [.i .u8 (p.1.toNat : Nat), .i .u8 (p.2.toNat : Nat)]
theorem encP_len (p : UInt8 × UInt8) : (encP p).length = 2 := rfl
theorem app1P {h : Heap} {a : Option (Nat × Nat)} {l : Nat} {c : Option Nat} {kk : Nat} {out : List (UInt8 × UInt8)} (x : UInt8 × UInt8) (hl : Lst encP 2 h a l c kk out) (hb : out.length < 2 ^ 29) :
    ∃ a' l' c' k' h', appendH Tryz.Y h 57 57 (.sl a l c kk) (.ts [.i .u8 (x.1.toNat : Nat), .i .u8 (x.2.toNat : Nat)] 1 (some 1)) = some (.sl a' l' c' k', h') ∧ Lst encP 2 h' a' l' c' k' (out ++ [x]) ∧ Fr h a h' ∧ ∃ j, a' = some (j, 0) ∧ h.nx ≤ j :=
  Lst.app1 (Y := Tryz.Y) (e := 155) (te := ⟨2, 2, .struct [(0, 5), (1, 5)], [.i .u8 0, .i .u8 0]⟩) x (by kernel_rfl) (by kernel_rfl) rfl (by decide) hl (.cons _ _ _ _ (.i _ _) (.cons _ _ _ _ (.i _ _) .nil)) rfl rfl rfl (by decide) hb
theorem u8w (n : Nat) : IntKind.u8.wrap (n : Int) = ((UInt8.ofNat n).toNat : Nat) := by
  have e2 : (2 : Int) ^ IntKind.u8.bits = 256 := by decide
  have e3 : (UInt8.ofNat n).toNat = n % 256 := by simp
  rw [e3]
  unfold IntKind.wrap
  simp only [e2, IntKind.signed, Bool.false_and]
  simp only [Bool.false_eq_true, if_false]
  omega

def runE (p : Nat → Bool) : Nat → Nat → Nat
  | 0, c => c
  | f + 1, c => if p c = true then runE p f (c + 1) else c
def goF (p : Nat → Bool) : Nat → Nat → List (UInt8 × UInt8) → List (UInt8 × UInt8)
  | 0, _, out => out
  | f + 1, c, out => if c < 256 then goF p f (runE p (256 - c) c + 1) (if c < runE p (256 - c) c then out ++ [(UInt8.ofNat c, UInt8.ofNat (runE p (256 - c) c - 1))] else out) else out
def spansF (p : Nat → Bool) : List (UInt8 × UInt8) := goF p 257 0 []
theorem goF_end (p : Nat → Bool) (f : Nat) {c : Nat} (hc : 256 ≤ c) (out : List (UInt8 × UInt8)) : goF p f c out = out := by
  cases f with
  | zero => rfl
  | succ f => rw [goF, if_neg (by omega)]
theorem runE_yes {p : Nat → Bool} {c : Nat} (hc : c < 256) (hp : p c = true) : runE p (256 - c) c = runE p (256 - (c + 1)) (c + 1) := by
  obtain ⟨f, hf⟩ : ∃ f, 256 - c = f + 1 := ⟨256 - c - 1, by omega⟩
  rw [hf, runE, if_pos hp, show 256 - (c + 1) = f by omega]
theorem runE_no {p : Nat → Bool} {c : Nat} (hp : c < 256 → p c = false) : runE p (256 - c) c = c := by
  by_cases hc : c < 256
  · obtain ⟨f, hf⟩ : ∃ f, 256 - c = f + 1 := ⟨256 - c - 1, by omega⟩
    rw [hf, runE, if_neg (by rw [hp hc]; simp)]
  · rw [show 256 - c = 0 by omega, runE]

def IoS (x : Set4) (m : Nat) (vs : List V) (h : Heap) : Prop :=
  ∃ (i : Nat) (q : Option (Nat × Nat)) (n : Nat) (cp : Option Nat) (kk : Nat) (out : List (UInt8 × UInt8)) (f : Nat), vs = [.lb (setC x), .sl none 0 (some 0) 0, .sl q n cp kk, .i .i64 (i : Nat)] ∧ m = 257 - i ∧ i ≤ 257 ∧ Lst encP 2 h q n cp kk out ∧ out.length ≤ i ∧ 257 ≤ f + i ∧ goF (hasN x) f i out = spansF (hasN x)

theorem spansE_con (x : Set4) : PCon Tryz.Y 175 [.agg (setC x)] (· = lst encP (spansF (hasN x))) := by
  refine pcon_of Tryz.Yok (fn := Tryz.f175) (by kernel_rfl) (by kernel_rfl) rfl ?_
  refine pre_rule Tryz.Yok (n := 33) (loc := Tryz.Y.loc 175) 100 [1, 2, 3, 4] (by kernel_rfl) ?_
  refine Eq.mpr (f175_0 x.1 x.2.1 x.2.2.1 x.2.2.2 .empty _) ?_
  refine ⟨rfl, loop2 [1, 2, 3, 4] [1, 2, 3, 4] rfl (by kernel_rfl) (IoS x) 257 mk_len ⟨0, none, 0, some 0, 0, [], 257, rfl, rfl, by omega, Lst.nil _ _ _ _ _, by simp, by omega, rfl⟩ ?_⟩
  rintro m vs h ⟨i, q, n, cp, kk, out, f, rfl, rfl, hi, hL, hlen, hf, hG⟩
  refine pre_rule Tryz.Yok (n := 33) (loc := Tryz.Y.loc 175) 100 [1, 2, 3, 4] (by kernel_rfl) ?_
  refine Eq.mpr (f175_1 x.1 x.2.1 x.2.2.1 x.2.2.2 q n cp kk (i : Nat) h _) ?_
  refine if_lt_nat (b := 256) (fun hlt => ?_) (fun hge => ?_)
  · refine ⟨rfl, block2 (n := 33) [1, 2, 3, 4] (by kernel_rfl) ?_⟩
    refine pre_rule Tryz.Yok (n := 33) (loc := Tryz.Y.loc 175) 100 [1, 2, 3, 4, 5] (by kernel_rfl) ?_
    refine Eq.mpr (f175_2 x.1 x.2.1 x.2.2.1 x.2.2.2 q n cp kk (i : Nat) h _) ?_
    refine ⟨rfl, loop2 [1, 2, 3, 4, 5] [1, 2, 3, 4, 5] rfl (by kernel_rfl) (fun m vs h' => ∃ c : Nat, vs = [.lb (setC x), .sl none 0 (some 0) 0, .sl q n cp kk, .i .i64 (c : Nat), .i .i64 (i : Nat)] ∧ m = 256 - c ∧ h' = h ∧ i ≤ c ∧ c ≤ 256 ∧ runE (hasN x) (256 - i) i = runE (hasN x) (256 - c) c) (256 - i) mk_len ⟨i, rfl, rfl, rfl, Nat.le_refl _, by omega, rfl⟩ ?_⟩
    rintro m vs h' ⟨c, rfl, rfl, rfl, hic, hc, hr⟩
    refine all_rule Tryz.Yok (loc := Tryz.Y.loc 175) 100 [1, 2, 3, 4, 5] ?_
    refine Eq.mpr (f175_3 x.1 x.2.1 x.2.2.1 x.2.2.2 q n cp kk (c : Nat) (i : Nat) h' _) ?_
    refine if_lt_nat (b := 256) (fun hc256 => ⟨_, has_con x c hc256, if_mk (fun hb => ?_) (fun hb => ?_)⟩) (fun hge => ?_)
    · exact ⟨rfl, 256 - (c + 1), by omega, c + 1, by rw [wrap_succ (by omega)]; rfl, rfl, rfl, by omega, by omega, by rw [hr, runE_yes hc256 hb]⟩
    · have hno : c < 256 → hasN x c = false := fun _ => by simpa using hb
      refine roundW_exit [1, 2, 3, 4, 5] (by kernel_rfl) rfl rfl ?_
      refine all_rule Tryz.Yok (loc := Tryz.Y.loc 175) 100 [1, 2, 3, 4] ?_
      refine Eq.mpr (f175_4 x.1 x.2.1 x.2.2.1 x.2.2.2 q n cp kk (c : Nat) (i : Nat) h' _) ?_
      rw [runE_no hno] at hr
      obtain ⟨g, rfl⟩ : ∃ g, f = g + 1 := ⟨f - 1, by omega⟩
      rw [goF, if_pos hlt, hr] at hG
      refine if_lt_nat (fun hl => ?_) (fun hl => ?_)
      · rw [if_pos hl] at hG
        have hw : IntKind.i64.wrap (((c : Nat) : Int) - 1) = ((c - 1 : Nat) : Int) := by rw [wrap_ok (by omega) (by omega)]; omega
        rw [hw, u8w, u8w]
        obtain ⟨a', l', c', k', h2, q1, q2, -, -⟩ := app1P (UInt8.ofNat i, UInt8.ofNat (c - 1)) hL (by omega)
        refine ⟨a', l', c', k', h2, q1, rfl, [1, 2, 3, 4], rfl, ?_⟩
        refine all_rule Tryz.Yok (loc := Tryz.Y.loc 175) 100 [1, 2, 3, 4] ?_
        refine Eq.mpr (f175_5 x.1 x.2.1 x.2.2.1 x.2.2.2 (c : Nat) a' l' c' k' h2 _) ?_
        exact ⟨rfl, 257 - (c + 1), by omega, c + 1, a', l', c', k', _, g, by rw [wrap_succ (by omega)]; rfl, rfl, by omega, q2, by simp; omega, by omega, hG⟩
      · rw [if_neg (by omega)] at hG
        refine ⟨rfl, [1, 2, 3, 4], rfl, ?_⟩
        refine all_rule Tryz.Yok (loc := Tryz.Y.loc 175) 100 [1, 2, 3, 4] ?_
        refine Eq.mpr (f175_5 x.1 x.2.1 x.2.2.1 x.2.2.2 (c : Nat) q n cp kk h' _) ?_
        exact ⟨rfl, 257 - (c + 1), by omega, c + 1, q, n, cp, kk, out, g, by rw [wrap_succ (by omega)]; rfl, rfl, by omega, hL, by omega, by omega, hG⟩
    · have hno : c < 256 → hasN x c = false := fun e => by omega
      refine roundW_exit [1, 2, 3, 4, 5] (by kernel_rfl) rfl rfl ?_
      refine all_rule Tryz.Yok (loc := Tryz.Y.loc 175) 100 [1, 2, 3, 4] ?_
      refine Eq.mpr (f175_4 x.1 x.2.1 x.2.2.1 x.2.2.2 q n cp kk (c : Nat) (i : Nat) h' _) ?_
      rw [runE_no hno] at hr
      obtain ⟨g, rfl⟩ : ∃ g, f = g + 1 := ⟨f - 1, by omega⟩
      rw [goF, if_pos hlt, hr] at hG
      refine if_lt_nat (fun hl => ?_) (fun hl => ?_)
      · rw [if_pos hl] at hG
        have hw : IntKind.i64.wrap (((c : Nat) : Int) - 1) = ((c - 1 : Nat) : Int) := by rw [wrap_ok (by omega) (by omega)]; omega
        rw [hw, u8w, u8w]
        obtain ⟨a', l', c', k', h2, q1, q2, -, -⟩ := app1P (UInt8.ofNat i, UInt8.ofNat (c - 1)) hL (by omega)
        refine ⟨a', l', c', k', h2, q1, rfl, [1, 2, 3, 4], rfl, ?_⟩
        refine all_rule Tryz.Yok (loc := Tryz.Y.loc 175) 100 [1, 2, 3, 4] ?_
        refine Eq.mpr (f175_5 x.1 x.2.1 x.2.2.1 x.2.2.2 (c : Nat) a' l' c' k' h2 _) ?_
        exact ⟨rfl, 257 - (c + 1), by omega, c + 1, a', l', c', k', _, g, by rw [wrap_succ (by omega)]; rfl, rfl, by omega, q2, by simp; omega, by omega, hG⟩
      · rw [if_neg (by omega)] at hG
        refine ⟨rfl, [1, 2, 3, 4], rfl, ?_⟩
        refine all_rule Tryz.Yok (loc := Tryz.Y.loc 175) 100 [1, 2, 3, 4] ?_
        refine Eq.mpr (f175_5 x.1 x.2.1 x.2.2.1 x.2.2.2 (c : Nat) q n cp kk h' _) ?_
        exact ⟨rfl, 257 - (c + 1), by omega, c + 1, q, n, cp, kk, out, g, by rw [wrap_succ (by omega)]; rfl, rfl, by omega, hL, by omega, by omega, hG⟩
  · refine at_pick rfl (roundW_exit [3] (by kernel_rfl) rfl rfl ?_)
    refine end_rule Tryz.Yok (loc := Tryz.Y.loc 175) 100 [2] ?_
    refine Eq.mpr (f175_6 ..) ?_
    rw [goF_end _ _ hge] at hG
    subst hG
    exact finV1 (.inr rfl) rfl (hL.frz (by decide) encP_len) rfl
end Go.Y

/- strconv.Itoa of 0 to 8. -/
namespace Go.Y
open Go.Proofs
set_option maxRecDepth 100000
set_option maxHeartbeats 0
def itoaS (x : Nat) : List UInt8 := [UInt8.ofNat (48 + x)]
theorem it201_0 : PCon Tryz.Y 201 [.i .i64 0] (· = .s (itoaS 0)) := by
  have tr : ∀ (h : Heap) (K : KT), (codeP Tryz.Y (Tryz.Y.loc 201) 100 (flat (bodyOf Tryz.f201)) ⟨V.i .i64 0 :: List.replicate 14 .undef, [], h⟩ (VQ [2] K)) = ((((0 : Int) ≤ 1 ∧ (1 : Int) ≤ 36) ∧ (((0 : Int) ≤ 0 ∧ (0 : Int) ≤ 1) ∧ K Out.ret 15 [V.s (itoaS 0)] h))) := fun h K => by kernel_rfl
  exact tree_con Tryz.Yok (fn := Tryz.f201) (by kernel_rfl) (by kernel_rfl) rfl (tr .empty) rfl ⟨⟨by decide, by decide⟩, ⟨by decide, by decide⟩, finV1 (.inr rfl) rfl (.s _) rfl⟩
theorem it198_0 : PCon Tryz.Y 198 [.i .i64 0, .i .i64 10] (· = .s (itoaS 0)) := by
  have tr : ∀ (h : Heap) (K : KT), (codeP Tryz.Y (Tryz.Y.loc 198) 100 (flat (bodyOf Tryz.f198)) ⟨V.i .i64 0 :: V.i .i64 10 :: List.replicate 52 .undef, [], h⟩ (VQ [4] K)) = (∃ s : List UInt8, (PCon Tryz.Y (201 : Nat) [V.i IntKind.i64 0] fun (v : V) => v = V.s s) ∧ K Out.ret 54 [V.s s] h) := fun h K => by kernel_rfl
  exact tree_con Tryz.Yok (fn := Tryz.f198) (by kernel_rfl) (by kernel_rfl) rfl (tr .empty) rfl ⟨_, it201_0, finV1 (.inr rfl) rfl (.s _) rfl⟩
theorem it201_1 : PCon Tryz.Y 201 [.i .i64 1] (· = .s (itoaS 1)) := by
  have tr : ∀ (h : Heap) (K : KT), (codeP Tryz.Y (Tryz.Y.loc 201) 100 (flat (bodyOf Tryz.f201)) ⟨V.i .i64 1 :: List.replicate 14 .undef, [], h⟩ (VQ [2] K)) = ((((0 : Int) ≤ 2 ∧ (2 : Int) ≤ 36) ∧ (((0 : Int) ≤ 1 ∧ (1 : Int) ≤ 2) ∧ K Out.ret 15 [V.s (itoaS 1)] h))) := fun h K => by kernel_rfl
  exact tree_con Tryz.Yok (fn := Tryz.f201) (by kernel_rfl) (by kernel_rfl) rfl (tr .empty) rfl ⟨⟨by decide, by decide⟩, ⟨by decide, by decide⟩, finV1 (.inr rfl) rfl (.s _) rfl⟩
theorem it198_1 : PCon Tryz.Y 198 [.i .i64 1, .i .i64 10] (· = .s (itoaS 1)) := by
  have tr : ∀ (h : Heap) (K : KT), (codeP Tryz.Y (Tryz.Y.loc 198) 100 (flat (bodyOf Tryz.f198)) ⟨V.i .i64 1 :: V.i .i64 10 :: List.replicate 52 .undef, [], h⟩ (VQ [4] K)) = (∃ s : List UInt8, (PCon Tryz.Y (201 : Nat) [V.i IntKind.i64 1] fun (v : V) => v = V.s s) ∧ K Out.ret 54 [V.s s] h) := fun h K => by kernel_rfl
  exact tree_con Tryz.Yok (fn := Tryz.f198) (by kernel_rfl) (by kernel_rfl) rfl (tr .empty) rfl ⟨_, it201_1, finV1 (.inr rfl) rfl (.s _) rfl⟩
theorem it201_2 : PCon Tryz.Y 201 [.i .i64 2] (· = .s (itoaS 2)) := by
  have tr : ∀ (h : Heap) (K : KT), (codeP Tryz.Y (Tryz.Y.loc 201) 100 (flat (bodyOf Tryz.f201)) ⟨V.i .i64 2 :: List.replicate 14 .undef, [], h⟩ (VQ [2] K)) = ((((0 : Int) ≤ 3 ∧ (3 : Int) ≤ 36) ∧ (((0 : Int) ≤ 2 ∧ (2 : Int) ≤ 3) ∧ K Out.ret 15 [V.s (itoaS 2)] h))) := fun h K => by kernel_rfl
  exact tree_con Tryz.Yok (fn := Tryz.f201) (by kernel_rfl) (by kernel_rfl) rfl (tr .empty) rfl ⟨⟨by decide, by decide⟩, ⟨by decide, by decide⟩, finV1 (.inr rfl) rfl (.s _) rfl⟩
theorem it198_2 : PCon Tryz.Y 198 [.i .i64 2, .i .i64 10] (· = .s (itoaS 2)) := by
  have tr : ∀ (h : Heap) (K : KT), (codeP Tryz.Y (Tryz.Y.loc 198) 100 (flat (bodyOf Tryz.f198)) ⟨V.i .i64 2 :: V.i .i64 10 :: List.replicate 52 .undef, [], h⟩ (VQ [4] K)) = (∃ s : List UInt8, (PCon Tryz.Y (201 : Nat) [V.i IntKind.i64 2] fun (v : V) => v = V.s s) ∧ K Out.ret 54 [V.s s] h) := fun h K => by kernel_rfl
  exact tree_con Tryz.Yok (fn := Tryz.f198) (by kernel_rfl) (by kernel_rfl) rfl (tr .empty) rfl ⟨_, it201_2, finV1 (.inr rfl) rfl (.s _) rfl⟩
theorem it201_3 : PCon Tryz.Y 201 [.i .i64 3] (· = .s (itoaS 3)) := by
  have tr : ∀ (h : Heap) (K : KT), (codeP Tryz.Y (Tryz.Y.loc 201) 100 (flat (bodyOf Tryz.f201)) ⟨V.i .i64 3 :: List.replicate 14 .undef, [], h⟩ (VQ [2] K)) = ((((0 : Int) ≤ 4 ∧ (4 : Int) ≤ 36) ∧ (((0 : Int) ≤ 3 ∧ (3 : Int) ≤ 4) ∧ K Out.ret 15 [V.s (itoaS 3)] h))) := fun h K => by kernel_rfl
  exact tree_con Tryz.Yok (fn := Tryz.f201) (by kernel_rfl) (by kernel_rfl) rfl (tr .empty) rfl ⟨⟨by decide, by decide⟩, ⟨by decide, by decide⟩, finV1 (.inr rfl) rfl (.s _) rfl⟩
theorem it198_3 : PCon Tryz.Y 198 [.i .i64 3, .i .i64 10] (· = .s (itoaS 3)) := by
  have tr : ∀ (h : Heap) (K : KT), (codeP Tryz.Y (Tryz.Y.loc 198) 100 (flat (bodyOf Tryz.f198)) ⟨V.i .i64 3 :: V.i .i64 10 :: List.replicate 52 .undef, [], h⟩ (VQ [4] K)) = (∃ s : List UInt8, (PCon Tryz.Y (201 : Nat) [V.i IntKind.i64 3] fun (v : V) => v = V.s s) ∧ K Out.ret 54 [V.s s] h) := fun h K => by kernel_rfl
  exact tree_con Tryz.Yok (fn := Tryz.f198) (by kernel_rfl) (by kernel_rfl) rfl (tr .empty) rfl ⟨_, it201_3, finV1 (.inr rfl) rfl (.s _) rfl⟩
theorem it201_4 : PCon Tryz.Y 201 [.i .i64 4] (· = .s (itoaS 4)) := by
  have tr : ∀ (h : Heap) (K : KT), (codeP Tryz.Y (Tryz.Y.loc 201) 100 (flat (bodyOf Tryz.f201)) ⟨V.i .i64 4 :: List.replicate 14 .undef, [], h⟩ (VQ [2] K)) = ((((0 : Int) ≤ 5 ∧ (5 : Int) ≤ 36) ∧ (((0 : Int) ≤ 4 ∧ (4 : Int) ≤ 5) ∧ K Out.ret 15 [V.s (itoaS 4)] h))) := fun h K => by kernel_rfl
  exact tree_con Tryz.Yok (fn := Tryz.f201) (by kernel_rfl) (by kernel_rfl) rfl (tr .empty) rfl ⟨⟨by decide, by decide⟩, ⟨by decide, by decide⟩, finV1 (.inr rfl) rfl (.s _) rfl⟩
theorem it198_4 : PCon Tryz.Y 198 [.i .i64 4, .i .i64 10] (· = .s (itoaS 4)) := by
  have tr : ∀ (h : Heap) (K : KT), (codeP Tryz.Y (Tryz.Y.loc 198) 100 (flat (bodyOf Tryz.f198)) ⟨V.i .i64 4 :: V.i .i64 10 :: List.replicate 52 .undef, [], h⟩ (VQ [4] K)) = (∃ s : List UInt8, (PCon Tryz.Y (201 : Nat) [V.i IntKind.i64 4] fun (v : V) => v = V.s s) ∧ K Out.ret 54 [V.s s] h) := fun h K => by kernel_rfl
  exact tree_con Tryz.Yok (fn := Tryz.f198) (by kernel_rfl) (by kernel_rfl) rfl (tr .empty) rfl ⟨_, it201_4, finV1 (.inr rfl) rfl (.s _) rfl⟩
theorem it201_5 : PCon Tryz.Y 201 [.i .i64 5] (· = .s (itoaS 5)) := by
  have tr : ∀ (h : Heap) (K : KT), (codeP Tryz.Y (Tryz.Y.loc 201) 100 (flat (bodyOf Tryz.f201)) ⟨V.i .i64 5 :: List.replicate 14 .undef, [], h⟩ (VQ [2] K)) = ((((0 : Int) ≤ 6 ∧ (6 : Int) ≤ 36) ∧ (((0 : Int) ≤ 5 ∧ (5 : Int) ≤ 6) ∧ K Out.ret 15 [V.s (itoaS 5)] h))) := fun h K => by kernel_rfl
  exact tree_con Tryz.Yok (fn := Tryz.f201) (by kernel_rfl) (by kernel_rfl) rfl (tr .empty) rfl ⟨⟨by decide, by decide⟩, ⟨by decide, by decide⟩, finV1 (.inr rfl) rfl (.s _) rfl⟩
theorem it198_5 : PCon Tryz.Y 198 [.i .i64 5, .i .i64 10] (· = .s (itoaS 5)) := by
  have tr : ∀ (h : Heap) (K : KT), (codeP Tryz.Y (Tryz.Y.loc 198) 100 (flat (bodyOf Tryz.f198)) ⟨V.i .i64 5 :: V.i .i64 10 :: List.replicate 52 .undef, [], h⟩ (VQ [4] K)) = (∃ s : List UInt8, (PCon Tryz.Y (201 : Nat) [V.i IntKind.i64 5] fun (v : V) => v = V.s s) ∧ K Out.ret 54 [V.s s] h) := fun h K => by kernel_rfl
  exact tree_con Tryz.Yok (fn := Tryz.f198) (by kernel_rfl) (by kernel_rfl) rfl (tr .empty) rfl ⟨_, it201_5, finV1 (.inr rfl) rfl (.s _) rfl⟩
theorem it201_6 : PCon Tryz.Y 201 [.i .i64 6] (· = .s (itoaS 6)) := by
  have tr : ∀ (h : Heap) (K : KT), (codeP Tryz.Y (Tryz.Y.loc 201) 100 (flat (bodyOf Tryz.f201)) ⟨V.i .i64 6 :: List.replicate 14 .undef, [], h⟩ (VQ [2] K)) = ((((0 : Int) ≤ 7 ∧ (7 : Int) ≤ 36) ∧ (((0 : Int) ≤ 6 ∧ (6 : Int) ≤ 7) ∧ K Out.ret 15 [V.s (itoaS 6)] h))) := fun h K => by kernel_rfl
  exact tree_con Tryz.Yok (fn := Tryz.f201) (by kernel_rfl) (by kernel_rfl) rfl (tr .empty) rfl ⟨⟨by decide, by decide⟩, ⟨by decide, by decide⟩, finV1 (.inr rfl) rfl (.s _) rfl⟩
theorem it198_6 : PCon Tryz.Y 198 [.i .i64 6, .i .i64 10] (· = .s (itoaS 6)) := by
  have tr : ∀ (h : Heap) (K : KT), (codeP Tryz.Y (Tryz.Y.loc 198) 100 (flat (bodyOf Tryz.f198)) ⟨V.i .i64 6 :: V.i .i64 10 :: List.replicate 52 .undef, [], h⟩ (VQ [4] K)) = (∃ s : List UInt8, (PCon Tryz.Y (201 : Nat) [V.i IntKind.i64 6] fun (v : V) => v = V.s s) ∧ K Out.ret 54 [V.s s] h) := fun h K => by kernel_rfl
  exact tree_con Tryz.Yok (fn := Tryz.f198) (by kernel_rfl) (by kernel_rfl) rfl (tr .empty) rfl ⟨_, it201_6, finV1 (.inr rfl) rfl (.s _) rfl⟩
theorem it201_7 : PCon Tryz.Y 201 [.i .i64 7] (· = .s (itoaS 7)) := by
  have tr : ∀ (h : Heap) (K : KT), (codeP Tryz.Y (Tryz.Y.loc 201) 100 (flat (bodyOf Tryz.f201)) ⟨V.i .i64 7 :: List.replicate 14 .undef, [], h⟩ (VQ [2] K)) = ((((0 : Int) ≤ 8 ∧ (8 : Int) ≤ 36) ∧ (((0 : Int) ≤ 7 ∧ (7 : Int) ≤ 8) ∧ K Out.ret 15 [V.s (itoaS 7)] h))) := fun h K => by kernel_rfl
  exact tree_con Tryz.Yok (fn := Tryz.f201) (by kernel_rfl) (by kernel_rfl) rfl (tr .empty) rfl ⟨⟨by decide, by decide⟩, ⟨by decide, by decide⟩, finV1 (.inr rfl) rfl (.s _) rfl⟩
theorem it198_7 : PCon Tryz.Y 198 [.i .i64 7, .i .i64 10] (· = .s (itoaS 7)) := by
  have tr : ∀ (h : Heap) (K : KT), (codeP Tryz.Y (Tryz.Y.loc 198) 100 (flat (bodyOf Tryz.f198)) ⟨V.i .i64 7 :: V.i .i64 10 :: List.replicate 52 .undef, [], h⟩ (VQ [4] K)) = (∃ s : List UInt8, (PCon Tryz.Y (201 : Nat) [V.i IntKind.i64 7] fun (v : V) => v = V.s s) ∧ K Out.ret 54 [V.s s] h) := fun h K => by kernel_rfl
  exact tree_con Tryz.Yok (fn := Tryz.f198) (by kernel_rfl) (by kernel_rfl) rfl (tr .empty) rfl ⟨_, it201_7, finV1 (.inr rfl) rfl (.s _) rfl⟩
theorem it201_8 : PCon Tryz.Y 201 [.i .i64 8] (· = .s (itoaS 8)) := by
  have tr : ∀ (h : Heap) (K : KT), (codeP Tryz.Y (Tryz.Y.loc 201) 100 (flat (bodyOf Tryz.f201)) ⟨V.i .i64 8 :: List.replicate 14 .undef, [], h⟩ (VQ [2] K)) = ((((0 : Int) ≤ 9 ∧ (9 : Int) ≤ 36) ∧ (((0 : Int) ≤ 8 ∧ (8 : Int) ≤ 9) ∧ K Out.ret 15 [V.s (itoaS 8)] h))) := fun h K => by kernel_rfl
  exact tree_con Tryz.Yok (fn := Tryz.f201) (by kernel_rfl) (by kernel_rfl) rfl (tr .empty) rfl ⟨⟨by decide, by decide⟩, ⟨by decide, by decide⟩, finV1 (.inr rfl) rfl (.s _) rfl⟩
theorem it198_8 : PCon Tryz.Y 198 [.i .i64 8, .i .i64 10] (· = .s (itoaS 8)) := by
  have tr : ∀ (h : Heap) (K : KT), (codeP Tryz.Y (Tryz.Y.loc 198) 100 (flat (bodyOf Tryz.f198)) ⟨V.i .i64 8 :: V.i .i64 10 :: List.replicate 52 .undef, [], h⟩ (VQ [4] K)) = (∃ s : List UInt8, (PCon Tryz.Y (201 : Nat) [V.i IntKind.i64 8] fun (v : V) => v = V.s s) ∧ K Out.ret 54 [V.s s] h) := fun h K => by kernel_rfl
  exact tree_con Tryz.Yok (fn := Tryz.f198) (by kernel_rfl) (by kernel_rfl) rfl (tr .empty) rfl ⟨_, it201_8, finV1 (.inr rfl) rfl (.s _) rfl⟩
theorem f178_0 (x : Int) (h : Heap) (K : KT) : (codeP Tryz.Y (Tryz.Y.loc 178) 100 (flat (bodyOf Tryz.f178)) ⟨V.i .i64 x :: List.replicate 4 .undef, [], h⟩ (VQ [2] K)) = (∃ s : List UInt8, (PCon Tryz.Y (191 : Nat) [V.i IntKind.i64 x] fun (v : V) => v = V.s s) ∧ K Out.ret 5 [V.s s] h) := by kernel_rfl
theorem f191_0 (x : Int) (h : Heap) (K : KT) : (codeP Tryz.Y (Tryz.Y.loc 191) 100 (flat (bodyOf Tryz.f191)) ⟨V.i .i64 x :: List.replicate 4 .undef, [], h⟩ (VQ [2] K)) = (∃ s : List UInt8, (PCon Tryz.Y (198 : Nat) [V.i IntKind.i64 x, V.i IntKind.i64 10] fun (v : V) => v = V.s s) ∧ K Out.ret 5 [V.s s] h) := by kernel_rfl
theorem itoa_con (x : Nat) (hx : x ≤ 8) : PCon Tryz.Y 178 [.i .i64 (x : Nat)] (· = .s (itoaS x)) := by
  have h198 : PCon Tryz.Y 198 [.i .i64 (x : Nat), .i .i64 10] (· = .s (itoaS x)) := by
    match x, hx with
    | 0, _ => exact it198_0
    | 1, _ => exact it198_1
    | 2, _ => exact it198_2
    | 3, _ => exact it198_3
    | 4, _ => exact it198_4
    | 5, _ => exact it198_5
    | 6, _ => exact it198_6
    | 7, _ => exact it198_7
    | 8, _ => exact it198_8
  refine tree_con Tryz.Yok (fn := Tryz.f178) (by kernel_rfl) (by kernel_rfl) rfl (fun K => f178_0 (x : Nat) .empty K) rfl ⟨_, ?_, finV1 (.inr rfl) rfl (.s _) rfl⟩
  exact tree_con Tryz.Yok (fn := Tryz.f191) (by kernel_rfl) (by kernel_rfl) rfl (fun K => f191_0 (x : Nat) .empty K) rfl ⟨_, h198, finV1 (.inr rfl) rfl (.s _) rfl⟩
end Go.Y

/- strings.Builder, by contracts. -/
namespace Go.Y
open Go.Proofs
set_option maxRecDepth 100000

abbrev cellB (c : UInt8) : V := .i .u8 (c.toNat : Nat)
def te8 : TI := ⟨1, 1, .int .u8, [.i .u8 0]⟩

structure Bd (h : Heap) (id : Nat) (bs : List UInt8) : Prop where
  ex : ∃ (a s : Option (Nat × Nat)) (n : Nat) (c : Option Nat) (k : Nat), h.get id = some (.arr [.p a, .sl s n c k] true) ∧ (a = none ∨ a = some (id, 0)) ∧ IsL h 1 s n c k (bs.map cellB) ∧
    (∀ j o, s = some (j, o) → h.tagOf j = some 5 ∧ j ≠ id) ∧ (n = 0 → s = none)
  tag : h.tagOf id = some 182
  lt : id < h.nx

theorem tagOf_tagIf (h : Heap) (i : Nat) (t : Option TypeId) (j : Nat) : (h.tagIf i t).tagOf j = match t with | some x => if i = j then some x else h.tagOf j | none => h.tagOf j := by
  cases t <;> rfl
theorem tagOf_set (h : Heap) (i : Nat) (o : Option YObj) (j : Nat) : (h.set i o).tagOf j = h.tagOf j := rfl
theorem app_b {h : Heap} {xt : TypeId} {x : V} {m : Nat} {new cells : List V} {a : Option (Nat × Nat)} {l : Nat} {c : Option Nat} {kk : Nat} (hsrc : source Tryz.Y ⟨[], [], h⟩ te8 xt x = some (m, new)) (hm : m ≠ 0) (hn : new.length = m) (hc : allCells new = true)
    (hl : IsL h 1 a l c kk cells) (htag : ∀ j o, a = some (j, o) → h.tagOf j = some 5) (hb : l + m ≤ 2 ^ 30) :
    ∃ h', appendH Tryz.Y h 138 xt (.sl a l c kk) x = some (.sl (some (h.nx, 0)) (l + m) none 1, h') ∧ h'.get h.nx = some (.arr (cells ++ new) true) ∧ h'.nx = h.nx + 1 ∧ h'.tagOf h.nx = some 5 ∧
      (∀ i, i < h.nx → (∀ o, a ≠ some (i, o)) → h'.get i = h.get i) ∧ ∀ i, i < h.nx → h'.tagOf i = h.tagOf i := by
  have hk : Tryz.Y.kd 138 = some (.slice 5) := by kernel_rfl
  have hte : Tryz.Y.ty 5 = some te8 := by kernel_rfl
  have ht5 : Tryz.Y.tag 5 = some 5 := by kernel_rfl
  have hmost : most = 1099511627776 := by decide
  rcases hl.2 with ⟨rfl, rfl, rfl⟩ | ⟨id, rfl, rfl, rfl, hid, hget⟩
  · refine ⟨h.pushT (some 5) (.arr new true), ?_, by simp, by simp, ?_, fun i hi _ => by rw [Heap.get_pushT, if_neg (by omega)], fun i hi => ?_⟩
    · have h1 : m ≤ most := by omega
      have e1 : te8.size = 1 := rfl
      have e2 : te8.bytes = 1 := rfl
      simp [appendH, appendY, hk, hte, hsrc, hc, hm, e1, e2, h1, ht5]
    · show ((h.push (.arr new true)).tagIf h.nx (some 5)).tagOf h.nx = some 5
      rw [tagOf_tagIf]; simp
    · show ((h.push (.arr new true)).tagIf h.nx (some 5)).tagOf i = h.tagOf i
      rw [tagOf_tagIf]; simp only; rw [if_neg (by omega)]; rfl
  · have hlen := hl.1
    have ht := htag id 0 rfl
    refine ⟨(h.set id none).pushT (some 5) (.arr (cells ++ new) true), ?_, by simp, by simp, ?_, fun i hi ha => ?_, fun i hi => ?_⟩
    · have hb1 : ¬ ((l + m) * 1 > most ∨ l + m > most) := by omega
      have hne : ¬ (0 + (l + m) * 1 ≤ cells.length) := by omega
      have htk : takeX (l * 1) (cells.drop 0) = some cells := by rw [List.drop_zero]; exact takeX_len hlen
      have e1 : te8.size = 1 := rfl
      have e2 : te8.bytes = 1 := rfl
      have htg : (if (0 : Nat) = 0 ∧ h.tagOf id = some 5 then some 5 else none) = (some 5 : Option TypeId) := by simp [ht]
      simp only [appendH, appendY, hk, hte, hsrc, e1, e2, if_false, hm, ne_eq, not_true_eq_false, hb1, hget, hne, Bool.true_or, if_true, htk, htg]
      rw [if_neg (by simp [hc])]
      simp only [ht, and_self, if_true]
    · show (((h.set id none).push _).tagIf (h.set id none).nx (some 5)).tagOf h.nx = some 5
      rw [tagOf_tagIf]; simp
    · have hne : i ≠ id := fun e => ha 0 (by rw [e])
      rw [Heap.get_pushT, if_neg (by simp; omega), Heap.get_set, if_neg hne]
    · show (((h.set id none).push _).tagIf (h.set id none).nx (some 5)).tagOf i = h.tagOf i
      rw [tagOf_tagIf]; simp only; rw [if_neg (by simp; omega)]; rfl

theorem cc_con {h : Heap} {id : Nat} {bs : List UInt8} (b : Bd h id bs) : Con Tryz.Y 162 [.p (some (id, 0))] h fun v h' => v = .tup [] ∧ Bd h' id bs := by
  obtain ⟨a, s, n, c, k, hg, ha, hL, ht, hz⟩ := b.ex
  refine conz_of Tryz.Yok (fn := Tryz.f162) (by kernel_rfl) (by kernel_rfl) (end_rule Tryz.Yok (loc := Tryz.Y.loc 162) 100 [] ?_)
  refine Eq.mpr (f162_0 id h _) ?_
  have hc : hcells h id 0 1 = some [.p a] := by simp [hcells, hg, takeX]
  have hty : (Tryz.Y.ty 182).isSome = true := by kernel_rfl
  refine ⟨a, hc, hty, if_mk (fun hn => ?_) (fun hn => ?_)⟩
  · have cv : ∃ (id_1 : Nat) (cs : List V) (wr : Bool) (ti : TI), some (id, 0) = some (id_1, 0) ∧ h.get id_1 = some (YObj.arr cs wr) ∧ h.tagOf id_1 = some 182 ∧ some (⟨2, 32, Kd.struct [(0, 180), (1, 138)], [.p none, .sl none 0 (some 0) 0]⟩ : TI) = some ti ∧ (ti.size = 0 → False) ∧ ti.size ≤ cs.length :=
      ⟨id, _, _, _, rfl, hg, b.tag, rfl, by simp, by simp⟩
    refine ⟨cv, cv, h.set id (some (.arr [.p (some (id, 0)), .sl s n c k] true)), by simp [hstore, hg, splice], finC (.inl rfl) rfl (.now ⟨rfl, ⟨⟨some (id, 0), s, n, c, k, by simp, .inr rfl, ?_, ht, hz⟩, b.tag, b.lt⟩⟩)⟩
    exact hL.fr (Nat.le_refl _) fun j hj _ => by rw [Heap.get_set, if_neg (fun e => (ht j 0 hj).2 e)]
  · have ha' : a = some (id, 0) := by
      rcases ha with rfl | ha
      · simp at hn
      · exact ha
    subst ha'
    exact ⟨_, hc, hty, ⟨(id, 0), rfl, rfl, by simp [hg]⟩, finC (.inl rfl) rfl (.now ⟨rfl, b⟩)⟩

theorem Bd.put {h h' : Heap} {id : Nat} {bs : List UInt8} {new : List UInt8} {a s : Option (Nat × Nat)} {n : Nat} {c : Option Nat} {k : Nat} (b : Bd h id bs) (hg : h.get id = some (.arr [.p a, .sl s n c k] true)) (ha : a = none ∨ a = some (id, 0))
    (hL : IsL h 1 s n c k (bs.map cellB)) (ht : ∀ j o, s = some (j, o) → h.tagOf j = some 5 ∧ j ≠ id) (hnew : new ≠ [])
    (h1 : h'.get h.nx = some (.arr (bs.map cellB ++ new.map cellB) true)) (h2 : h'.nx = h.nx + 1) (h3 : h'.tagOf h.nx = some 5) (h4 : ∀ i, i < h.nx → (∀ o, s ≠ some (i, o)) → h'.get i = h.get i) (h5 : ∀ i, i < h.nx → h'.tagOf i = h.tagOf i) :
    ∃ h2, hstore h' id 1 [.sl (some (h.nx, 0)) (n + new.length) none 1] = some h2 ∧ Bd h2 id (bs ++ new) := by
  have hgi : h'.get id = some (.arr [.p a, .sl s n c k] true) := by rw [h4 id b.lt (fun o e => (ht id o e).2 rfl)]; exact hg
  have hlt := b.lt
  refine ⟨h'.set id (some (.arr [.p a, .sl (some (h.nx, 0)) (n + new.length) none 1] true)), by simp [hstore, hgi, splice], ⟨⟨a, some (h.nx, 0), n + new.length, none, 1, by simp, ha, ⟨?_, .inr ⟨h.nx, rfl, rfl, rfl, ?_, ?_⟩⟩, ?_, ?_⟩, ?_, ?_⟩⟩
  · have := hL.1
    simp at this ⊢; omega
  · simp [h2]
  · rw [Heap.get_set, if_neg (by omega), h1, List.map_append]
  · rintro j o e
    cases e
    exact ⟨by rw [tagOf_set]; exact h3, by omega⟩
  · intro h0
    have : new.length = 0 := by omega
    exact absurd (List.eq_nil_of_length_eq_zero this) hnew
  · rw [tagOf_set, h5 id b.lt]; exact b.tag
  · rw [Heap.nx_set, h2]; omega

theorem wbyte_con {h : Heap} {id : Nat} {bs : List UInt8} (b : Bd h id bs) (c : UInt8) (hl : bs.length < 2 ^ 29) : Con Tryz.Y 126 [.p (some (id, 0)), .i .u8 (c.toNat : Nat)] h fun v h' => v = .nilifc ∧ Bd h' id (bs ++ [c]) := by
  refine conz_of Tryz.Yok (fn := Tryz.f126) (by kernel_rfl) (by kernel_rfl) (end_rule Tryz.Yok (loc := Tryz.Y.loc 126) 100 [4] ?_)
  refine Eq.mpr (f126_0 id (c.toNat : Nat) h _) ?_
  refine (cc_con b).mono fun v h1 ⟨e1, b1⟩ => ⟨e1, ?_⟩
  obtain ⟨a, s, n, cc, k, hg, ha, hL, ht, hz⟩ := b1.ex
  have hn := hL.1
  simp at hn
  have hsrc : source Tryz.Y ⟨[], [], h1⟩ te8 138 (.ts [cellB c] 1 (some 1)) = some (1, [cellB c]) := by
    have hk : Tryz.Y.kd 138 = some (.slice 5) := by kernel_rfl
    simp [source, hk, elems, elemsS, te8, takeX]
  obtain ⟨h2, q1, q2, q3, q4, q5, q6⟩ := app_b (cells := bs.map cellB) hsrc (by omega) rfl rfl hL (fun j o e => (ht j o e).1) (by omega)
  obtain ⟨h3, p1, p2⟩ := b1.put (new := [c]) hg ha hL ht (by simp) q2 q3 q4 q5 q6
  exact ⟨s, n, cc, k, by simp [hcells, hg, takeX], _, _, _, _, h2, q1, h3, p1, finC (.inr rfl) rfl (.now ⟨rfl, p2⟩)⟩

theorem wstr_con {h : Heap} {id : Nat} {bs : List UInt8} (b : Bd h id bs) (t : List UInt8) (hl : bs.length + t.length < 2 ^ 29) : Con Tryz.Y 146 [.p (some (id, 0)), .s t] h fun v h' => v = .tup [.i .i64 (t.length : Nat), .nilifc] ∧ Bd h' id (bs ++ t) := by
  refine conz_of Tryz.Yok (fn := Tryz.f146) (by kernel_rfl) (by kernel_rfl) (end_rule Tryz.Yok (loc := Tryz.Y.loc 146) 100 [4, 5] ?_)
  refine Eq.mpr (f146_0 id t h _) ?_
  refine (cc_con b).mono fun v h1 ⟨e1, b1⟩ => ⟨e1, ?_⟩
  obtain ⟨a, s, n, cc, k, hg, ha, hL, ht, hz⟩ := b1.ex
  have hn := hL.1
  simp at hn
  have hsrc : source Tryz.Y ⟨[], [], h1⟩ te8 9 (.s t) = some (t.length, t.map cellB) := by
    have hk : Tryz.Y.kd 9 = some .str := by kernel_rfl
    simp [source, hk, elems, te8]
  have hall : allCells (t.map cellB) = true := by
    clear hsrc hl
    induction t with
    | nil => rfl
    | cons c t ih => simp only [List.map_cons, allCells, ih, Bool.and_true]; rfl
  have hc1 : hcells h1 id 1 1 = some [.sl s n cc k] := by simp [hcells, hg, takeX]
  by_cases h0 : t = []
  · subst h0
    have hk : Tryz.Y.kd 138 = some (.slice 5) := by kernel_rfl
    have hte : Tryz.Y.ty 5 = some te8 := by kernel_rfl
    have e1 : te8.size = 1 := rfl
    have happ : appendH Tryz.Y h1 138 9 (.sl s n cc k) (.s []) = some (.sl s n (if s = none then some 0 else cc) (if s = none then 1 else k), h1) := by
      rcases hL.2 with ⟨rfl, rfl, _⟩ | ⟨i2, rfl, rfl, rfl, _, _⟩
      · simp [appendH, appendY, hk, hte, hsrc, e1, allCells]
      · simp [appendH, appendY, hk, hte, hsrc, e1, allCells]
    refine ⟨s, n, cc, k, hc1, _, _, _, _, h1, happ, h1.set id (some (.arr [.p a, .sl s n (if s = none then some 0 else cc) (if s = none then 1 else k)] true)), by simp [hstore, hg, splice], finC (.inr rfl) rfl (.now ⟨rfl, ⟨⟨a, s, n, _, _, by simp; exact ⟨rfl, rfl⟩, ha, ?_, ht, hz⟩, b1.tag, b1.lt⟩⟩)⟩
    rw [List.append_nil]
    have hfr : IsL (h1.set id (some (.arr [.p a, .sl s n (if s = none then some 0 else cc) (if s = none then 1 else k)] true))) 1 s n cc k (bs.map cellB) := hL.fr (Nat.le_refl _) fun j hj _ => by rw [Heap.get_set, if_neg (fun e => (ht j 0 hj).2 e)]
    refine ⟨hfr.1, ?_⟩
    rcases hfr.2 with ⟨rfl, g2, g3⟩ | ⟨i2, rfl, g3⟩
    · exact .inl ⟨rfl, g2, g3⟩
    · exact .inr ⟨i2, rfl, g3⟩
  · obtain ⟨h2, q1, q2, q3, q4, q5, q6⟩ := app_b (cells := bs.map cellB) hsrc (by simpa using h0) (by simp) hall hL (fun j o e => (ht j o e).1) (by omega)
    obtain ⟨h3, p1, p2⟩ := b1.put (new := t) hg ha hL ht h0 q2 q3 q4 q5 q6
    exact ⟨s, n, cc, k, hc1, _, _, _, _, h2, q1, h3, p1, finC (.inr rfl) rfl (.now ⟨rfl, p2⟩)⟩

theorem bytesOf_cells : ∀ bs : List UInt8, bytesOf (bs.map cellB) = some bs
  | [] => rfl
  | c :: bs => by
    rw [List.map_cons, bytesOf, bytesOf_cells bs]
    simp

theorem bstr_con {h : Heap} {id : Nat} {bs : List UInt8} (b : Bd h id bs) (hl : bs.length < 2 ^ 30) : Con Tryz.Y 116 [.p (some (id, 0))] h fun v _ => v = .s bs := by
  obtain ⟨a, s, n, c, k, hg, ha, hL, ht, hz⟩ := b.ex
  have hn := hL.1
  simp at hn
  have hc : hcells h id 1 1 = some [.sl s n c k] := by simp [hcells, hg, takeX]
  refine conz_of Tryz.Yok (fn := Tryz.f116) (by kernel_rfl) (by kernel_rfl) (end_rule Tryz.Yok (loc := Tryz.Y.loc 116) 100 [2] ?_)
  refine Eq.mpr (f116_0 id h _) ?_
  have hmost : most = 1099511627776 := by decide
  rcases hL.2 with ⟨rfl, rfl, h0⟩ | ⟨i2, rfl, rfl, rfl, g1, g2⟩
  · have : bs = [] := by simpa using h0
    subst this
    refine ⟨_, _, _, _, hc, fun _ => rfl, _, _, _, _, hc, [], h, by simp [strH], finC (.inr rfl) rfl (.now rfl)⟩
  · have hne : n ≠ 0 := fun e => by have := hz e; cases this
    refine ⟨_, _, _, _, hc, fun e => absurd e hne, _, _, _, _, hc, bs, h.set i2 (some (.arr (bs.map cellB) false)), ?_, finC (.inr rfl) rfl (.now rfl)⟩
    have hk : Tryz.Y.kd 5 = some (.int .u8) := by kernel_rfl
    have hp : isPtr Tryz.Y 224 5 = true := by kernel_rfl
    have h5 := (ht i2 0 rfl).1
    simp only [strH, g2, h5, hk]
    rw [if_neg (by omega), if_pos ⟨hp, by simp; omega, by simp; omega⟩, bytesOf_cells]
    rfl
end Go.Y
