/- lift.Up, as a function of lists. -/
import Derived.Test.YtlbbbmljaigajaaYUp
import Derived.Test.YtlbbbmljaigajaaYFun
namespace Go.Y
open Go.Proofs
set_option maxRecDepth 100000

structure Choice where
  k : Int
  p : Int
  n : Int
  deriving DecidableEq, Inhabited

def encC (c : Choice) : List V := [.i .i64 c.k, .i .i64 c.p, .i .i64 c.n]
theorem encC_len (c : Choice) : (encC c).length = 3 := rfl
theorem encC_cold (c : Choice) : colds1 (encC c) = true := rfl

/-- What 'Up' does from a place on. -/
def upG : List Choice → Choice → Nat → List Choice → List Choice × Bool
  | [], _, t, out => if 0 < t then ([], false) else (out, true)
  | x :: r, pv, t, out =>
    if x.k == 7 && x.n == 0 then
      if decide (0 < t) && !(pv.k == x.k && (pv.p == x.p && (pv.n == x.n && true))) then ([], false) else upG r x (t + 1) out
    else if x.k == 7 || (x.k == 5 && x.n != 0) || !((x.k == 8) == decide (0 < t)) then ([], false)
    else if x.k == 8 then
      if x.n != 0 || pv.p != x.p then ([], false) else upG r x 0 (out ++ [⟨5, x.p, t⟩])
    else upG r x t (out ++ [x])

theorem wrap_ok {n : Int} (h0 : -2 ^ 62 ≤ n) (h1 : n ≤ 2 ^ 62) : IntKind.i64.wrap n = n := by
  have e : (2 : Int) ^ IntKind.i64.bits = 18446744073709551616 := by decide
  have e2 : (2 : Int) ^ (IntKind.i64.bits - 1) = 9223372036854775808 := by decide
  unfold IntKind.wrap
  simp only [e, e2, IntKind.signed, Bool.true_and]
  by_cases h : 0 ≤ n
  · have : n % 18446744073709551616 = n := Int.emod_eq_of_lt h (by omega)
    rw [this, if_neg (by simp; omega)]
  · have : n % 18446744073709551616 = n + 18446744073709551616 := by omega
    rw [this, if_pos (by simp; omega)]
    omega

theorem lt_true {a b : Int} (h : ltI a b = true) : a < b := by simpa [ltI] using h
theorem lt_false {a b : Int} (h : ltI a b = false) : b ≤ a := by simpa [ltI] using h

theorem kd22 : Try.Y.kd 22 = some (.slice 41) := by kernel_rfl
theorem ty41 : Try.Y.ty 41 = some ⟨3, 24, .struct [(0, 3), (1, 3), (2, 3)], [.i .i64 0, .i .i64 0, .i .i64 0]⟩ := by kernel_rfl

theorem app_choice {h : Heap} {a : Option (Nat × Nat)} {l : Nat} {c : Option Nat} {kk : Nat} {out : List Choice} (x : Choice) (hl : IsL h 3 a l c kk (row encC out)) (hb : out.length < 2 ^ 30) :
    ∃ a' l' c' k' h', appendH Try.Y h 22 22 (.sl a l c kk) (.ts [.i .i64 x.k, .i .i64 x.p, .i .i64 x.n] 1 (some 1)) = some (.sl a' l' c' k', h') ∧ IsL h' 3 a' l' c' k' (row encC (out ++ [x])) := by
  have hlen : l = out.length := by have := hl.1; rw [row_length encC_len] at this; omega
  obtain ⟨a', l', c', k', h', h1, h2, _⟩ := append_ts (Y := Try.Y) (new := encC x) (m := 1) (cap := some 1) kd22 ty41 rfl (by decide) hl (by decide) rfl rfl (by simp [most]; omega) (by simp [most]; omega)
  refine ⟨a', l', c', k', h', h1, ?_⟩
  rw [row_append]
  simpa [row] using h2

abbrev upS : List Nat := [0, 2, 3, 4, 5, 8, 9, 10]

theorem get_choice (l : List Choice) {i : Nat} (hi : i < l.length) : takeX 3 (List.drop (i * 3) (row encC l)) = some [V.i .i64 l[i].k, V.i .i64 l[i].p, V.i .i64 l[i].n] := row_get encC_len hi
theorem get_peer (l : List Choice) {i : Nat} (hi : i < l.length) : takeX 1 (List.drop 1 (List.drop (i * 3) (row encC l))) = some [V.i .i64 l[i].p] := by
  have h := get_choice l hi
  have h2 : List.drop (i * 3) (row encC l) = encC l[i] ++ List.drop (i * 3 + 3) (row encC l) := by
    rw [row_drop encC_len l i, show i * 3 + 3 = (i + 1) * 3 by omega, row_drop encC_len l (i + 1), List.drop_eq_getElem_cons hi]; rfl
  rw [h2]; rfl

theorem get_choiceD (l : List Choice) {i : Nat} (hi : i < l.length) : takeX 3 (List.drop (i * 3) (row encC l)) = some [V.i .i64 (l.getD i default).k, V.i .i64 (l.getD i default).p, V.i .i64 (l.getD i default).n] := by
  rw [show l.getD i default = l[i] by simp [hi]]; exact get_choice l hi
theorem get_peerD (l : List Choice) {i : Nat} (hi : i < l.length) : takeX 1 (List.drop 1 (List.drop (i * 3) (row encC l))) = some [V.i .i64 (l.getD i default).p] := by
  rw [show l.getD i default = l[i] by simp [hi]]; exact get_peer l hi

theorem bd3 {B : Prop} {x : Option (List V)} {a b c : Int} {P : Int → Int → Int → Prop} (h : x = some [.i .i64 a, .i .i64 b, .i .i64 c]) (hb : B) (hp : P a b c) : B ∧ ∃ a b c : Int, x = some [V.i .i64 a, V.i .i64 b, V.i .i64 c] ∧ P a b c := ⟨hb, a, b, c, h, hp⟩
theorem bd1 {B : Prop} {x : Option (List V)} {a : Int} {P : Int → Prop} (h : x = some [.i .i64 a]) (hb : B) (hp : P a) : B ∧ ∃ a : Int, x = some [V.i .i64 a] ∧ P a := ⟨hb, a, h, hp⟩

/-- What holds at the loop's head. -/
def UpI (l : List Choice) (R : List Choice × Bool) (m : Nat) (vs : List V) (h : Heap) : Prop :=
  ∃ (i t : Nat) (out : List Choice) (a : Option (Nat × Nat)) (ul : Nat) (c : Option Nat) (k : Nat), vs = [lst encC l, .sl none 0 (some 0) 0, .b false, .sl a ul c k, .i .i64 t, lst encC l, .i .i64 l.length, .i .i64 i] ∧
    IsL h 3 a ul c k (row encC out) ∧ i ≤ l.length ∧ t ≤ i ∧ out.length ≤ i ∧ m = l.length - i ∧ upG (l.drop i) (l.getD (i - 1) default) t out = R

theorem up_con (l : List Choice) (hb : l.length < 2 ^ 30) : PCon Try.Y 8 [lst encC l] (· = .tup [lst encC (upG l (l.getD 0 default) 0 []).1, .b (upG l (l.getD 0 default) 0 []).2]) := by
  refine pcon_of Try.Yok (fn := Try.f8) (by kernel_rfl) (by kernel_rfl) rfl ?_
  refine pre_rule Try.Yok (n := 85) (loc := Try.Y.loc 8) 100 upS (by kernel_rfl) ?_
  rw [show (⟨[lst encC l] ++ List.replicate (Try.f8.ntmps - [lst encC l].length) .undef, [], .empty⟩ : St) = ⟨V.ts (row encC l) l.length none :: List.replicate 84 .undef, [], .empty⟩ by rfl, up_0]
  generalize hR : upG l (l.getD 0 default) 0 [] = R
  refine ⟨rfl, loop_rule upS (by kernel_rfl) (UpI l R) l.length mk_len ?_ ?_⟩
  · exact ⟨0, 0, [], none, 0, some 0, 0, rfl, IsL.nil _ _ _ _, by omega, by omega, by simp, by omega, by simpa using hR⟩
  · rintro m vs h ⟨i, t, out, a, ul, c, k, rfl, hL, hi, ht, ho, rfl, hg⟩
    refine codeP_ok Try.Yok (loc := Try.Y.loc 8) 100 _ _ _ ?_
    show codeP Try.Y (Try.Y.loc 8) 100 (body1 (post (flat (bodyOf Try.f8)))) ⟨mk 85 (upS.zip _), [], h⟩ _
    unfold lst
    rw [up_1]
    have e1 : IntKind.i64.wrap ((i : Int) + 1) = (i : Int) + 1 := wrap_ok (by omega) (by omega)
    have e2 : IntKind.i64.wrap ((t : Int) + 1) = (t : Int) + 1 := wrap_ok (by omega) (by omega)
    have e3 : IntKind.i64.wrap ((i : Int) - 1) = (i : Int) - 1 := wrap_ok (by omega) (by omega)
    have e4 : ((i : Int) - 1).toNat = i - 1 := by omega
    rw [e1, e2, e3, e4, Int.toNat_natCast]
    clear e1 e2 e3 e4
    simp only [ltI_pos, ltI_nat]
    refine if_dec (fun hlt => ?_) (fun hge => ?_)
    · have hdr : l.drop i = l[i] :: l.drop (i + 1) := List.drop_eq_getElem_cons hlt
      rw [hdr, upG] at hg
      have hpv : l.getD (i + 1 - 1) default = l[i] := by simp [hlt]
      have hx := get_choice l hlt
      refine ⟨by omega, _, _, _, hx, ?_⟩
      repeat' (first
        | refine if_dec (fun hc => ?_) (fun hc => ?_)
        | refine if_mk (fun hc => ?_) (fun hc => ?_)
        | refine bd3 (get_choiceD l (i := i - 1) ?_) ?_ ?_
        | refine bd1 (get_peerD l (i := i - 1) ?_) ?_ ?_)
      all_goals try first
        | omega
        | (exfalso; simp_all; done)
        | ((have h0t : 0 < t := by first | assumption | (simp_all [ltI]; done)); omega)
      all_goals generalize l.getD (i - 1) default = pv at *
      all_goals first
        | (refine fin2 (.inr rfl) rfl (frz_nil encC _ _ _) (.b _) ?_
           rw [← hg]; clear hg hx hdr hR hL; first | (simp [*]; done) | (simp_all; done))
        | (refine ⟨rfl, l.length - (i + 1), ?_, i + 1, t + 1, out, _, _, _, _, rfl, hL, ?_, ?_, ?_, rfl, ?_⟩ <;> first | omega | (rw [hpv, ← hg]; clear hg hx hdr hR hL; first | (simp [*]; done) | (simp_all; done)))
        | (obtain ⟨a', l', c', k', h', g1, g2⟩ := app_choice l[i] hL (by omega)
           refine ⟨a', l', c', k', h', g1, rfl, l.length - (i + 1), ?_, i + 1, t, _, _, _, _, _, rfl, g2, ?_, ?_, ?_, rfl, ?_⟩ <;> first | omega | (simp; omega) | (rw [hpv, ← hg]; clear hg hx hdr hR hL; first | (simp [*]; done) | (simp_all; done)))
        | (obtain ⟨a', l', c', k', h', g1, g2⟩ := app_choice ⟨5, l[i].p, t⟩ hL (by omega)
           refine ⟨a', l', c', k', h', g1, rfl, l.length - (i + 1), ?_, i + 1, 0, _, _, _, _, _, rfl, g2, ?_, ?_, ?_, rfl, ?_⟩ <;> first | omega | (simp; omega) | (rw [hpv, ← hg]; clear hg hx hdr hR hL; first | (simp [*]; done) | (simp_all; done)))
        | skip
    · have hil : i = l.length := by omega
      subst hil
      rw [List.drop_length, upG] at hg
      refine round_exit (by kernel_rfl) rfl ?_
      refine end_rule Try.Yok (loc := Try.Y.loc 8) 100 [2, 3] ?_
      show codeP Try.Y (Try.Y.loc 8) 100 ((post (flat (bodyOf Try.f8))).drop 1) ⟨mk 85 (upS.zip _), [], h⟩ _
      rw [up_2, ltI_pos]
      refine if_dec (fun hc => ?_) (fun hc => ?_)
      · refine finV2 (.inr rfl) rfl (frz_nil encC _ _ _) (.b _) ?_
        rw [← hg, if_pos hc]
      · refine finV2 (.inr rfl) rfl (frz_isL encC_cold (by decide) encC_len hL) (.b _) ?_
        rw [← hg, if_neg hc]
end Go.Y
