/- souffleurref03.Parse and Same, by their contracts. -/
import Derived.Test.YtlnpmefmmiacaaaGreatGRef03
namespace Go.Y
open Go.Proofs
set_option maxRecDepth 100000

def RParseI (s : List UInt8) (R : Except Nat (List Glob)) (m : Nat) (vs : List V) (h : Heap) : Prop :=
  ∃ (i : Nat) (out : List Glob) (a : Option (Nat × Nat)) (l : Nat) (c : Option Nat) (k : Nat), vs = [.s s, .sl a l c k, .i .i64 (i : Nat)] ∧ Lst encG 3 h a l c k out ∧
    i ≤ s.length ∧ out.length ≤ i ∧ s.length - i < m ∧ parseS m s i out = R

theorem frzG0 (k b : Int) : FrzL .empty [.i .i64 k, .i .u8 b, .sl none 0 (some 0) 0] (encG ⟨k, b, []⟩) :=
  .cons _ _ _ _ (.i _ _) (.cons _ _ _ _ (.i _ _) (.cons _ _ _ _ (.sln _ _ none (fun x hx => by cases hx)) .nil))

theorem rparse_con (s : List UInt8) : PCon Tryz.Y 47 [.s s] (· = parseR s) := by
  refine pcon_of Tryz.Yok (fn := Tryz.f47) (by kernel_rfl) (by kernel_rfl) rfl ?_
  refine pre_rule Tryz.Yok (n := 71) (loc := Tryz.Y.loc 47) 100 [0, 2, 3, 4, 5, 6] (by kernel_rfl) ?_
  rw [show (⟨[.s s] ++ List.replicate (Tryz.f47.ntmps - [V.s s].length) .undef, [], .empty⟩ : St) = ⟨.s s :: List.replicate 70 .undef, [], .empty⟩ by rfl, f47_0]
  unfold parseR
  refine if_lt (fun hlt => ?_) (fun hge => ?_)
  · rw [if_pos (by omega)]
    exact fin3 (.inr rfl) rfl (frz_nil encG _ _ _) (.i _ _) (.i _ _) rfl
  have hs : s.length ≤ 200 := by omega
  rw [if_neg (by omega)]
  generalize hR : parseS (s.length + 1) s 0 [] = R
  refine ⟨rfl, loop2 [0, 5, 6] [0, 2, 3, 4, 5, 6] rfl (by kernel_rfl) (RParseI s R) (s.length + 1) mk_len
    ⟨0, [], none, 0, some 0, 0, rfl, Lst.nil _ _ _ _ _, by omega, by simp, by omega, hR⟩ ?_⟩
  rintro m vs h ⟨i, out, a, l, c, k, rfl, hL, hi, hol, hm, hg⟩
  refine all_rule Tryz.Yok (loc := Tryz.Y.loc 47) 100 [0, 2, 3, 4, 5, 6] ?_
  rw [f47_1]
  obtain ⟨m, rfl⟩ : ∃ m', m = m' + 1 := ⟨m - 1, by omega⟩
  have hll := hL.len
  refine if_lt_nat (fun hlt => ?_) (fun hge => ?_)
  · have hsi : s[i]? = some s[i] := by simp [hlt]
    simp only [parseS, hlt, if_true] at hg
    -- one more piece
    have more : ∀ (x : Glob) (j : Nat) (new : List V), pieceS s i = .ok (x, j) → new.length = 3 → allCells new = true → colds1 new = true → FrzL .empty new (encG x) → ∀ v6 : Int, v6 = (j : Nat) →
        ∃ (a' : Option (Nat × Nat)) (l' : Nat) (c' : Option Nat) (k' : Nat) (h_1 : Heap), appendH Tryz.Y h 121 121 (.sl a l c k) (.ts new 1 (some 1)) = some (.sl a' l' c' k', h_1) ∧
          RoundW Tryz.Y 71 [0, 2, 3, 4, 5, 6] [0, 5, 6] (RParseI s R) (m + 1) (loopId (post (flat (bodyOf Tryz.f47)))) ((post (flat (bodyOf Tryz.f47))).drop 1)
            (FinS Tryz.Y Tryz.f47 fun v h => ∃ r, Frz h v r ∧ r = match R with | .error e => .tup [lst encG [], .i .i64 (e : Nat), .i .i64 1] | .ok l => .tup [lst encG l, .i .i64 0, .i .i64 0])
            .normal 71 [.s s, .undef, .undef, .undef, .sl a' l' c' k', .i .i64 v6] h_1 := by
      rintro x j new hp h1 h2 h3 h4 v6 rfl
      have hj := pieceS_ok hp
      obtain ⟨a', l', c', k', h', q1, q2, _⟩ := glob_app x h1 h2 h3 h4 hL (by omega)
      rw [hp] at hg
      exact ⟨a', l', c', k', h', q1, rfl, m, by omega, j, out ++ [x], a', l', c', k', rfl, q2, hj.2, by simp; omega, by omega, hg⟩
    refine ⟨s[i], ⟨by omega, by simp [hlt]⟩, ?_⟩
    rw [show (42 : Int) = (((42 : UInt8).toNat : Nat) : Int) by decide, show (63 : Int) = (((63 : UInt8).toNat : Nat) : Int) by decide, show (91 : Int) = (((91 : UInt8).toNat : Nat) : Int) by decide, show (92 : Int) = (((92 : UInt8).toNat : Nat) : Int) by decide, u8_lit, u8_lit, u8_lit, u8_lit, wrap_succ (by omega)]
    refine if_dec (fun c1 => ?_) (fun c1 => ?_)
    · exact more ⟨2, 0, []⟩ (i + 1) _ (by unfold pieceS; rw [hsi]; simp only []; rw [if_pos c1]) rfl rfl rfl (frzG0 _ _) _ rfl
    refine if_dec (fun c2 => ?_) (fun c2 => ?_)
    · exact more ⟨1, 0, []⟩ (i + 1) _ (by unfold pieceS; rw [hsi]; simp only []; rw [if_neg c1, if_pos c2]) rfl rfl rfl (frzG0 _ _) _ rfl
    refine if_dec (fun c3 => ?_) (fun c3 => ?_)
    · have hc := spans_con s (i + 1) (by omega) (by omega)
      cases he : setS (s.length + 1) s (i + 1) [] with
      | error e =>
        have hp : pieceS s i = .error e := by unfold pieceS; rw [hsi]; simp only []; rw [if_neg c1, if_neg c2, if_pos c3, he]
        rw [he] at hc
        rw [hp] at hg
        refine ⟨_, _, _, _, _, hc, if_lt (fun _ => ?_) (fun h => by omega)⟩
        subst hg
        exact fin3 (.inr rfl) rfl (frz_nil encG _ _ _) (.i _ _) (.i _ _) rfl
      | ok y =>
        obtain ⟨l1, j⟩ := y
        have hp : pieceS s i = .ok (⟨3, 0, l1⟩, j) := by unfold pieceS; rw [hsi]; simp only []; rw [if_neg c1, if_neg c2, if_pos c3, he]
        rw [he] at hc
        exact ⟨_, _, _, _, _, hc, if_lt (fun h => by omega) (fun _ => more ⟨3, 0, l1⟩ j _ hp rfl rfl rfl (colds1_ok _ rfl) _ rfl)⟩
    refine if_dec (fun c4 => ?_) (fun c4 => ?_)
    · refine if_le (fun hle => ?_) (fun hl2 => ?_)
      · have hp : pieceS s i = .error (i + 1) := by unfold pieceS; rw [hsi]; simp only []; rw [if_neg c1, if_neg c2, if_neg c3, if_pos c4, List.getElem?_eq_none (by omega)]
        rw [hp] at hg
        subst hg
        exact fin3 (.inr rfl) rfl (frz_nil encG _ _ _) (.i _ _) (.i _ _) rfl
      · have hl : i + 1 < s.length := by omega
        refine ⟨s[i + 1], ⟨by omega, by rw [show (((i + 1 : Nat) : Int)).toNat = i + 1 by omega]; simp [hl]⟩, ?_⟩
        rw [wrap_succ (by omega)]
        exact more ⟨0, s[i + 1].toNat, []⟩ (i + 2) _ (by unfold pieceS; rw [hsi]; simp only []; rw [if_neg c1, if_neg c2, if_neg c3, if_pos c4]; simp [hl]) rfl rfl rfl (frzG0 _ _) _ rfl
    · exact more ⟨0, s[i].toNat, []⟩ (i + 1) _ (by unfold pieceS; rw [hsi]; simp only []; rw [if_neg c1, if_neg c2, if_neg c3, if_neg c4]) rfl rfl rfl (frzG0 _ _) _ rfl
  · refine roundW_exit [5] (by kernel_rfl) rfl rfl ?_
    refine end_rule Tryz.Yok (loc := Tryz.Y.loc 47) 100 [2, 3, 4] ?_
    rw [show pick [0, 2, 3, 4, 5, 6] [5] [V.s s, V.undef, V.undef, V.undef, V.sl a l c k, .i .i64 (i : Nat)] = [V.sl a l c k] by rfl, f47_2]
    simp only [parseS, Nat.not_lt.2 hge, if_false] at hg
    subst hg
    exact fin3Z (.inr rfl) rfl (hL.frz (by decide) encG_len) (.i _ _) (.i _ _) rfl
end Go.Y
