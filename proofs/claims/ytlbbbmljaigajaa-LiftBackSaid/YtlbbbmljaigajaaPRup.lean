/- souffleurref30.Up as a function of lists. -/
import Derived.Test.YtlbbbmljaigajaaPRef
namespace Go.Y
open Go.Proofs
set_option maxRecDepth 100000

/-- How many are the same from the head on. -/
def runOf (x : Choice) : List Choice → Nat
  | [] => 0
  | y :: r => if y = x then runOf x r + 1 else 0

theorem runOf_le (x : Choice) : ∀ l, runOf x l ≤ l.length
  | [] => Nat.le_refl _
  | y :: r => by simp only [runOf]; split; simpa using runOf_le x r; simp

/-- The reference, by fuel. -/
def rupG : Nat → List Choice → List Choice → List Choice × Bool
  | 0, _, out => (out, true)
  | _ + 1, [], out => (out, true)
  | n + 1, x :: r, out =>
    if x.k == 8 || x.k == 5 && x.n != 0 then ([], false)
    else if x.k != 7 then rupG n r (out ++ [x])
    else
      let t := runOf x r + 1
      if x.n != 0 then ([], false) else
      match r.drop (runOf x r) with
      | [] => ([], false)
      | y :: r' => if y = ⟨8, x.p, 0⟩ then rupG n r' (out ++ [⟨5, x.p, t⟩]) else ([], false)

def RUpI (l : List Choice) (R : List Choice × Bool) (m : Nat) (vs : List V) (h : Heap) : Prop :=
  ∃ (i n : Nat) (out : List Choice) (a : Option (Nat × Nat)) (ul : Nat) (c : Option Nat) (k : Nat), vs = [lst encC l, .sl none 0 (some 0) 0, .b false, .sl a ul c k, .i .i64 i] ∧
    IsL h 3 a ul c k (row encC out) ∧ i ≤ l.length ∧ out.length ≤ i ∧ m = l.length - i ∧ l.length - i ≤ n ∧ rupG n (l.drop i) out = R

def RunI (l : List Choice) (x : Choice) (i : Nat) (a : Option (Nat × Nat)) (ul : Nat) (c : Option Nat) (k : Nat) (h0 : Heap) (m : Nat) (vs : List V) (h : Heap) : Prop :=
  ∃ j : Nat, vs = [lst encC l, .sl none 0 (some 0) 0, .b false, .sl a ul c k, .i .i64 i, .lb [.i .i64 x.k, .i .i64 x.p, .i .i64 x.n], .i .i64 j] ∧ h = h0 ∧ i ≤ j ∧ j ≤ l.length ∧ m = l.length - j ∧
    runOf x (l.drop i) = runOf x (l.drop j) + (j - i)

theorem rup_con (l : List Choice) (hb : l.length < 2 ^ 30) : PCon Try.Y 9 [lst encC l] (· = .tup [lst encC (rupG l.length l []).1, .b (rupG l.length l []).2]) := by
  refine pcon_of Try.Yok (fn := Try.f9) (by kernel_rfl) (by kernel_rfl) rfl ?_
  refine pre_rule Try.Yok (n := 86) (loc := Try.Y.loc 9) 100 RS (by kernel_rfl) ?_
  rw [show (⟨[lst encC l] ++ List.replicate (Try.f9.ntmps - [lst encC l].length) .undef, [], .empty⟩ : St) = ⟨lst encC l :: List.replicate 85 .undef, [], .empty⟩ by rfl, rup_0]
  generalize hR : rupG l.length l [] = R
  refine ⟨rfl, loop_rule RS (by kernel_rfl) (RUpI l R) l.length mk_len ⟨0, l.length, [], none, 0, some 0, 0, rfl, IsL.nil _ _ _ _, by omega, by simp, by omega, by omega, hR⟩ ?_⟩
  rintro m vs h ⟨i, n, out, a, ul, c, k, rfl, hL, hi, ho, rfl, hn, hg⟩
  refine pre_rule Try.Yok (n := 86) (loc := Try.Y.loc 9) 100 RS (by kernel_rfl) ?_
  rw [rup_1, ltI_nat]
  refine if_dec (fun hlt => ?_) (fun hge => ?_)
  · obtain ⟨n, rfl⟩ : ∃ n', n = n' + 1 := ⟨n - 1, by omega⟩
    refine ⟨rfl, last_rule (by kernel_rfl) ?_⟩
    refine pre_rule Try.Yok (n := 86) (loc := Try.Y.loc 9) 100 RS7 (by kernel_rfl) ?_
    rw [rup_2, Int.toNat_natCast, wrap_ok (n := (i : Int) + 1) (by omega) (by omega)]
    have hdr : l.drop i = l[i] :: l.drop (i + 1) := List.drop_eq_getElem_cons hlt
    rw [hdr, rupG] at hg
    refine bd3 (get_choice l hlt) (by omega) ?_
    -- a refusal; an element that goes on as it is
    have bad : ([], false) = R → ∀ v7, PreV Try.Y 86 RS7 (post (flat (blockB (post (flat (loopB (post (flat (bodyOf Try.f9))))))))) (VQ RS (LastV (blockId (post (flat (loopB (post (flat (bodyOf Try.f9)))))))
        (RoundV Try.Y 86 RS (RUpI l R) (l.length - i) (loopId (post (flat (bodyOf Try.f9)))) ((post (flat (bodyOf Try.f9))).drop 1) (FinS Try.Y Try.f9 fun v h => ∃ r, Frz h v r ∧ r = .tup [lst encC R.1, .b R.2])))) .ret 86
        [lst encC l, .sl none 0 (some 0) 0, .b false, .sl a ul c k, .i .i64 i, .lb [.i .i64 l[i].k, .i .i64 l[i].p, .i .i64 l[i].n], v7] h := fun hbad v7 =>
      at_prefix (slots := RS) (more := [6, 7]) (vs1 := [_, _, _, _, _]) (vs2 := [_, _]) rfl (fin2 (.inr rfl) rfl (frz_nil encC _ _ _) (.b _) (by rw [← hbad]))
    obtain ⟨a1, l1, c1, k1, h1, g1, g2⟩ := app_choice l[i] hL (by omega)
    have add : rupG n (l.drop (i + 1)) (out ++ [l[i]]) = R → PreV Try.Y 86 RS7 (post (flat (blockB (post (flat (loopB (post (flat (bodyOf Try.f9))))))))) (VQ RS (LastV (blockId (post (flat (loopB (post (flat (bodyOf Try.f9)))))))
        (RoundV Try.Y 86 RS (RUpI l R) (l.length - i) (loopId (post (flat (bodyOf Try.f9)))) ((post (flat (bodyOf Try.f9))).drop 1) (FinS Try.Y Try.f9 fun v h => ∃ r, Frz h v r ∧ r = .tup [lst encC R.1, .b R.2])))) (.exit 1) 86
        [lst encC l, .sl none 0 (some 0) 0, .b false, .sl a1 l1 c1 k1, .i .i64 ((i : Int) + 1), .lb [.i .i64 l[i].k, .i .i64 l[i].p, .i .i64 l[i].n], .undef] h1 := fun hadd =>
      at_prefix (slots := RS) (more := [6, 7]) (vs1 := [_, _, _, _, _]) (vs2 := [_, _]) rfl ⟨rfl, l.length - (i + 1), by omega, i + 1, n, _, _, _, _, _, rfl, g2, by omega, by simp; omega, rfl, by omega, hadd⟩
    -- a run of takes
    have go : (l[i].k == 8 || l[i].k == 5 && l[i].n != 0) = false → (l[i].k != 7) = false → PreV Try.Y 86 RS7 (post (flat (blockB (post (flat (loopB (post (flat (bodyOf Try.f9))))))))) (VQ RS (LastV (blockId (post (flat (loopB (post (flat (bodyOf Try.f9)))))))
        (RoundV Try.Y 86 RS (RUpI l R) (l.length - i) (loopId (post (flat (bodyOf Try.f9)))) ((post (flat (bodyOf Try.f9))).drop 1) (FinS Try.Y Try.f9 fun v h => ∃ r, Frz h v r ∧ r = .tup [lst encC R.1, .b R.2])))) .normal 86
        [lst encC l, .sl none 0 (some 0) 0, .b false, .sl a ul c k, .i .i64 i, .lb [.i .i64 l[i].k, .i .i64 l[i].p, .i .i64 l[i].n], .i .i64 i] h := by
      intro hc1 hc2
      rw [hc1, hc2] at hg
      simp only [Bool.false_eq_true, if_false] at hg
      refine ⟨rfl, loop_rule RS7 (by kernel_rfl) (RunI l l[i] i a ul c k h) (l.length - i) mk_len ⟨i, rfl, rfl, by omega, by omega, rfl, by simp⟩ ?_⟩
      rintro m vs h' ⟨j, rfl, rfl, hij, hj, rfl, hrun⟩
      refine all_rule Try.Yok (loc := Try.Y.loc 9) 100 RS7 ?_
      rw [rup_3, Int.toNat_natCast, wrap_ok (n := (j : Int) + 1) (by omega) (by omega), ltI_nat]
      -- behind the run
      have stop : runOf l[i] (l.drop j) = 0 → RoundV Try.Y 86 RS7 (RunI l l[i] i a ul c k h') (l.length - j) (loopId (post (flat (blockB (post (flat (loopB (post (flat (bodyOf Try.f9))))))))))
          ((post (flat (blockB (post (flat (loopB (post (flat (bodyOf Try.f9))))))))).drop 1) (VQ RS (LastV (blockId (post (flat (loopB (post (flat (bodyOf Try.f9)))))))
          (RoundV Try.Y 86 RS (RUpI l R) (l.length - i) (loopId (post (flat (bodyOf Try.f9)))) ((post (flat (bodyOf Try.f9))).drop 1) (FinS Try.Y Try.f9 fun v h => ∃ r, Frz h v r ∧ r = .tup [lst encC R.1, .b R.2])))) (.exit 2) 86
          [lst encC l, .sl none 0 (some 0) 0, .b false, .sl a ul c k, .i .i64 i, .lb [.i .i64 l[i].k, .i .i64 l[i].p, .i .i64 l[i].n], .i .i64 j] h' := by
        intro h0
        rw [h0, Nat.zero_add, hdr] at hrun
        simp only [runOf, if_true] at hrun
        have hr1 : runOf l[i] (l.drop (i + 1)) + 1 = j - i := hrun
        have hdj : (l.drop (i + 1)).drop (runOf l[i] (l.drop (i + 1))) = l.drop j := by rw [List.drop_drop]; congr 1; omega
        rw [hdj] at hg
        refine round_exit (by kernel_rfl) rfl ?_
        refine all_rule Try.Yok (loc := Try.Y.loc 9) 100 RS ?_
        rw [rup_4]
        refine if_mk (fun hz => ?_) (fun hz => ?_)
        · rw [hz] at hg
          exact fin2 (.inr rfl) rfl (frz_nil encC _ _ _) (.b _) (by rw [← hg]; rfl)
        · rw [hz] at hg
          refine if_mk (fun hjn => ?_) (fun hjn => ?_)
          · have : j = l.length := by simp at hjn; omega
            rw [this, List.drop_length] at hg
            exact fin2 (.inr rfl) rfl (frz_nil encC _ _ _) (.b _) (by rw [← hg]; rfl)
          · have hjl : j < l.length := by simp at hjn; omega
            rw [List.drop_eq_getElem_cons hjl] at hg
            rw [Int.toNat_natCast]
            refine bd3 (get_choice l hjl) (by omega) ?_
            rw [eqb l[j] ⟨8, l[i].p, 0⟩]
            refine if_mk (fun hne => ?_) (fun heq => ?_)
            · have hne : ¬ l[j] = ⟨8, l[i].p, 0⟩ := by simpa using hne
              simp only [Bool.false_eq_true, if_false, hne] at hg
              exact fin2 (.inr rfl) rfl (frz_nil encC _ _ _) (.b _) (by rw [← hg])
            · have heq : l[j] = ⟨8, l[i].p, 0⟩ := by simpa using heq
              simp only [Bool.false_eq_true, if_false, heq, if_true] at hg
              have e1 : IntKind.i64.wrap ((j : Int) - i) = ((j - i : Nat) : Int) := by rw [wrap_ok (by omega) (by omega)]; omega
              rw [e1, wrap_ok (n := (j : Int) + 1) (by omega) (by omega)]
              obtain ⟨a3, l3, c3, k3, h3, q1, q2⟩ := app_choice ⟨5, l[i].p, ((j - i : Nat) : Int)⟩ hL (by omega)
              refine ⟨a3, l3, c3, k3, h3, q1, rfl, l.length - (j + 1), by omega, j + 1, n, _, _, _, _, _, rfl, q2, by omega, by simp; omega, rfl, by omega, ?_⟩
              rw [hr1] at hg; exact hg
      refine if_dec (fun hjl => ?_) (fun hjg => ?_)
      · refine bd3 (get_choice l hjl) (by omega) ?_
        rw [eqb l[j] l[i]]
        refine if_dec (fun he => ?_) (fun he => ?_)
        · refine ⟨rfl, l.length - (j + 1), by omega, j + 1, rfl, rfl, by omega, by omega, rfl, ?_⟩
          rw [hrun, List.drop_eq_getElem_cons hjl]
          simp only [runOf, he, if_true]
          omega
        · exact stop (by rw [List.drop_eq_getElem_cons hjl]; simp [runOf, he])
      · exact stop (by rw [List.drop_of_length_le (by omega)]; rfl)
    refine if_mk (fun h8 => bad (by rw [← hg, h8]; rfl) _) (fun h8 => ?_)
    refine if_mk (fun h5 => ?_) (fun h5 => ?_)
    · refine if_mk (fun hz => bad (by rw [← hg, h8, h5, hz]; rfl) _) (fun hz => ?_)
      refine if_mk (fun h7 => ⟨a1, l1, c1, k1, h1, g1, add (by rw [← hg, h8, h5, hz, h7]; rfl)⟩) (fun h7 => go (by rw [h8, h5, hz]; rfl) h7)
    · refine if_mk (fun h7 => ⟨a1, l1, c1, k1, h1, g1, add (by rw [← hg, h8, h5, h7]; rfl)⟩) (fun h7 => go (by rw [h8, h5]; rfl) h7)
  · refine at_same (round_exit (by kernel_rfl) rfl ?_)
    refine end_rule Try.Yok (loc := Try.Y.loc 9) 100 [2, 3] ?_
    rw [rup_5]
    refine finV2 (.inr rfl) rfl (frz_isL encC_cold (by decide) encC_len hL) (.b _) ?_
    rw [List.drop_of_length_le (by omega)] at hg
    have : rupG n [] out = (out, true) := by cases n <;> rfl
    rw [this] at hg
    rw [← hg]
end Go.Y
