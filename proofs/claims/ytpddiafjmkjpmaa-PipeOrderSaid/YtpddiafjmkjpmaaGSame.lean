/- souffleurref03.Same, by its contract. -/
import Derived.Test.YtpddiafjmkjpmaaGRef03
namespace Go.Y
open Go.Proofs
set_option maxRecDepth 100000

def SameO (a b : List Glob) (m : Nat) (vs : List V) (_ : Heap) : Prop :=
  ∃ i : Nat, vs = [lst encG a, lst encG b, .i .i64 (i : Nat), .b false] ∧ i ≤ a.length ∧ m = a.length - i ∧ a.take i = b.take i
def SameN (a b : List Glob) (i : Nat) (x y : Glob) (m : Nat) (vs : List V) (_ : Heap) : Prop :=
  ∃ j : Nat, vs = [lst encG a, lst encG b, .i .i64 (i : Nat), .i .i64 (j : Nat), .b false] ∧ j ≤ x.sp.length ∧ m = x.sp.length - j ∧ x.sp.take j = y.sp.take j

theorem bnd_nat {i n : Nat} (h : i < n) : (0 : Int) ≤ (i : Nat) ∧ ((i : Nat) : Int) < (n : Nat) := ⟨by omega, by omega⟩

theorem rsame_con (a b : List Glob) (ha : a.length < 2 ^ 30) (hsp : ∀ x ∈ a, x.sp.length < 2 ^ 30) : PCon Try.Y 15 [lst encG a, lst encG b] (· = .b (decide (a = b))) := by
  refine pcon_of Try.Yok (fn := Try.f15) (by kernel_rfl) (by kernel_rfl) rfl ?_
  refine pre_rule Try.Yok (n := 84) (loc := Try.Y.loc 15) 100 [0, 1, 4, 5, 11] (by kernel_rfl) ?_
  rw [show (⟨[lst encG a, lst encG b] ++ List.replicate (Try.f15.ntmps - [lst encG a, lst encG b].length) .undef, [], .empty⟩ : St) = ⟨lst encG a :: lst encG b :: List.replicate 82 .undef, [], .empty⟩ by rfl, f15_0]
  have no : ∀ (o : Out) (vs : List V) (h : Heap) (so : List Nat), a ≠ b → resV Try.Y Try.f15 (so.zip vs) = some (.b false) → AtV so (FinS Try.Y Try.f15 fun v h => ∃ r, Frz h v r ∧ r = .b (decide (a = b))) .ret 84 vs h := fun o vs h so hne hv =>
    fin_at (.inr rfl) hv ⟨_, .b _, by simp [hne]⟩
  refine if_mk (fun hc => no .ret _ _ _ (fun e => by subst e; simp at hc) rfl) (fun hc => ?_)
  have hlen : a.length = b.length := by simp at hc; omega
  refine ⟨rfl, loop2 [0, 1, 5, 11] [0, 1, 4, 5, 11] rfl (by kernel_rfl) (SameO a b) a.length mk_len ⟨0, rfl, by omega, by omega, rfl⟩ ?_⟩
  rintro m vs h ⟨i, rfl, hi, rfl, hp⟩
  refine pre_rule Try.Yok (n := 84) (loc := Try.Y.loc 15) 100 [0, 1, 5, 11] (by kernel_rfl) ?_
  rw [f15_1]
  refine if_lt_nat (fun hlt => ?_) (fun hge => ?_)
  · have hlt' : i < b.length := by omega
    have ra := row_cons encG_len a hlt
    have rb := row_cons encG_len b hlt'
    refine ⟨rfl, block2 (n := 84) [0, 1, 4, 5, 6, 11] (by kernel_rfl) ?_⟩
    refine pre_rule Try.Yok (n := 84) (loc := Try.Y.loc 15) 100 [0, 1, 4, 5, 6, 11] (by kernel_rfl) ?_
    rw [f15_2, Int.toNat_natCast, ra, rb]
    -- different
    have diff : ∀ (v6 : V) (h : Heap), a[i] ≠ b[i] → AtV [0, 1, 4, 5, 6, 11] (VQ [0, 1, 4, 5, 11] (RoundW Try.Y 84 [0, 1, 4, 5, 11] [0, 1, 5, 11] (SameO a b) (a.length - i) (loopId (post (flat (bodyOf Try.f15)))) ((post (flat (bodyOf Try.f15))).drop 1)
        (FinS Try.Y Try.f15 fun v h => ∃ r, Frz h v r ∧ r = .b (decide (a = b))))) .ret 84 [lst encG a, lst encG b, .b false, .i .i64 (i : Nat), v6, .b false] h := by
      intro v6 h hne
      refine at_pick rfl ?_
      exact no .ret _ _ _ (fun e => hne (by subst e; rfl)) rfl
    refine ⟨bnd_nat hlt, a[i].k, rfl, bnd_nat hlt', b[i].k, rfl, if_mk (fun hk => at_pick rfl (diff _ _ (fun e => by rw [e] at hk; simp at hk))) (fun hk => ?_)⟩
    refine ⟨bnd_nat hlt, a[i].b, rfl, bnd_nat hlt', b[i].b, rfl, if_mk (fun hb => at_pick rfl (diff _ _ (fun e => by rw [e] at hb; simp at hb))) (fun hb => ?_)⟩
    refine ⟨bnd_nat hlt, _, _, _, rfl, bnd_nat hlt', _, _, _, rfl, if_mk (fun hl => at_pick rfl (diff _ _ (fun e => by rw [e] at hl; simp at hl))) (fun hl => ?_)⟩
    have hsl : a[i].sp.length = b[i].sp.length := by simp at hl; omega
    have hs30 := hsp a[i] (List.getElem_mem hlt)
    refine ⟨rfl, loopE [0, 1, 5, 6, 11] [0, 1, 4, 5, 6, 11] rfl (by kernel_rfl) (SameN a b i a[i] b[i]) a[i].sp.length mk_len ⟨0, rfl, by omega, by omega, rfl⟩ ?_⟩
    rintro m vs h2 ⟨j, rfl, hj, rfl, hq⟩
    refine all_rule Try.Yok (loc := Try.Y.loc 15) 100 [0, 1, 4, 5, 6, 11] ?_
    rw [f15_3, Int.toNat_natCast, ra, rb, Int.toNat_natCast]
    refine ⟨bnd_nat hlt, _, _, _, rfl, if_lt_nat (fun hjl => ?_) (fun hjg => ?_)⟩
    · have hjl' : j < b[i].sp.length := by omega
      refine ⟨bnd_nat hlt, _, _, _, rfl, bnd_nat hjl, _, _, row_get encS_len hjl, bnd_nat hlt', _, _, _, rfl, bnd_nat hjl', _, _, row_get encS_len hjl', if_mk (fun hd => ?_) (fun hd => ?_)⟩
      · refine at_pick rfl (diff _ _ (fun e => ?_))
        have : a[i].sp[j] = b[i].sp[j] := by simp only [e]
        rw [this] at hd
        simp at hd
      · have he : a[i].sp[j] = b[i].sp[j] := by
          simp only [Bool.and_true, Bool.not_eq_false', Bool.and_eq_true, beq_iff_eq] at hd
          cases h1 : a[i].sp[j]; cases h2 : b[i].sp[j]
          rw [h1, h2] at hd
          simp only at hd
          rw [hd.1, hd.2]
        refine ⟨rfl, a[i].sp.length - (j + 1), by omega, j + 1, ?_, by omega, rfl, take_more hq hjl hjl' he⟩
        rw [wrap_succ (by omega)]
        rfl
    · simp only [RoundE]
      rw [if_pos (by kernel_rfl)]
      refine at_pick rfl ?_
      refine ⟨rfl, [0, 1, 5, 11], rfl, ?_⟩
      have he : a[i] = b[i] := by
        have h1 := take_same hq hjg (by omega)
        simp only [bne_eq_false_iff_eq] at hk hb
        cases h3 : a[i]; cases h4 : b[i]
        rw [h3, h4] at h1 hk hb
        simp only at h1 hk hb
        rw [h1, hk, hb]
      refine all_two Try.Yok (loc := Try.Y.loc 15) 100 [0, 1, 5, 11] ?_
      refine Eq.mpr (f15_4 (row encG a) a.length (row encG b) b.length (i : Nat) _ _) ?_
      rw [wrap_succ (by omega)]
      exact fun vs2 ht => roundW_normal ht rfl rfl rfl (a.length - (i + 1)) (by omega) ⟨i + 1, rfl, by omega, rfl, take_more hp hlt hlt' he⟩
  · refine at_two fun vs2 ht => roundW_exit2 [] ht (by kernel_rfl) rfl rfl rfl ?_
    refine end_rule Try.Yok (loc := Try.Y.loc 15) 100 [4] ?_
    refine Eq.mpr (f15_5 _ _) ?_
    have := take_same hp hge (by omega)
    exact finV1 (.inr rfl) rfl (.b _) (by simp [this])
end Go.Y
