/- souffleurref30.Down, Up and lift.Steps as functions of lists. -/
import Derived.Test.YtlbbbmljaigajaaPDown
namespace Go.Y
open Go.Proofs
set_option maxRecDepth 100000

abbrev RS : List Nat := [0, 2, 3, 4, 5]
abbrev RS6 : List Nat := [0, 2, 3, 4, 5, 6, 48]
abbrev RS7 : List Nat := [0, 2, 3, 4, 5, 6, 7]

def RDownI (l : List Choice) (m : Nat) (vs : List V) (h : Heap) : Prop :=
  ∃ (i : Nat) (out : List Choice) (a : Option (Nat × Nat)) (ul : Nat) (c : Option Nat) (k : Nat), vs = [lst encC l, .sl none 0 (some 0) 0, .b false, .sl a ul c k, .i .i64 i] ∧
    IsL h 3 a ul c k (row encC out) ∧ i ≤ l.length ∧ out.length ≤ 65 * i ∧ m = l.length - i ∧ (l.take i).all plainB = true ∧ downG (l.drop i) out = downG l []

def RTakeI (l out : List Choice) (x : Choice) (i : Nat) (m : Nat) (vs : List V) (h : Heap) : Prop :=
  ∃ (j : Nat) (a : Option (Nat × Nat)) (ul : Nat) (c : Option Nat) (k : Nat), vs = [lst encC l, .sl none 0 (some 0) 0, .b false, .sl a ul c k, .i .i64 i, .lb [.i .i64 x.k, .i .i64 x.p, .i .i64 x.n], .i .i64 j] ∧
    IsL h 3 a ul c k (row encC (out ++ takes j x.p)) ∧ (j : Int) ≤ x.n ∧ m = x.n.toNat - j

theorem downR_bad {l : List Choice} {i : Nat} (hi : i < l.length) (h : plainB l[i] = false) : V.tup [lst encC [], .b false] = downR l := by
  have : l.all plainB = false := by
    rw [List.all_eq_false]
    exact ⟨_, List.getElem_mem hi, by simp [h]⟩
  simp [downR, this]

theorem rdown_con (l : List Choice) (hb : l.length < 2 ^ 20) : PCon Try.Y 11 [lst encC l] (· = downR l) := by
  refine pcon_of Try.Yok (fn := Try.f11) (by kernel_rfl) (by kernel_rfl) rfl ?_
  refine pre_rule Try.Yok (n := 72) (loc := Try.Y.loc 11) 100 RS (by kernel_rfl) ?_
  rw [show (⟨[lst encC l] ++ List.replicate (Try.f11.ntmps - [lst encC l].length) .undef, [], .empty⟩ : St) = ⟨lst encC l :: List.replicate 71 .undef, [], .empty⟩ by rfl, rdown_0]
  refine ⟨rfl, loop_rule RS (by kernel_rfl) (RDownI l) l.length mk_len ⟨0, [], none, 0, some 0, 0, rfl, IsL.nil _ _ _ _, by omega, by simp, by omega, rfl, rfl⟩ ?_⟩
  rintro m vs h ⟨i, out, a, ul, c, k, rfl, hL, hi, ho, rfl, hp, hg⟩
  refine pre_rule Try.Yok (n := 72) (loc := Try.Y.loc 11) 100 RS (by kernel_rfl) ?_
  rw [rdown_1, ltI_nat]
  refine if_dec (fun hlt => ?_) (fun hge => ?_)
  · refine ⟨rfl, block_rule (n := 72) RS (by kernel_rfl) ?_⟩
    refine pre_rule Try.Yok (n := 72) (loc := Try.Y.loc 11) 100 RS6 (by kernel_rfl) ?_
    rw [rdown_2, Int.toNat_natCast]
    rw [List.drop_eq_getElem_cons hlt, downG] at hg
    have hp1 : plainB l[i] = true → (l.take (i + 1)).all plainB = true := fun hx => by
      rw [List.take_succ_eq_append_getElem hlt, List.all_append, hp]; simp [hx]
    -- what stands behind the block
    have rest : ∀ (out' : List Choice) (a' : Option (Nat × Nat)) (l' : Nat) (c' : Option Nat) (k' : Nat) (h' : Heap), IsL h' 3 a' l' c' k' (row encC out') → out'.length ≤ out.length + 65 → plainB l[i] = true → downG (l.drop (i + 1)) out' = downG l [] →
        TriL Try.Y ((post (flat (loopB (post (flat (bodyOf Try.f11)))))).drop 1) ⟨mk 72 (RS.zip [lst encC l, .sl none 0 (some 0) 0, .b false, .sl a' l' c' k', .i .i64 i]), [], h'⟩
          (VQ RS (RoundV Try.Y 72 RS (RDownI l) (l.length - i) (loopId (post (flat (bodyOf Try.f11)))) ((post (flat (bodyOf Try.f11))).drop 1) (FinS Try.Y Try.f11 fun v h => ∃ r, Frz h v r ∧ r = downR l))) := by
      intro out' a' l' c' k' h' g1 g2 g3 g4
      refine all_rule Try.Yok (loc := Try.Y.loc 11) 100 RS ?_
      rw [rdown_7, wrap_ok (n := (i : Int) + 1) (by omega) (by omega)]
      exact ⟨rfl, l.length - (i + 1), by omega, i + 1, out', a', l', c', k', rfl, g1, by omega, by omega, rfl, hp1 g3, g4⟩
    refine bd3 (get_choice l hlt) (by omega) ?_
    have bad : plainB l[i] = false → PreV Try.Y 72 RS6 (post (flat (blockB (post (flat (loopB (post (flat (bodyOf Try.f11)))))))))
        (VQ RS (ContV Try.Y 72 RS (blockId (post (flat (loopB (post (flat (bodyOf Try.f11))))))) ((post (flat (loopB (post (flat (bodyOf Try.f11)))))).drop 1)
          (VQ RS (RoundV Try.Y 72 RS (RDownI l) (l.length - i) (loopId (post (flat (bodyOf Try.f11)))) ((post (flat (bodyOf Try.f11))).drop 1) (FinS Try.Y Try.f11 fun v h => ∃ r, Frz h v r ∧ r = downR l))))) .ret 72
        [lst encC l, .sl none 0 (some 0) 0, .b false, .sl a ul c k, .i .i64 i, .lb [.i .i64 l[i].k, .i .i64 l[i].p, .i .i64 l[i].n], .undef] h := fun hbad =>
      at_prefix (slots := RS) (more := [6, 48]) (vs1 := [_, _, _, _, _]) (vs2 := [_, _]) rfl (at_same (fin2 (.inr rfl) rfl (frz_nil encC _ _ _) (.b _) (downR_bad hlt hbad)))
    have add1 : plainB l[i] = true → ((l[i].k != 5 || l[i].n == 0) = true) → TriL Try.Y (post (flat (blockB (post (flat (loopB (post (flat (bodyOf Try.f11)))))))))
        ⟨mk 72 (RS6.zip [lst encC l, .sl none 0 (some 0) 0, .b false, .sl a ul c k, .i .i64 i, .lb [.i .i64 l[i].k, .i .i64 l[i].p, .i .i64 l[i].n], .b false]), [], h⟩
        (VQ RS (ContV Try.Y 72 RS (blockId (post (flat (loopB (post (flat (bodyOf Try.f11))))))) ((post (flat (loopB (post (flat (bodyOf Try.f11)))))).drop 1)
          (VQ RS (RoundV Try.Y 72 RS (RDownI l) (l.length - i) (loopId (post (flat (bodyOf Try.f11)))) ((post (flat (bodyOf Try.f11))).drop 1) (FinS Try.Y Try.f11 fun v h => ∃ r, Frz h v r ∧ r = downR l))))) := by
      intro hx hc
      refine cond_rule (b := false) (by kernel_rfl) (by kernel_rfl) ?_
      refine all_rule Try.Yok (loc := Try.Y.loc 11) 100 RS ?_
      show codeP Try.Y (Try.Y.loc 11) 100 (flat (condF (post (flat (blockB (post (flat (loopB (post (flat (bodyOf Try.f11)))))))))) ) ⟨mk 72 (RS6.zip _), [], h⟩ _
      rw [rdown_6]
      obtain ⟨a', l', c', k', h', g1, g2⟩ := app_choice l[i] hL (by omega)
      refine ⟨a', l', c', k', h', g1, rfl, rest _ _ _ _ _ _ g2 (by simp) hx ?_⟩
      rw [← hg, if_pos hc]
    have addn : plainB l[i] = true → ((l[i].k != 5 || l[i].n == 0) = false) → TriL Try.Y (post (flat (blockB (post (flat (loopB (post (flat (bodyOf Try.f11)))))))))
        ⟨mk 72 (RS6.zip [lst encC l, .sl none 0 (some 0) 0, .b false, .sl a ul c k, .i .i64 i, .lb [.i .i64 l[i].k, .i .i64 l[i].p, .i .i64 l[i].n], .b true]), [], h⟩
        (VQ RS (ContV Try.Y 72 RS (blockId (post (flat (loopB (post (flat (bodyOf Try.f11))))))) ((post (flat (loopB (post (flat (bodyOf Try.f11)))))).drop 1)
          (VQ RS (RoundV Try.Y 72 RS (RDownI l) (l.length - i) (loopId (post (flat (bodyOf Try.f11)))) ((post (flat (bodyOf Try.f11))).drop 1) (FinS Try.Y Try.f11 fun v h => ∃ r, Frz h v r ∧ r = downR l))))) := by
      intro hx hc
      rw [hc] at hg
      have hk5 : l[i].k = 5 := by simp at hc; exact hc.1
      have hn : 0 ≤ l[i].n ∧ l[i].n ≤ 64 := by
        simp [plainB, hk5, ltI] at hx
        exact hx
      refine cond_rule (b := true) (by kernel_rfl) (by kernel_rfl) ?_
      refine pre_rule Try.Yok (n := 72) (loc := Try.Y.loc 11) 100 RS7 (by kernel_rfl) ?_
      show codeP Try.Y (Try.Y.loc 11) 100 (pre (flat (condT (post (flat (blockB (post (flat (loopB (post (flat (bodyOf Try.f11))))))))))) ) ⟨mk 72 (RS6.zip _), [], h⟩ _
      rw [rdown_3]
      refine ⟨rfl, loop_rule RS7 (by kernel_rfl) (RTakeI l out l[i] i) l[i].n.toNat mk_len ⟨0, a, ul, c, k, rfl, by simpa [takes] using hL, by omega, by omega⟩ ?_⟩
      rintro m vs h2 ⟨j, a2, l2, c2, k2, rfl, hL2, hj, rfl⟩
      refine all_rule Try.Yok (loc := Try.Y.loc 11) 100 RS7 ?_
      show codeP Try.Y (Try.Y.loc 11) 100 (flat (loopB (post (flat (condT (post (flat (blockB (post (flat (loopB (post (flat (bodyOf Try.f11))))))))))))) ) ⟨mk 72 (RS7.zip _), [], h2⟩ _
      rw [rdown_4, wrap_ok (n := (j : Int) + 1) (by omega) (by omega)]
      have hlen : (out ++ takes j l[i].p).length ≤ out.length + 64 := by simp [takes]; omega
      refine if_lt (fun hjl => ?_) (fun hjg => ?_)
      · obtain ⟨a3, l3, c3, k3, h3, q1, q2⟩ := app_choice ⟨7, l[i].p, 0⟩ hL2 (by omega)
        refine ⟨a3, l3, c3, k3, h3, q1, rfl, l[i].n.toNat - (j + 1), by omega, j + 1, a3, l3, c3, k3, rfl, ?_, by omega, rfl⟩
        rw [← takes_succ, ← List.append_assoc]; exact q2
      · have hjn : j = l[i].n.toNat := by omega
        refine round_exit (by kernel_rfl) rfl ?_
        refine all_rule Try.Yok (loc := Try.Y.loc 11) 100 RS ?_
        show codeP Try.Y (Try.Y.loc 11) 100 ((post (flat (condT (post (flat (blockB (post (flat (loopB (post (flat (bodyOf Try.f11))))))))))) ).drop 1) ⟨mk 72 (RS7.zip _), [], h2⟩ _
        rw [rdown_5]
        obtain ⟨a3, l3, c3, k3, h3, q1, q2⟩ := app_choice ⟨8, l[i].p, 0⟩ hL2 (by omega)
        refine ⟨a3, l3, c3, k3, h3, q1, rfl, rest _ _ _ _ _ _ q2 (by simp at hlen ⊢; omega) hx ?_⟩
        rw [← hg, hjn]; rfl
    refine if_mk (fun h7 => bad (by simp [plainB, h7])) (fun h7 => ?_)
    refine if_mk (fun h8 => bad (by simp [plainB, h8])) (fun h8 => ?_)
    refine if_mk (fun h5 => ?_) (fun h5 => ?_)
    · refine if_mk (fun hn => bad (by simp [plainB, h5, hn])) (fun hn => ?_)
      refine if_mk (fun hn2 => bad (by simp [plainB, h5, hn2])) (fun hn2 => ?_)
      have hx : plainB l[i] = true := by simp only [plainB, h7, h8, h5, hn, hn2]; rfl
      refine if_mk (fun _ => ⟨rfl, ?_⟩) (fun h5' => by rw [h5] at h5'; cases h5')
      have hn0 := lt_false hn
      cases hp0 : ltI 0 l[i].n with
      | true => exact addn hx (by have := lt_true hp0; simp at h5 ⊢; exact ⟨h5, by omega⟩)
      | false => exact add1 hx (by have := lt_false hp0; simp; right; omega)
    · have hx : plainB l[i] = true := by simp only [plainB, h7, h8, h5]; rfl
      refine if_mk (fun h5' => by rw [h5] at h5'; cases h5') (fun _ => ⟨rfl, ?_⟩)
      exact add1 hx (by simp at h5 ⊢; exact .inl h5)
  · refine at_same (round_exit (by kernel_rfl) rfl ?_)
    refine end_rule Try.Yok (loc := Try.Y.loc 11) 100 [2, 3] ?_
    rw [rdown_8]
    refine finV2 (.inr rfl) rfl (frz_isL encC_cold (by decide) encC_len hL) (.b _) ?_
    rw [List.take_of_length_le (by omega)] at hp
    rw [List.drop_of_length_le (by omega)] at hg
    simp only [downR, hp, if_true, ← hg]; rfl

theorem steps_con (l : List Choice) (hb : l.length < 2 ^ 20) : PCon Try.Y 13 [lst encC l] (· = .i .i64 (if l.all plainB then (downG l []).length else 0 : Nat)) := by
  refine pcon_of Try.Yok (fn := Try.f13) (by kernel_rfl) (by kernel_rfl) rfl ?_
  refine end_rule Try.Yok (loc := Try.Y.loc 13) 100 [2] ?_
  rw [show (⟨[lst encC l] ++ List.replicate (Try.f13.ntmps - [lst encC l].length) .undef, [], .empty⟩ : St) = ⟨lst encC l :: List.replicate 11 .undef, [], .empty⟩ by rfl, steps_0]
  have h := down_con l hb
  unfold downR at h
  cases hall : l.all plainB with
  | true =>
    rw [hall] at h
    exact ⟨_, _, _, _, h, finV1 (.inr rfl) rfl (.i _ _) rfl⟩
  | false =>
    rw [hall] at h
    exact ⟨_, _, _, _, h, finV1 (.inr rfl) rfl (.i _ _) rfl⟩
end Go.Y
