/- lift.Down as a function of lists. -/
import Derived.Test.YtlbbbmljaigajaaPSame
namespace Go.Y
open Go.Proofs
set_option maxRecDepth 100000

def takes (n : Nat) (p : Int) : List Choice := List.replicate n ⟨7, p, 0⟩

def downG : List Choice → List Choice → List Choice
  | [], out => out
  | x :: r, out => if x.k != 5 || x.n == 0 then downG r (out ++ [x]) else downG r (out ++ takes x.n.toNat x.p ++ [⟨8, x.p, 0⟩])

def downR (l : List Choice) : V := if l.all plainB then .tup [lst encC (downG l []), .b true] else .tup [lst encC [], .b false]

abbrev DS : List Nat := [2, 3, 4, 10, 11, 12]
abbrev DS6 : List Nat := [2, 3, 4, 10, 11, 12, 6, 29, 30]

def DownI (l R : List Choice) (m : Nat) (vs : List V) (h : Heap) : Prop :=
  ∃ (i : Nat) (out : List Choice) (a : Option (Nat × Nat)) (ul : Nat) (c : Option Nat) (k : Nat), vs = [.sl none 0 (some 0) 0, .b false, .sl a ul c k, lst encC l, .i .i64 l.length, .i .i64 i] ∧
    IsL h 3 a ul c k (row encC out) ∧ i ≤ l.length ∧ out.length ≤ 65 * i ∧ m = l.length - i ∧ downG (l.drop i) out = R

def TakeI (l out : List Choice) (x : Choice) (i : Nat) (m : Nat) (vs : List V) (h : Heap) : Prop :=
  ∃ (j : Nat) (a : Option (Nat × Nat)) (ul : Nat) (c : Option Nat) (k : Nat), vs = [.sl none 0 (some 0) 0, .b false, .sl a ul c k, lst encC l, .i .i64 l.length, .i .i64 i, .lb [.i .i64 x.k, .i .i64 x.p, .i .i64 x.n], .i .i64 x.n, .i .i64 j] ∧
    IsL h 3 a ul c k (row encC (out ++ takes j x.p)) ∧ (j : Int) ≤ x.n ∧ m = x.n.toNat - j

theorem takes_succ (j : Nat) (p : Int) : takes j p ++ [⟨7, p, 0⟩] = takes (j + 1) p := by simp [takes, List.replicate_succ']

theorem down_con (l : List Choice) (hb : l.length < 2 ^ 20) : PCon Try.Y 10 [lst encC l] (· = downR l) := by
  refine pcon_of Try.Yok (fn := Try.f10) (by kernel_rfl) (by kernel_rfl) rfl ?_
  refine pre_rule Try.Yok (n := 47) (loc := Try.Y.loc 10) 100 DS (by kernel_rfl) ?_
  rw [show (⟨[lst encC l] ++ List.replicate (Try.f10.ntmps - [lst encC l].length) .undef, [], .empty⟩ : St) = ⟨lst encC l :: List.replicate 46 .undef, [], .empty⟩ by rfl, down_0]
  refine ⟨_, plain_con l (by omega), ?_⟩
  unfold downR
  cases hall : l.all plainB with
  | false => exact fin2 (.inr rfl) rfl (frz_nil encC _ _ _) (.b _) rfl
  | true =>
    generalize hR : downG l [] = R
    refine ⟨rfl, loop_rule DS (by kernel_rfl) (DownI l R) l.length mk_len ⟨0, [], none, 0, some 0, 0, rfl, IsL.nil _ _ _ _, by omega, by simp, by omega, hR⟩ ?_⟩
    rintro m vs h ⟨i, out, a, ul, c, k, rfl, hL, hi, ho, rfl, hg⟩
    refine pre_rule Try.Yok (n := 47) (loc := Try.Y.loc 10) 100 DS (by kernel_rfl) ?_
    rw [down_1, ltI_nat]
    refine if_dec (fun hlt => ?_) (fun hge => ?_)
    · refine ⟨rfl, block_rule (n := 47) DS (by kernel_rfl) ?_⟩
      refine pre_rule Try.Yok (n := 47) (loc := Try.Y.loc 10) 100 DS6 (by kernel_rfl) ?_
      rw [down_2, Int.toNat_natCast]
      rw [List.drop_eq_getElem_cons hlt, downG] at hg
      have hx : plainB l[i] = true := List.all_eq_true.1 hall _ (List.getElem_mem hlt)
      -- what stands behind the block
      have rest : ∀ (out' : List Choice) (a' : Option (Nat × Nat)) (l' : Nat) (c' : Option Nat) (k' : Nat) (h' : Heap), IsL h' 3 a' l' c' k' (row encC out') → out'.length ≤ out.length + 65 → downG (l.drop (i + 1)) out' = R →
          TriL Try.Y ((post (flat (loopB (post (flat (bodyOf Try.f10)))))).drop 1) ⟨mk 47 (DS.zip [.sl none 0 (some 0) 0, .b false, .sl a' l' c' k', lst encC l, .i .i64 l.length, .i .i64 i]), [], h'⟩
            (VQ DS (RoundV Try.Y 47 DS (DownI l R) (l.length - i) (loopId (post (flat (bodyOf Try.f10)))) ((post (flat (bodyOf Try.f10))).drop 1) (FinS Try.Y Try.f10 fun v h => ∃ r, Frz h v r ∧ r = .tup [lst encC R, .b true]))) := by
        intro out' a' l' c' k' h' g1 g2 g3
        refine all_rule Try.Yok (loc := Try.Y.loc 10) 100 DS ?_
        rw [down_5, wrap_ok (n := (i : Int) + 1) (by omega) (by omega)]
        exact ⟨rfl, l.length - (i + 1), by omega, i + 1, out', a', l', c', k', rfl, g1, by omega, by omega, rfl, g3⟩
      refine bd3 (get_choice l hlt) (by omega) ?_
      have one : ∃ (a' : Option (Nat × Nat)) (l' : Nat) (c' : Option Nat) (k' : Nat) (h' : Heap), appendH Try.Y h 22 22 (.sl a ul c k) (.ts [.i .i64 l[i].k, .i .i64 l[i].p, .i .i64 l[i].n] 1 (some 1)) = some (.sl a' l' c' k', h') ∧ IsL h' 3 a' l' c' k' (row encC (out ++ [l[i]])) := app_choice l[i] hL (by omega)
      obtain ⟨a', l', c', k', h', g1, g2⟩ := one
      refine if_mk (fun hc => ?_) (fun hc => ?_)
      · refine ⟨a', l', c', k', h', g1, ?_⟩
        refine at_prefix (slots := DS) (more := [6, 29, 30]) (vs1 := [_, _, _, _, _, _]) (vs2 := [_, _, _]) rfl ?_
        refine cont_exit (by kernel_rfl) rfl (rest _ _ _ _ _ _ g2 (by simp) ?_)
        rw [← hg, hc]; rfl
      · refine if_mk (fun hc2 => ?_) (fun hc2 => ?_)
        · refine ⟨a', l', c', k', h', g1, ?_⟩
          refine at_prefix (slots := DS) (more := [6, 29, 30]) (vs1 := [_, _, _, _, _, _]) (vs2 := [_, _, _]) rfl ?_
          refine cont_exit (by kernel_rfl) rfl (rest _ _ _ _ _ _ g2 (by simp) ?_)
          rw [← hg, hc, hc2]; rfl
        · rw [hc, hc2] at hg
          have hk5 : l[i].k = 5 := by simpa using hc
          have hn : 0 ≤ l[i].n ∧ l[i].n ≤ 64 := by
            simp [plainB, hk5, ltI] at hx
            exact hx
          refine ⟨rfl, loop_rule DS6 (by kernel_rfl) (TakeI l out l[i] i) l[i].n.toNat mk_len ⟨0, a, ul, c, k, rfl, by simpa [takes] using hL, by omega, by omega⟩ ?_⟩
          rintro m vs h2 ⟨j, a2, l2, c2, k2, rfl, hL2, hj, rfl⟩
          refine all_rule Try.Yok (loc := Try.Y.loc 10) 100 DS6 ?_
          rw [down_3, wrap_ok (n := (j : Int) + 1) (by omega) (by omega)]
          have hlen : (out ++ takes j l[i].p).length ≤ out.length + 64 := by simp [takes]; omega
          refine if_lt (fun hjl => ?_) (fun hjg => ?_)
          · obtain ⟨a3, l3, c3, k3, h3, q1, q2⟩ := app_choice ⟨7, l[i].p, 0⟩ hL2 (by omega)
            refine ⟨a3, l3, c3, k3, h3, q1, rfl, l[i].n.toNat - (j + 1), by omega, j + 1, a3, l3, c3, k3, rfl, ?_, by omega, rfl⟩
            rw [← takes_succ, ← List.append_assoc]; exact q2
          · have hjn : j = l[i].n.toNat := by omega
            refine round_exit (by kernel_rfl) rfl ?_
            refine all_rule Try.Yok (loc := Try.Y.loc 10) 100 DS ?_
            rw [down_4]
            obtain ⟨a3, l3, c3, k3, h3, q1, q2⟩ := app_choice ⟨8, l[i].p, 0⟩ hL2 (by omega)
            refine ⟨a3, l3, c3, k3, h3, q1, rfl, rest _ _ _ _ _ _ q2 (by simp at hlen ⊢; omega) ?_⟩
            rw [← hg, hjn]; rfl
    · refine at_same (round_exit (by kernel_rfl) rfl ?_)
      refine end_rule Try.Yok (loc := Try.Y.loc 10) 100 [2, 3] ?_
      rw [down_6]
      refine finV2 (.inr rfl) rfl (frz_isL encC_cold (by decide) encC_len hL) (.b _) ?_
      rw [← hg, List.drop_of_length_le (by omega)]; rfl
end Go.Y
