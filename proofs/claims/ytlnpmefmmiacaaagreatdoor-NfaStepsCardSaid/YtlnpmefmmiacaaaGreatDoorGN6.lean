/- Automata: Run, Begin, Step, Ends; the law. -/
import Derived.Test.YtlnpmefmmiacaaaGreatDoorGN5
namespace Go.Y
open Go.Proofs
set_option maxRecDepth 100000
set_option maxHeartbeats 1000000

def walkA (a : Au) (c : UInt8) (r : List UInt8) : List Int := r.foldl (fun ps c => stepA a ps c.toNat) (havL a.sets a.first c.toNat)
theorem foldA_len {a : Au} (h : OkA a) : ∀ (r : List UInt8) (ps : List Int), ps.length ≤ 40 → (r.foldl (fun ps c => stepA a ps c.toNat) ps).length ≤ 40
  | [], _, hp => hp
  | c :: r, ps, _ => foldA_len h r _ (stepA_len h c.toNat ps)
theorem walkA_len {a : Au} (h : OkA a) (c : UInt8) (r : List UInt8) : (walkA a c r).length ≤ 40 :=
  foldA_len h r _ (Nat.le_trans (havL_len _ _ _) h.nfirst)
theorem walkA_snoc (a : Au) (c : UInt8) (r : List UInt8) {j : Nat} (hj : j < r.length) : walkA a c (r.take (j + 1)) = stepA a (walkA a c (r.take j)) r[j].toNat := by
  unfold walkA; rw [List.take_succ_eq_append_getElem hj, List.foldl_append]; rfl
def runA (a : Au) : List UInt8 → Bool
  | [] => a.empty
  | c :: r => endsA a (walkA a c r)
theorem u8lt (c : UInt8) : c.toNat < 256 := c.toNat_lt


theorem run8 (hs : SortSays Tryz.Y.P 36) (hcm : CompactSays Tryz.Y.P 37) {a : Au} (ha : OkA a) (s : List UInt8) (hl : s.length ≤ 20) : PCon Tryz.Y 8 [.agg (auC a), .s s] (· = .b (runA a s)) := by
  refine pcon_of Tryz.Yok (fn := Tryz.f8) (by kernel_rfl) (by kernel_rfl) rfl ?_
  refine pre_rule Tryz.Yok (n := 37) (loc := Tryz.Y.loc 8) 100 [1, 2, 4, 5, 6] (by kernel_rfl) ?_
  refine Eq.mpr (f8_0 (row encS4 a.sets) a.sets.length (row encI a.first) a.first.length (row encI a.last) a.last.length (row encL a.follow) a.follow.length a.empty s .empty _) ?_
  refine ⟨_, may7 a ha.small, if_mk (fun g => by rw [ha.may] at g; cases g) (fun _ => ?_)⟩
  match s, hl with
  | [], _ => exact if_mk (fun _ => fin_at (.inr rfl) rfl ⟨_, .b _, rfl⟩) (fun g => by cases g)
  | c :: r, hl =>
  refine if_mk (fun g => by cases g) (fun _ => ?_)
  refine ⟨c, ⟨by decide, rfl⟩, _, _, _, having23 a a.first c.toNat (u8lt c) ha.first (by have := ha.nfirst; omega), rfl, ?_⟩
  have hl : r.length ≤ 19 := by simp at hl; omega
  refine loop2 [1, 2, 5, 6] [1, 2, 5, 6] rfl (by kernel_rfl) (fun m vs _ => ∃ j : Nat, vs = [.s (c :: r), .lb (auC a), lst encI (walkA a c (r.take j)), .i .i64 ((j + 1 : Nat))] ∧ j ≤ r.length ∧ m = r.length - j) r.length mk_len ⟨0, rfl, by omega, by omega⟩ ?_
  rintro m vs h ⟨j, rfl, hj, rfl⟩
  refine all_rule Tryz.Yok (loc := Tryz.Y.loc 8) 100 [1, 2, 5, 6] ?_
  refine Eq.mpr (f8_1 (row encS4 a.sets) a.sets.length (row encI a.first) a.first.length (row encI a.last) a.last.length (row encL a.follow) a.follow.length (c :: r) a.empty none (row encI (walkA a c (r.take j))) (walkA a c (r.take j)).length ((j + 1 : Nat)) h _) ?_
  refine if_lt_nat (fun hlt => ?_) (fun hge => ?_)
  · have hlt : j < r.length := by simp at hlt; omega
    refine ⟨r[j], ⟨by omega, by rw [Int.toNat_natCast]; simp [hlt]⟩, _, _, _, step24 hs hcm ha (walkA a c (r.take j)) r[j].toNat (u8lt _) (by have := walkA_len ha c (r.take j); omega), rfl, r.length - (j + 1), by omega, j + 1, ?_, by omega, rfl⟩
    rw [wrap_succ (by omega), walkA_snoc a c r hlt]
    rfl
  · have hge : r.length ≤ j := by simp at hge; omega
    refine roundW_exit [2, 5] (by kernel_rfl) rfl rfl ?_
    refine end_rule Tryz.Yok (loc := Tryz.Y.loc 8) 100 [4] ?_
    refine Eq.mpr (f8_2 (row encS4 a.sets) a.sets.length (row encI a.first) a.first.length (row encI a.last) a.last.length (row encL a.follow) a.follow.length none (row encI (walkA a c (r.take j))) (walkA a c (r.take j)).length a.empty h _) ?_
    rw [List.take_of_length_le hge]
    exact ⟨_, ends25 ha.nlast (walkA a c r) (by have := walkA_len ha c r; omega), finV1 (.inr rfl) rfl (.b _) rfl⟩
theorem step10 (hs : SortSays Tryz.Y.P 36) (hcm : CompactSays Tryz.Y.P 37) {a : Au} (ha : OkA a) (ps : List Int) (c : Nat) (hc : c < 256) (hl : ps.length ≤ 2 ^ 10) : PCon Tryz.Y 10 [.agg (auC a), lst encI ps, .i .u8 (c : Nat)] (· = lst encI (stepA a ps c)) :=
  tree_con Tryz.Yok (fn := Tryz.f10) (by kernel_rfl) (by kernel_rfl) rfl (fun K => f10_0 (row encS4 a.sets) a.sets.length (row encI a.first) a.first.length (row encI a.last) a.last.length (row encL a.follow) a.follow.length a.empty (row encI ps) ps.length (c : Nat) .empty K) rfl
    ⟨_, may7 a ha.small, if_mk (fun g => by rw [ha.may] at g; cases g) (fun _ => ⟨_, _, _, step24 hs hcm ha ps c hc hl, finV1 (.inr rfl) rfl (.ts _ _ _ _ (fun _ h => h)) rfl⟩)⟩

theorem run8n {a : Au} (hsm : smallA a = true) (hm : mayA a = false) (s : List UInt8) : PCon Tryz.Y 8 [.agg (auC a), .s s] (· = .b false) := by
  refine pcon_of Tryz.Yok (fn := Tryz.f8) (by kernel_rfl) (by kernel_rfl) rfl ?_
  refine pre_rule Tryz.Yok (n := 37) (loc := Tryz.Y.loc 8) 100 [1, 2, 4, 5, 6] (by kernel_rfl) ?_
  refine Eq.mpr (f8_0 (row encS4 a.sets) a.sets.length (row encI a.first) a.first.length (row encI a.last) a.last.length (row encL a.follow) a.follow.length a.empty s .empty _) ?_
  exact ⟨_, may7 a hsm, if_mk (fun _ => fin_at (.inr rfl) rfl ⟨_, .b _, rfl⟩) (fun g => by rw [hm] at g; cases g)⟩
theorem begin9n {a : Au} (hsm : smallA a = true) (hm : mayA a = false) (c : Nat) : PCon Tryz.Y 9 [.agg (auC a), .i .u8 (c : Nat)] (· = .ts [] 0 none) :=
  tree_con Tryz.Yok (fn := Tryz.f9) (by kernel_rfl) (by kernel_rfl) rfl (fun K => f9_0 (row encS4 a.sets) a.sets.length (row encI a.first) a.first.length (row encI a.last) a.last.length (row encL a.follow) a.follow.length a.empty (c : Nat) .empty K) rfl
    ⟨_, may7 a hsm, if_mk (fun _ => finV1 (.inr rfl) rfl (.sln _ _ none (fun _ h => by cases h)) rfl) (fun g => by rw [hm] at g; cases g)⟩
theorem begin9 {a : Au} (ha : OkA a) (c : Nat) (hc : c < 256) : PCon Tryz.Y 9 [.agg (auC a), .i .u8 (c : Nat)] (· = lst encI (havL a.sets a.first c)) :=
  tree_con Tryz.Yok (fn := Tryz.f9) (by kernel_rfl) (by kernel_rfl) rfl (fun K => f9_0 (row encS4 a.sets) a.sets.length (row encI a.first) a.first.length (row encI a.last) a.last.length (row encL a.follow) a.follow.length a.empty (c : Nat) .empty K) rfl
    ⟨_, may7 a ha.small, if_mk (fun g => by rw [ha.may] at g; cases g) (fun _ => ⟨_, _, _, having23 a a.first c hc ha.first (by have := ha.nfirst; omega), finV1 (.inr rfl) rfl (.ts _ _ _ _ (fun _ h => h)) rfl⟩)⟩
theorem step10n {a : Au} (hsm : smallA a = true) (hm : mayA a = false) (ps : List Int) (c : Nat) : PCon Tryz.Y 10 [.agg (auC a), lst encI ps, .i .u8 (c : Nat)] (· = .ts [] 0 none) :=
  tree_con Tryz.Yok (fn := Tryz.f10) (by kernel_rfl) (by kernel_rfl) rfl (fun K => f10_0 (row encS4 a.sets) a.sets.length (row encI a.first) a.first.length (row encI a.last) a.last.length (row encL a.follow) a.follow.length a.empty (row encI ps) ps.length (c : Nat) .empty K) rfl
    ⟨_, may7 a hsm, if_mk (fun _ => finV1 (.inr rfl) rfl (.sln _ _ none (fun _ h => by cases h)) rfl) (fun g => by rw [hm] at g; cases g)⟩
theorem ends11 (a : Au) (hsm : smallA a = true) (ps : List Int) (hl : ps.length ≤ 2 ^ 10) : PCon Tryz.Y 11 [.agg (auC a), lst encI ps] (· = .b (mayA a && endsA a ps)) :=
  tree_con Tryz.Yok (fn := Tryz.f11) (by kernel_rfl) (by kernel_rfl) rfl (fun K => f11_0 (row encS4 a.sets) a.sets.length (row encI a.first) a.first.length (row encI a.last) a.last.length (row encL a.follow) a.follow.length a.empty (row encI ps) ps.length .empty K) rfl
    ⟨_, may7 a hsm, if_mk (fun g => ⟨_, ends25 (small_of hsm).2.2.1 ps hl, finV1 (.inr rfl) rfl (.b _) (by rw [g]; rfl)⟩) (fun g => finV1 (.inr rfl) rfl (.b _) (by rw [g]; rfl))⟩

theorem rrun12 {a : Au} (ha : OkA a) (s : List UInt8) (hl : s.length ≤ 20) : PCon Tryz.Y 12 [.agg (auC a), .s s] (· = .b (runA a s)) := by
  refine pcon_of Tryz.Yok (fn := Tryz.f12) (by kernel_rfl) (by kernel_rfl) rfl ?_
  refine pre_rule Tryz.Yok (n := 32) (loc := Tryz.Y.loc 12) 100 [1, 2, 4, 5, 6] (by kernel_rfl) ?_
  refine Eq.mpr (f12_0 (row encS4 a.sets) a.sets.length (row encI a.first) a.first.length (row encI a.last) a.last.length (row encL a.follow) a.follow.length a.empty s .empty _) ?_
  match s, hl with
  | [], _ => exact if_mk (fun _ => fin_at (.inr rfl) rfl ⟨_, .b _, rfl⟩) (fun g => by cases g)
  | c :: r, hl =>
  refine if_mk (fun g => by cases g) (fun _ => ?_)
  refine ⟨c, ⟨by decide, rfl⟩, _, _, _, having14 a ha.sets a.first c.toNat (u8lt c) ha.first (by have := ha.nfirst; omega), rfl, ?_⟩
  have hl : r.length ≤ 19 := by simp at hl; omega
  refine loop2 [1, 2, 5, 6] [1, 2, 5, 6] rfl (by kernel_rfl) (fun m vs _ => ∃ j : Nat, vs = [.s (c :: r), .lb (auC a), lst encI (walkA a c (r.take j)), .i .i64 ((j + 1 : Nat))] ∧ j ≤ r.length ∧ m = r.length - j) r.length mk_len ⟨0, rfl, by omega, by omega⟩ ?_
  rintro m vs h ⟨j, rfl, hj, rfl⟩
  refine all_rule Tryz.Yok (loc := Tryz.Y.loc 12) 100 [1, 2, 5, 6] ?_
  refine Eq.mpr (f12_1 (row encS4 a.sets) a.sets.length (row encI a.first) a.first.length (row encI a.last) a.last.length (row encL a.follow) a.follow.length a.empty (c :: r) none (row encI (walkA a c (r.take j))) (walkA a c (r.take j)).length ((j + 1 : Nat)) h _) ?_
  refine if_lt_nat (fun hlt => ?_) (fun hge => ?_)
  · have hlt : j < r.length := by simp at hlt; omega
    refine ⟨r[j], ⟨by omega, by rw [Int.toNat_natCast]; simp [hlt]⟩, _, _, _, step15 ha (walkA a c (r.take j)) r[j].toNat (u8lt _) (by have := walkA_len ha c (r.take j); omega), rfl, r.length - (j + 1), by omega, j + 1, ?_, by omega, rfl⟩
    rw [wrap_succ (by omega), walkA_snoc a c r hlt]
    rfl
  · have hge : r.length ≤ j := by simp at hge; omega
    refine roundW_exit [2, 5] (by kernel_rfl) rfl rfl ?_
    refine end_rule Tryz.Yok (loc := Tryz.Y.loc 12) 100 [4] ?_
    refine Eq.mpr (f12_2 (row encS4 a.sets) a.sets.length (row encI a.first) a.first.length (row encI a.last) a.last.length (row encL a.follow) a.follow.length a.empty none (row encI (walkA a c (r.take j))) (walkA a c (r.take j)).length h _) ?_
    rw [List.take_of_length_le hge]
    exact ⟨_, rends16 ha.nlast (walkA a c r) (by have := walkA_len ha c r; omega), finV1 (.inr rfl) rfl (.b _) rfl⟩
end Go.Y

/- NfaSteps, over the abstract machine. -/
namespace Go.Y
open Go.Proofs
set_option maxRecDepth 100000
set_option maxHeartbeats 1000000

theorem beq_self_i (l : List Int) : decide (l = l) = true := decide_eq_true rfl
theorem law3 (hs : SortSays Tryz.Y.P 36) (hcm : CompactSays Tryz.Y.P 37) (haw : PCon Tryz.Y 4 [] (· = .b true)) (a : Au) (hset : ∀ x ∈ a.sets, okS x) (ps : List Int) (s : List UInt8) : PCon Tryz.Y 3 [.agg (auC a), lst encI ps, .s s] (· = .b true) := by
  refine tree_con Tryz.Yok (fn := Tryz.f3) (by kernel_rfl) (by kernel_rfl) rfl (fun K => f3_0 (row encS4 a.sets) a.sets.length (row encI a.first) a.first.length (row encI a.last) a.last.length (row encL a.follow) a.follow.length a.empty (row encI ps) ps.length s .empty K) rfl ?_
  have yes : ∀ b : Bool, b = true → Fin Tryz.Y Tryz.f3 [6] (fun v h => ∃ r, Frz h v r ∧ r = .b true) .ret 97 [.b b] .empty := fun b e => finV1 (.inr rfl) rfl (.b _) (by rw [e])
  refine ⟨_, haw, if_mk (fun g => by cases g) (fun _ => ?_)⟩
  refine ⟨_, small5 a, if_mk (fun _ => yes _ rfl) (fun g => ?_)⟩
  have hsm : smallA a = true := by simpa using g
  refine if_lt (fun _ => yes _ rfl) (fun g1 => if_lt (fun _ => yes _ rfl) (fun g2 => ?_))
  have g1 : ps.length ≤ 20 := by omega
  have g2 : s.length ≤ 20 := by omega
  have hpl : ps.length ≤ 2 ^ 10 := by omega
  refine ⟨_, may6 a hsm, _, may7 a hsm, if_mk (fun g => by simp at g) (fun _ => ?_)⟩
  by_cases hm : mayA a = true
  · have ha : OkA a := ⟨hm, hsm, hset⟩
    match s, g2 with
    | [], g2 =>
      refine if_mk (fun g => by cases g) (fun _ => ?_)
      refine if_mk (fun g => by rw [hm] at g; cases g) (fun _ => ?_)
      refine ⟨_, run8 hs hcm ha _ g2, _, rrun12 ha _ g2, if_mk (fun _ => ?_) (fun g => by simp at g)⟩
      refine ⟨_, _, _, begin9 ha 97 (by decide), _, _, _, having14 a hset a.first 97 (by decide) ha.first (by have := ha.nfirst; omega), _, same13 _ _ (by have := havL_len a.sets a.first 97; have := ha.nfirst; omega), if_mk (fun _ => ?_) (fun g => by rw [beq_self_i] at g; cases g)⟩
      refine ⟨_, _, _, step10 hs hcm ha ps 97 (by decide) hpl, _, _, _, step15 ha ps 97 (by decide) hpl, _, same13 _ _ (by have := stepA_len ha 97 ps; omega), if_mk (fun _ => ?_) (fun g => by rw [beq_self_i] at g; cases g)⟩
      exact ⟨_, ends11 a hsm ps hpl, _, rends16 ha.nlast ps hpl, yes _ (by rw [hm]; simp)⟩
    | c :: r, g2 =>
      refine if_mk (fun _ => ⟨c, ⟨by decide, rfl⟩, ?_⟩) (fun g => by cases g)
      refine if_mk (fun g => by rw [hm] at g; cases g) (fun _ => ?_)
      refine ⟨_, run8 hs hcm ha _ g2, _, rrun12 ha _ g2, if_mk (fun _ => ?_) (fun g => by simp at g)⟩
      refine ⟨_, _, _, begin9 ha c.toNat (u8lt c), _, _, _, having14 a hset a.first c.toNat (u8lt c) ha.first (by have := ha.nfirst; omega), _, same13 _ _ (by have := havL_len a.sets a.first c.toNat; have := ha.nfirst; omega), if_mk (fun _ => ?_) (fun g => by rw [beq_self_i] at g; cases g)⟩
      refine ⟨_, _, _, step10 hs hcm ha ps c.toNat (u8lt c) hpl, _, _, _, step15 ha ps c.toNat (u8lt c) hpl, _, same13 _ _ (by have := stepA_len ha c.toNat ps; omega), if_mk (fun _ => ?_) (fun g => by rw [beq_self_i] at g; cases g)⟩
      exact ⟨_, ends11 a hsm ps hpl, _, rends16 ha.nlast ps hpl, yes _ (by rw [hm]; simp)⟩
  · have hm : mayA a = false := by simpa using hm
    match s, g2 with
    | [], g2 =>
      refine if_mk (fun g => by cases g) (fun _ => ?_)
      refine if_mk (fun _ => ?_) (fun g => by rw [hm] at g; cases g)
      refine ⟨_, run8n hsm hm _, if_mk (fun _ => ?_) (fun g => by cases g)⟩
      refine ⟨_, _, _, begin9n hsm hm 97, _, _, _, step10n hsm hm ps 97, if_mk (fun _ => ?_) (fun g => by cases g)⟩
      exact ⟨_, ends11 a hsm ps hpl, yes _ (by rw [hm]; rfl)⟩
    | c :: r, g2 =>
      refine if_mk (fun _ => ⟨c, ⟨by decide, rfl⟩, ?_⟩) (fun g => by cases g)
      refine if_mk (fun _ => ?_) (fun g => by rw [hm] at g; cases g)
      refine ⟨_, run8n hsm hm _, if_mk (fun _ => ?_) (fun g => by cases g)⟩
      refine ⟨_, _, _, begin9n hsm hm c.toNat, _, _, _, step10n hsm hm ps c.toNat, if_mk (fun _ => ?_) (fun g => by cases g)⟩
      exact ⟨_, ends11 a hsm ps hpl, yes _ (by rw [hm]; rfl)⟩
end Go.Y
