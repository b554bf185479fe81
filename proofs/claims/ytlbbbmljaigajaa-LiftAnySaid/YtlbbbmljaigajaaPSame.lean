/- souffleurref30.Same, lift.plain, lift.Steps as functions of lists. -/
import Derived.Test.YtlbbbmljaigajaaYLift
import Derived.Test.YtlbbbmljaigajaaPUp
namespace Go.Y
open Go.Proofs
set_option maxRecDepth 100000

theorem eqb (x y : Choice) : (x.k == y.k && (x.p == y.p && (x.n == y.n && true))) = decide (x = y) := by
  cases x; cases y
  rw [Bool.eq_iff_iff]
  simp

def SameI (a b : List Choice) (m : Nat) (vs : List V) (_ : Heap) : Prop :=
  ∃ i : Nat, vs = [lst encC a, lst encC b, .b false, .i .i64 i] ∧ i ≤ a.length ∧ m = a.length - i ∧ a.take i = b.take i

theorem same_con (a b : List Choice) (hb : a.length < 2 ^ 30) : PCon Try.Y 12 [lst encC a, lst encC b] (· = .b (decide (a = b))) := by
  refine pcon_of Try.Yok (fn := Try.f12) (by kernel_rfl) (by kernel_rfl) rfl ?_
  refine pre_rule Try.Yok (n := 26) (loc := Try.Y.loc 12) 100 [0, 1, 4, 5] (by kernel_rfl) ?_
  rw [show (⟨[lst encC a, lst encC b] ++ List.replicate (Try.f12.ntmps - [lst encC a, lst encC b].length) .undef, [], .empty⟩ : St) = ⟨lst encC a :: lst encC b :: List.replicate 24 .undef, [], .empty⟩ by rfl, same_0]
  refine if_mk (fun hc => ?_) (fun hc => ?_)
  · refine fin1 (.inr rfl) rfl (.b _) ?_
    have : a ≠ b := fun e => by subst e; simp at hc
    simp [this]
  · have hlen : a.length = b.length := by
      simp at hc
      omega
    refine ⟨rfl, loop_rule [0, 1, 4, 5] (by kernel_rfl) (SameI a b) a.length mk_len ?_ ?_⟩
    · exact ⟨0, rfl, by omega, by omega, rfl⟩
    · rintro m vs h ⟨i, rfl, hi, rfl, hp⟩
      refine all_rule Try.Yok (loc := Try.Y.loc 12) 100 [0, 1, 4, 5] ?_
      rw [same_1, wrap_ok (n := (i : Int) + 1) (by omega) (by omega), Int.toNat_natCast, ltI_nat]
      refine if_dec (fun hlt => ?_) (fun hge => ?_)
      · have hlt' : i < b.length := by omega
        refine bd3 (get_choice a hlt) (by omega) ?_
        refine bd3 (get_choice b hlt') (by omega) ?_
        rw [eqb]
        refine if_mk (fun hc => ?_) (fun hc => ?_)
        · refine fin1 (.inr rfl) rfl (.b _) ?_
          have : a ≠ b := fun e => by subst e; simp at hc
          simp [this]
        · refine ⟨rfl, a.length - (i + 1), by omega, i + 1, rfl, by omega, rfl, ?_⟩
          have he : a[i] = b[i] := by simpa using hc
          rw [List.take_succ_eq_append_getElem hlt, List.take_succ_eq_append_getElem hlt', hp, he]
      · refine round_exit (by kernel_rfl) rfl ?_
        refine end_rule Try.Yok (loc := Try.Y.loc 12) 100 [4] ?_
        rw [same_2]
        refine finV1 (.inr rfl) rfl (.b _) ?_
        have e1 : a.take i = a := List.take_of_length_le (by omega)
        have e2 : b.take i = b := List.take_of_length_le (by omega)
        rw [e1, e2] at hp
        simp [hp]

def plainB (x : Choice) : Bool := !(x.k == 7 || x.k == 8 || x.k == 5 && (ltI x.n 0 || ltI 64 x.n))

def PlainI (l : List Choice) (m : Nat) (vs : List V) (_ : Heap) : Prop :=
  ∃ i : Nat, vs = [.b false, lst encC l, .i .i64 l.length, .i .i64 i] ∧ i ≤ l.length ∧ m = l.length - i ∧ (l.drop i).all plainB = l.all plainB

theorem plain_con (l : List Choice) (hb : l.length < 2 ^ 30) : PCon Try.Y 21 [lst encC l] (· = .b (l.all plainB)) := by
  refine pcon_of Try.Yok (fn := Try.f21) (by kernel_rfl) (by kernel_rfl) rfl ?_
  refine pre_rule Try.Yok (n := 27) (loc := Try.Y.loc 21) 100 [2, 5, 6, 7] (by kernel_rfl) ?_
  rw [show (⟨[lst encC l] ++ List.replicate (Try.f21.ntmps - [lst encC l].length) .undef, [], .empty⟩ : St) = ⟨lst encC l :: List.replicate 26 .undef, [], .empty⟩ by rfl, plain_0]
  refine ⟨rfl, loop_rule [2, 5, 6, 7] (by kernel_rfl) (PlainI l) l.length mk_len ?_ ?_⟩
  · exact ⟨0, rfl, by omega, by omega, rfl⟩
  · rintro m vs h ⟨i, rfl, hi, rfl, hp⟩
    refine all_rule Try.Yok (loc := Try.Y.loc 21) 100 [2, 5, 6, 7] ?_
    rw [plain_1, wrap_ok (n := (i : Int) + 1) (by omega) (by omega), Int.toNat_natCast, ltI_nat]
    refine if_dec (fun hlt => ?_) (fun hge => ?_)
    · refine bd3 (get_choice l hlt) (by omega) ?_
      rw [List.drop_eq_getElem_cons hlt, List.all_cons] at hp
      repeat' refine if_mk (fun hc => ?_) (fun hc => ?_)
      all_goals first
        | (refine fin1 (.inr rfl) rfl (.b _) ?_
           rw [← hp]; clear hp; simp [plainB, *]; done)
        | (refine ⟨rfl, l.length - (i + 1), ?_, i + 1, rfl, ?_, rfl, ?_⟩ <;> first | omega | (rw [← hp]; clear hp; simp [plainB, *]; done))
    · refine round_exit (by kernel_rfl) rfl ?_
      refine end_rule Try.Yok (loc := Try.Y.loc 21) 100 [2] ?_
      rw [plain_2]
      refine finV1 (.inr rfl) rfl (.b _) ?_
      rw [← hp, List.drop_of_length_le (by omega)]; rfl
end Go.Y
