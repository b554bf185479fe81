/- GlobBack, as a call of the abstract machine. -/
import Derived.Test.YtpddiafjmkjpmaaGRPrint
namespace Go.Y
open Go.Proofs
set_option maxRecDepth 100000

theorem small_40 {l : List Glob} (h : smallS l = true) : l.length ≤ 80 ∧ ∀ g ∈ l, g.sp.length ≤ 40 := by
  simp only [smallS, Bool.and_eq_true, decide_eq_true_eq, List.all_eq_true] at h
  exact h

theorem globBack_con (l : List Glob) (hw : ∀ g ∈ l, wfGlob g) : PCon Try.Y 6 [lst encG l] (· = .b true) := by
  refine pcon_of Try.Yok (fn := Try.f6) (by kernel_rfl) (by kernel_rfl) rfl (end_rule Try.Yok (loc := Try.Y.loc 6) 100 [2] ?_)
  refine Eq.mpr (f6_0 (row encG l) l.length _ _) ?_
  have yes : ∀ b : Bool, b = true → Fin Try.Y Try.f6 [2] (fun v h => ∃ r, Frz h v r ∧ r = .b true) .ret 83 [.b b] .empty := fun b hb => finV1 (.inr rfl) rfl (.b _) (by rw [hb])
  refine ⟨true, awake03, if_mk (fun h => by cases h) (fun _ => ⟨_, small_con l, if_mk (fun _ => yes _ rfl) (fun h1 => ?_)⟩)⟩
  have hsm : smallS l = true := by simpa using h1
  have ok := small_ok hsm
  obtain ⟨h80, h40⟩ := small_40 hsm
  have hp := gprint_con l ok h40
  unfold printR at hp
  cases hmay : mayS l with
  | false =>
    rw [hmay, if_neg (by simp)] at hp
    refine ⟨_, _, hp, _, rmay_con l ok, if_mk (fun _ => ?_) (fun h => by rw [hmay] at h; cases h)⟩
    exact if_mk (fun _ => if_mk (fun _ => ⟨_, gmay_con l ok, yes _ (by rw [hmay]; rfl)⟩) (fun h => by simp at h)) (fun h => by simp at h)
  | true =>
    rw [hmay, if_pos rfl] at hp
    have hr := rprint_con l ok h40 hw hmay
    by_cases h200 : 200 < (printS l).length
    · rw [if_pos h200] at hp
      refine ⟨_, _, hp, _, rmay_con l ok, if_mk (fun h => by rw [hmay] at h; cases h) (fun _ => ⟨_, hr, if_lt (fun _ => ?_) (fun h => by omega)⟩)⟩
      exact if_mk (fun _ => if_mk (fun _ => ⟨_, gmay_con l ok, yes _ hmay⟩) (fun h => by simp at h)) (fun h => by simp at h)
    · rw [if_neg h200] at hp
      refine ⟨_, _, hp, _, rmay_con l ok, if_mk (fun h => by rw [hmay] at h; cases h) (fun _ => ⟨_, hr, if_lt (fun h => by omega) (fun _ => ?_)⟩)⟩
      have hg := parse_con (printS l)
      unfold parseR at hg
      rw [if_neg h200, parse_back hw hmay] at hg
      refine ⟨_, _, _, _, _, hg, if_mk (fun _ => if_mk (fun _ => ⟨_, gmay_con l ok, if_mk (fun _ => if_mk (fun _ => if_mk (fun _ => ?_) (fun h => by simp at h)) (fun h => by simp at h)) (fun h => by rw [hmay] at h; cases h)⟩) (fun h => by simp at h)) (fun h => by simp at h)⟩
      exact ⟨_, rsame_con l l (by have := ok.1; omega) (fun x hx => by have := ok.2 x hx; omega), if_mk (fun _ => ⟨_, gsame_con l l ok, yes _ (by simp)⟩) (fun h => by simp at h)⟩
end Go.Y
