/- GlobAny, as a call of the abstract machine. -/
import Derived.Test.YtpddiafjmkjpmaaGSame
import Derived.Test.YtpddiafjmkjpmaaGKn
import Derived.Test.YtpddiafjmkjpmaaGA3
namespace Go.Y
open Go.Proofs
set_option maxRecDepth 100000

theorem parse_small {s : List UInt8} : ∀ {n i : Nat} {out l : List Glob}, parseS n s i out = .ok l → out.length ≤ i → i ≤ s.length → (∀ x ∈ out, x.sp.length ≤ s.length) → l.length ≤ s.length ∧ ∀ x ∈ l, x.sp.length ≤ s.length
  | 0, _, _, _, h, _, _, _ => by cases h
  | n + 1, i, out, l, h, h1, h2, h3 => by
    simp only [parseS] at h
    split at h
    · split at h
      · cases h
      · rename_i x j hp
        have hj := pieceS_ok hp
        refine parse_small h (by simp; omega) hj.2 fun y hy => ?_
        rw [List.mem_append] at hy
        rcases hy with hy | hy
        · exact h3 y hy
        · simp at hy; subst hy
          unfold pieceS at hp
          have setlen : ∀ (m k : Nat) (o : List Span) (l : List Span) (j : Nat), setS m s k o = .ok (l, j) → o.length ≤ k → k ≤ s.length → l.length ≤ s.length := by
            intro m
            induction m with
            | zero => intro k o l j h; cases h
            | succ m ih =>
              intro k o l j h g1 g2
              simp only [setS] at h
              split at h
              · cases h; omega
              · split at h
                · cases h
                · rename_i x k2 hi
                  have := itemS_ok hi
                  exact ih k2 _ l j h (by simp; omega) this.2
          split at hp
          · cases hp
          · rename_i c hc
            have hil := (List.getElem?_eq_some_iff.1 hc).1
            split at hp
            · cases hp; simp
            · split at hp
              · cases hp; simp
              · split at hp
                · split at hp
                  · cases hp
                  · rename_i l1 j1 hs
                    cases hp
                    exact setlen _ _ _ _ _ hs (by simp) (by omega)
                · split at hp
                  · split at hp
                    · cases hp
                    · cases hp; simp
                  · cases hp; simp
    · cases h; exact ⟨by omega, h3⟩

theorem globAny_con (s : List UInt8) : PCon Try.Y 3 [.s s] (· = .b true) := by
  refine pcon_of Try.Yok (fn := Try.f3) (by kernel_rfl) (by kernel_rfl) rfl (end_rule Try.Yok (loc := Try.Y.loc 3) 100 [2] ?_)
  refine Eq.mpr (f3_0 s _ _) ?_
  refine ⟨true, awake03, if_mk (fun h => by cases h) (fun _ => if_lt (fun _ => finV1 (.inr rfl) rfl (.b _) rfl) (fun hl => ?_))⟩
  have h1 := parse_con s
  have h2 := rparse_con s
  unfold parseR at h1 h2
  by_cases h200 : 200 < s.length
  · rw [if_pos h200] at h1 h2
    refine ⟨_, _, _, _, _, h1, _, _, _, _, _, h2, _, rsame_con [] [] (by simp) (by simp), ?_⟩
    exact if_mk (fun _ => if_mk (fun _ => if_mk (fun _ => if_mk (fun _ => finV1 (.inr rfl) rfl (.b _) rfl) (fun _ => finV1 (.inr rfl) rfl (.b _) rfl)) (fun h => by cases h)) (fun h => by cases h)) (fun h => by cases h)
  · rw [if_neg h200] at h1 h2
    cases he : parseS (s.length + 1) s 0 [] with
    | error e =>
      rw [he] at h1 h2
      refine ⟨_, _, _, _, _, h1, _, _, _, _, _, h2, _, rsame_con [] [] (by simp) (by simp), ?_⟩
      exact if_mk (fun _ => if_mk (fun _ => if_mk (fun _ => if_mk (fun _ => finV1 (.inr rfl) rfl (.b _) rfl) (fun _ => finV1 (.inr rfl) rfl (.b _) rfl)) (fun h => by simp at h)) (fun h => by simp at h)) (fun h => by simp at h)
    | ok l =>
      rw [he] at h1 h2
      have hsm := parse_small he (by simp) (by omega) (by simp)
      refine ⟨_, _, _, _, _, h1, _, _, _, _, _, h2, _, rsame_con l l (by omega) (fun x hx => by have := hsm.2 x hx; omega), ?_⟩
      exact if_mk (fun _ => if_mk (fun _ => if_mk (fun _ => if_mk (fun _ => finV1 (.inr rfl) rfl (.b _) rfl) (fun h => by simp at h)) (fun h => by simp at h)) (fun h => by simp at h)) (fun h => by simp at h)
end Go.Y
