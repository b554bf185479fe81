/- The card of 'souffleurlaw35.NfaSteps': for every automaton, list of numbers and text it returns true, and its arguments read behind the call as they read before; three package variables start as the program's text lays them, which the card ties to that text. Conditions: none beyond the given statement's own. -/
import Derived.Test.YtlnpmefmmiacaaaGreatDoorGNRow
import Derived.Test.YtlnpmefmmiacaaaGreatDoorTie
import Derived.Test.YtlnpmefmmiacaaaGreatDoorCards
import Derived.SevenTiedAt
namespace Go.Proofs.YtlnpmefmmiacaaaGreatDoor
open Go
open Go.Proofs

theorem nfaSteps_holds : Rows.NfaStepsCardSaid :=
  Claim7.holds_tied_plain_at .later [] [.data, .data, .data] true (true, "8ded0bb8c3b9fd72e2e7c8909409b3c7058e70d3075e4b42bed06a65e2200945") false
    nfaSteps_row_holds (fun _ h => by cases h) (by kernel_rfl) (fun _ h => by cases h) nfaSteps_row_tie rfl ⟨rfl, rfl⟩ (by kernel_rfl) rfl
    (fun f fn hf hfn => by
      obtain rfl : f = 3 := Option.some.inj ((show Tryz.prog.funcNamed Rows.nfaStepsRow.func = some 3 by kernel_rfl).symm.trans hf) |>.symm
      obtain rfl : fn = Tryz.f3 := (Option.some.inj (Tryz.func3.symm.trans hfn)).symm
      exact ⟨by kernel_rfl, fun j t ht => by
        rw [Tryz.params3] at ht
        have hm : t ∈ [26, 23, 9] := by simpa using Array.mem_of_getElem? ht
        have hall : ([26, 23, 9].all fun u => !Tryz.prog.wantsStandIn u) = true := by kernel_rfl
        exact (show Tryz.prog.wantsStandIn t = false by simpa using List.all_eq_true.1 hall t hm)⟩)
    (by kernel_rfl)

end Go.Proofs.YtlnpmefmmiacaaaGreatDoor
