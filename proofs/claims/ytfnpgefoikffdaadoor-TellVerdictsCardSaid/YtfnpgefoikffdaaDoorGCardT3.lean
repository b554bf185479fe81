/- The card of 'souffleurlaw32.TellVerdicts': for every verdict it returns true, and its argument reads behind the call as it read before; three package variables start as the program's text lays them, which the card ties to that text. Conditions: none beyond the given statement's own. -/
import Derived.Test.YtfnpgefoikffdaaDoorGWkD
import Derived.Test.YtfnpgefoikffdaaDoorTie
import Derived.Test.YtfnpgefoikffdaaDoorCards
import Derived.SevenTiedAt
namespace Go.Proofs.YtfnpgefoikffdaaDoor
open Go
open Go.Proofs

theorem tellVerdicts_holds : Rows.TellVerdictsCardSaid :=
  Claim7.holds_tied_plain_at .later [] [.data, .data, .data] true (true, "258adb1adedfee74f23c77d87adb6a7da38973f7ba4a58859e6e4ac541cea346") false
    tellVerdicts_row_holds (fun _ h => by cases h) (by kernel_rfl) (fun _ h => by cases h) tellVerdicts_row_tie rfl ⟨rfl, rfl⟩ (by kernel_rfl) rfl
    (fun f fn hf hfn => by
      obtain rfl : f = 3 := Option.some.inj ((show Tryd.prog.funcNamed Rows.tellVerdictsRow.func = some 3 by kernel_rfl).symm.trans hf) |>.symm
      obtain rfl : fn = Tryd.f3 := (Option.some.inj (Tryd.func3.symm.trans hfn)).symm
      exact ⟨by kernel_rfl, fun j t ht => by
        rw [Tryd.params3] at ht
        have hm : t ∈ [29] := by simpa using Array.mem_of_getElem? ht
        have hall : ([29].all fun u => !Tryd.prog.wantsStandIn u) = true := by kernel_rfl
        exact (show Tryd.prog.wantsStandIn t = false by simpa using List.all_eq_true.1 hall t hm)⟩)
    (by kernel_rfl)

end Go.Proofs.YtfnpgefoikffdaaDoor
