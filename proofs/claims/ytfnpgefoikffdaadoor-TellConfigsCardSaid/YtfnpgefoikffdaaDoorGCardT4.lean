/- The card of 'souffleurlaw32.TellConfigs': for every configuration and string it returns true, and its arguments read behind the call as they read before; three package variables start as the program's text lays them, which the card ties to that text. Conditions: none beyond the given statement's own. -/
import Derived.Test.YtfnpgefoikffdaaDoorGShpT4
import Derived.Test.YtfnpgefoikffdaaDoorTie
import Derived.Test.YtfnpgefoikffdaaDoorCards
import Derived.SevenTiedAt
namespace Go.Proofs.YtfnpgefoikffdaaDoor
open Go
open Go.Proofs

theorem tellConfigs_holds : Rows.TellConfigsCardSaid :=
  Claim7.holds_tied_plain_at .later [] [.data, .data, .data] true (true, "258adb1adedfee74f23c77d87adb6a7da38973f7ba4a58859e6e4ac541cea346") false
    tellConfigs_row_holds (fun _ h => by cases h) (by kernel_rfl) (fun _ h => by cases h) tellConfigs_row_tie rfl ⟨rfl, rfl⟩ (by kernel_rfl) rfl
    (fun f fn hf hfn => by
      obtain rfl : f = 4 := Option.some.inj ((show Tryd.prog.funcNamed Rows.tellConfigsRow.func = some 4 by kernel_rfl).symm.trans hf) |>.symm
      obtain rfl : fn = Tryd.f4 := (Option.some.inj (Tryd.func4.symm.trans hfn)).symm
      exact ⟨by kernel_rfl, fun j t ht => by
        rw [Tryd.params4] at ht
        have hm : t ∈ [37, 9] := by simpa using Array.mem_of_getElem? ht
        have hall : ([37, 9].all fun u => !Tryd.prog.wantsStandIn u) = true := by kernel_rfl
        exact (show Tryd.prog.wantsStandIn t = false by simpa using List.all_eq_true.1 hall t hm)⟩)
    (by kernel_rfl)

end Go.Proofs.YtfnpgefoikffdaaDoor
