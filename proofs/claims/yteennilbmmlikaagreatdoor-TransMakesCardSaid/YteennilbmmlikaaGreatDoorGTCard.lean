/- The card of 'souffleurlaw37.TransMakes': for every text, every list of pieces and every pattern it returns true, and its arguments read behind the call as they read before; three package variables start as the program's text lays them, which the card ties to that text. Conditions: none beyond the given statement's own. -/
import Derived.Test.YteennilbmmlikaaGreatDoorGNLaw
import Derived.Test.YteennilbmmlikaaGreatDoorTie
import Derived.Test.YteennilbmmlikaaGreatDoorCards
import Derived.SevenTiedAt
namespace Go.Proofs.YteennilbmmlikaaGreatDoor
open Go
open Go.Proofs

theorem transMakes_holds:Rows.TransMakesCardSaid:=
 Claim7.holds_tied_plain_at .later [] [.data, .data, .data] true (true,"0fadc499fe59587a8cd2359f8c63b385dedaf68dd4875fe06a5c50df4a07c891") false
  Vi (fun _ h=>by cases h) (by kernel_rfl) (fun _ h=>by cases h) transMakes_row_tie rfl ⟨rfl,rfl⟩ (by kernel_rfl) rfl
  (fun f fn hf hfn=>by
   obtain rfl:f=5:=Option.some.inj ((show Tryz.prog.funcNamed Rows.transMakesRow.func=some 5 by kernel_rfl).symm.trans hf)|>.symm
   obtain rfl:fn=Tryz.f5:=(Option.some.inj (Tryz.func5.symm.trans hfn)).symm
   exact⟨by kernel_rfl,fun j t ht=>by
    rw[Tryz.params5]at ht
    have hm:t∈ [9,56,44]:=by have:=Array.mem_of_getElem? ht;simpa using this
    have hall:([9,56,44].all fun u=> !Tryz.prog.wantsStandIn u)=true:=by kernel_rfl
    exact(show Tryz.prog.wantsStandIn t=false by simpa using List.all_eq_true.1 hall t hm)⟩)
  (by kernel_rfl)

end Go.Proofs.YteennilbmmlikaaGreatDoor
