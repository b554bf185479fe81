/- The card of 'souffleurlaw37.TransMatches': for every pattern and every two texts it returns true, and its arguments read behind the call as they read before; three package variables start as the program's text lays them, which the card ties to that text. Conditions: none beyond the given statement's own. -/
import Derived.Test.YteennilbmmlikaaGreatDoorYTryxP
import Derived.Test.YteennilbmmlikaaGreatDoorTie
import Derived.Test.YteennilbmmlikaaGreatDoorCards
import Derived.SevenTiedAt
namespace Go.Proofs.YteennilbmmlikaaGreatDoor
open Go
open Go.Proofs
theorem transMatches_holds:Rows.TransMatchesCardSaid:=
 Claim7.holds_tied_plain_at .later [] [.data, .data, .data] true (true,"0fadc499fe59587a8cd2359f8c63b385dedaf68dd4875fe06a5c50df4a07c891") false
  WX (λ_ h=>by cases h) (by kernel_rfl) (λ_ h=>by cases h) transMatches_row_tie rfl ⟨rfl,rfl⟩ (by kernel_rfl) rfl
  (λf fn g c=>by
   obtain rfl:f=6:=Option.some.inj ((show Tryz.prog.funcNamed Rows.transMatchesRow.func=some 6 by kernel_rfl).symm.trans g)|>.symm;obtain rfl:fn=Tryz.f6:=(Option.some.inj (Tryz.func6.symm.trans c)).symm;exact⟨by kernel_rfl,λj t d=>by
    rw[Tryz.params6]at d;have e:t∈ [44,9,9]:=by have:=Array.mem_of_getElem? d;simpa using this
    have a:([44,9,9].all λu=> !Tryz.prog.wantsStandIn u)=true:=by kernel_rfl
    exact(show Tryz.prog.wantsStandIn t=false by simpa using List.all_eq_true.1 a t e)⟩)
  (by kernel_rfl)
end Go.Proofs.YteennilbmmlikaaGreatDoor
