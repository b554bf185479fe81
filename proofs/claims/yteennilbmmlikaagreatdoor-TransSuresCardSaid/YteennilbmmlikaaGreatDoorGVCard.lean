/- The card of 'souffleurlaw37.TransSures': for every two patterns and every text it returns true, and its arguments read behind the call as they read before; three package variables start as the program's text lays them, which the card ties to that text. Conditions: none beyond the given statement's own. -/
import Derived.Test.YteennilbmmlikaaGreatDoorYTryxP
import Derived.Test.YteennilbmmlikaaGreatDoorTie
import Derived.Test.YteennilbmmlikaaGreatDoorCards
import Derived.SevenTiedAt
namespace Go.Proofs.YteennilbmmlikaaGreatDoor
open Go
open Go.Proofs
theorem transSures_holds:Rows.TransSuresCardSaid:=
 Claim7.holds_tied_plain_at .later [] [.data, .data, .data] true (true,"0fadc499fe59587a8cd2359f8c63b385dedaf68dd4875fe06a5c50df4a07c891") false
  Zam (λ_ h=>by cases h) (by kernel_rfl) (λ_ h=>by cases h) transSures_row_tie rfl ⟨rfl,rfl⟩ (by kernel_rfl) rfl
  (λf d e b=>by
   obtain rfl:f=4:=Option.some.inj ((show Tryz.prog.funcNamed Rows.transSuresRow.func=some 4 by kernel_rfl).symm.trans e)|>.symm;obtain rfl:d=Tryz.f4:=(Option.some.inj (Tryz.func4.symm.trans b)).symm;exact⟨by kernel_rfl,λj t c=>by
    rw[Tryz.params4]at c;have g:t∈ [44,44,9]:=by have:=Array.mem_of_getElem? c;simpa using this
    have a:([44,44,9].all λu=> !Tryz.prog.wantsStandIn u)=true:=by kernel_rfl
    exact(show Tryz.prog.wantsStandIn t=false by simpa using List.all_eq_true.1 a t g)⟩)
  (by kernel_rfl)
end Go.Proofs.YteennilbmmlikaaGreatDoor
