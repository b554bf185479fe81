/-
  DERIVED. GIVEN WITH THE SEED: THE CARDS: each row of YteennilbmmlikaaGreatDoorRows.lean that lists a variable, with what it lists TIED to the program's text (the seventh form; the later family's looks); each row that meets fmt, with fmt's text TOLD by the authors' own Lean function (tested against real Go, not proved from fmt's source: count such statements apart). THE CARD IS WHAT COUNTS. Prove the row's statement (the work); the ties are given (YteennilbmmlikaaGreatDoorTie.lean); close each card by the builder's one call (the guide's Derived/Test/ToyasCard.lean, 'card_holds'). Laid BY PROGRAM, IN A SANDBOX (cutbox-door.mjs). By AI agents, Wed Nov 11 2026. No macro, syntax, notation, axiom, sorry.
-/
import Derived.Test.YteennilbmmlikaaGreatDoorRows
import GoSem.ClaimSeven
namespace Go.Proofs.YteennilbmmlikaaGreatDoor
namespace Rows

/-- THE TIED CARD OF 'souffleurlaw35.NfaJoins'. -/
def nfaJoinsCard : Claim7 := { stood := { row := nfaJoinsRow, standIns := [], harness := (true, "0fadc499fe59587a8cd2359f8c63b385dedaf68dd4875fe06a5c50df4a07c891"), looks := false }, kinds := [], alts := [], laidByText := true, laidKinds := [.data, .data, .data], laidTests := true, laidLooks := .later }
def NfaJoinsCardSaid : Prop := Claim7.holds Tryz.pinned (.plain (OpenSpec.ofChange nfaJoinsSpec)) nfaJoinsCard

/-- THE TIED CARD OF 'souffleurlaw37.TransSures'. -/
def transSuresCard : Claim7 := { stood := { row := transSuresRow, standIns := [], harness := (true, "0fadc499fe59587a8cd2359f8c63b385dedaf68dd4875fe06a5c50df4a07c891"), looks := false }, kinds := [], alts := [], laidByText := true, laidKinds := [.data, .data, .data], laidTests := true, laidLooks := .later }
def TransSuresCardSaid : Prop := Claim7.holds Tryz.pinned (.plain (OpenSpec.ofChange transSuresSpec)) transSuresCard

/-- THE TIED CARD OF 'souffleurlaw37.TransMakes'. -/
def transMakesCard : Claim7 := { stood := { row := transMakesRow, standIns := [], harness := (true, "0fadc499fe59587a8cd2359f8c63b385dedaf68dd4875fe06a5c50df4a07c891"), looks := false }, kinds := [], alts := [], laidByText := true, laidKinds := [.data, .data, .data], laidTests := true, laidLooks := .later }
def TransMakesCardSaid : Prop := Claim7.holds Tryz.pinned (.plain (OpenSpec.ofChange transMakesSpec)) transMakesCard

/-- THE TIED CARD OF 'souffleurlaw37.TransMatches'. -/
def transMatchesCard : Claim7 := { stood := { row := transMatchesRow, standIns := [], harness := (true, "0fadc499fe59587a8cd2359f8c63b385dedaf68dd4875fe06a5c50df4a07c891"), looks := false }, kinds := [], alts := [], laidByText := true, laidKinds := [.data, .data, .data], laidTests := true, laidLooks := .later }
def TransMatchesCardSaid : Prop := Claim7.holds Tryz.pinned (.plain (OpenSpec.ofChange transMatchesSpec)) transMatchesCard

/-- THE SECOND FORM's CARD OF 'souffleurlaw35.NfaJoins'. -/
def nfaJoinsUptoCard : Claim7 := { stood := { row := nfaJoinsUptoRow, standIns := [], harness := (true, "0fadc499fe59587a8cd2359f8c63b385dedaf68dd4875fe06a5c50df4a07c891"), looks := false }, kinds := [], alts := [], laidByText := true, laidKinds := [.data, .data, .data], laidTests := true, laidLooks := .later }
def NfaJoinsUptoCardSaid : Prop := Claim7.holds Tryz.pinned (.plain (OpenSpec.upto nfaJoinsSpec)) nfaJoinsUptoCard

/-- THE SECOND FORM's CARD OF 'souffleurlaw37.TransSures'. -/
def transSuresUptoCard : Claim7 := { stood := { row := transSuresUptoRow, standIns := [], harness := (true, "0fadc499fe59587a8cd2359f8c63b385dedaf68dd4875fe06a5c50df4a07c891"), looks := false }, kinds := [], alts := [], laidByText := true, laidKinds := [.data, .data, .data], laidTests := true, laidLooks := .later }
def TransSuresUptoCardSaid : Prop := Claim7.holds Tryz.pinned (.plain (OpenSpec.upto transSuresSpec)) transSuresUptoCard

/-- THE SECOND FORM's CARD OF 'souffleurlaw37.TransMakes'. -/
def transMakesUptoCard : Claim7 := { stood := { row := transMakesUptoRow, standIns := [], harness := (true, "0fadc499fe59587a8cd2359f8c63b385dedaf68dd4875fe06a5c50df4a07c891"), looks := false }, kinds := [], alts := [], laidByText := true, laidKinds := [.data, .data, .data], laidTests := true, laidLooks := .later }
def TransMakesUptoCardSaid : Prop := Claim7.holds Tryz.pinned (.plain (OpenSpec.upto transMakesSpec)) transMakesUptoCard

/-- THE SECOND FORM's CARD OF 'souffleurlaw37.TransMatches'. -/
def transMatchesUptoCard : Claim7 := { stood := { row := transMatchesUptoRow, standIns := [], harness := (true, "0fadc499fe59587a8cd2359f8c63b385dedaf68dd4875fe06a5c50df4a07c891"), looks := false }, kinds := [], alts := [], laidByText := true, laidKinds := [.data, .data, .data], laidTests := true, laidLooks := .later }
def TransMatchesUptoCardSaid : Prop := Claim7.holds Tryz.pinned (.plain (OpenSpec.upto transMatchesSpec)) transMatchesUptoCard
end Rows
end Go.Proofs.YteennilbmmlikaaGreatDoor
