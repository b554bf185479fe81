/-
  DERIVED. GIVEN WITH THE SEED: THE CARDS: each row of YtlnpmefmmiacaaaGreatDoorRows.lean that lists a variable, with what it lists TIED to the program's text (the seventh form; the later family's looks); each row that meets fmt, with fmt's text TOLD by the authors' own Lean function (tested against real Go, not proved from fmt's source: count such statements apart). THE CARD IS WHAT COUNTS. Prove the row's statement (the work); the ties are given (YtlnpmefmmiacaaaGreatDoorTie.lean); close each card by the builder's one call (the guide's Derived/Test/ToyasCard.lean, 'card_holds'). Laid BY PROGRAM, IN A SANDBOX (cutbox-door.mjs). By AI agents, Wed Nov 11 2026. No macro, syntax, notation, axiom, sorry.
-/
import Derived.Test.YtlnpmefmmiacaaaGreatDoorRows
import GoSem.ClaimSeven
namespace Go.Proofs.YtlnpmefmmiacaaaGreatDoor
namespace Rows

/-- THE TIED CARD OF 'souffleurlaw35.NfaSteps'. -/
def nfaStepsCard : Claim7 := { stood := { row := nfaStepsRow, standIns := [], harness := (true, "8ded0bb8c3b9fd72e2e7c8909409b3c7058e70d3075e4b42bed06a65e2200945"), looks := false }, kinds := [], alts := [], laidByText := true, laidKinds := [.data, .data, .data], laidTests := true, laidLooks := .later }
def NfaStepsCardSaid : Prop := Claim7.holds Tryz.pinned (.plain (OpenSpec.ofChange nfaStepsSpec)) nfaStepsCard

/-- THE SECOND FORM's CARD OF 'souffleurlaw35.NfaSteps'. -/
def nfaStepsUptoCard : Claim7 := { stood := { row := nfaStepsUptoRow, standIns := [], harness := (true, "8ded0bb8c3b9fd72e2e7c8909409b3c7058e70d3075e4b42bed06a65e2200945"), looks := false }, kinds := [], alts := [], laidByText := true, laidKinds := [.data, .data, .data], laidTests := true, laidLooks := .later }
def NfaStepsUptoCardSaid : Prop := Claim7.holds Tryz.pinned (.plain (OpenSpec.upto nfaStepsSpec)) nfaStepsUptoCard
end Rows
end Go.Proofs.YtlnpmefmmiacaaaGreatDoor
