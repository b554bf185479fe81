/-
  DERIVED. GIVEN WITH THE SEED: THE CARDS: each row of YtfnpgefoikffdaaDoorRows.lean that lists a variable, with what it lists TIED to the program's text (the seventh form; the later family's looks); each row that meets fmt, with fmt's text TOLD by the authors' own Lean function (tested against real Go, not proved from fmt's source: count such statements apart). THE CARD IS WHAT COUNTS. Prove the row's statement (the work); the ties are given (YtfnpgefoikffdaaDoorTie.lean); close each card by the builder's one call (the guide's Derived/Test/ToyasCard.lean, 'card_holds'). Laid BY PROGRAM, IN A SANDBOX (cutbox-door.mjs). By AI agents, Wed Nov 11 2026. No macro, syntax, notation, axiom, sorry.
-/
import Derived.Test.YtfnpgefoikffdaaDoorRows
import GoSem.ClaimSeven
namespace Go.Proofs.YtfnpgefoikffdaaDoor
namespace Rows

/-- THE TIED CARD OF 'souffleurlaw32.TellVerdicts'. -/
def tellVerdictsCard : Claim7 := { stood := { row := tellVerdictsRow, standIns := [], harness := (true, "258adb1adedfee74f23c77d87adb6a7da38973f7ba4a58859e6e4ac541cea346"), looks := false }, kinds := [], alts := [], laidByText := true, laidKinds := [.data, .data, .data], laidTests := true, laidLooks := .later }
def TellVerdictsCardSaid : Prop := Claim7.holds Tryd.pinned (.plain (OpenSpec.ofChange tellVerdictsSpec)) tellVerdictsCard

/-- THE TIED CARD OF 'souffleurlaw32.TellConfigs'. -/
def tellConfigsCard : Claim7 := { stood := { row := tellConfigsRow, standIns := [], harness := (true, "258adb1adedfee74f23c77d87adb6a7da38973f7ba4a58859e6e4ac541cea346"), looks := false }, kinds := [], alts := [], laidByText := true, laidKinds := [.data, .data, .data], laidTests := true, laidLooks := .later }
def TellConfigsCardSaid : Prop := Claim7.holds Tryd.pinned (.plain (OpenSpec.ofChange tellConfigsSpec)) tellConfigsCard

/-- THE SECOND FORM's CARD OF 'souffleurlaw32.TellVerdicts'. -/
def tellVerdictsUptoCard : Claim7 := { stood := { row := tellVerdictsUptoRow, standIns := [], harness := (true, "258adb1adedfee74f23c77d87adb6a7da38973f7ba4a58859e6e4ac541cea346"), looks := false }, kinds := [], alts := [], laidByText := true, laidKinds := [.data, .data, .data], laidTests := true, laidLooks := .later }
def TellVerdictsUptoCardSaid : Prop := Claim7.holds Tryd.pinned (.plain (OpenSpec.upto tellVerdictsSpec)) tellVerdictsUptoCard

/-- THE SECOND FORM's CARD OF 'souffleurlaw32.TellConfigs'. -/
def tellConfigsUptoCard : Claim7 := { stood := { row := tellConfigsUptoRow, standIns := [], harness := (true, "258adb1adedfee74f23c77d87adb6a7da38973f7ba4a58859e6e4ac541cea346"), looks := false }, kinds := [], alts := [], laidByText := true, laidKinds := [.data, .data, .data], laidTests := true, laidLooks := .later }
def TellConfigsUptoCardSaid : Prop := Claim7.holds Tryd.pinned (.plain (OpenSpec.upto tellConfigsSpec)) tellConfigsUptoCard
end Rows
end Go.Proofs.YtfnpgefoikffdaaDoor
