/-
  No cell of these rows narrows 'for every input' (looked for: loops, veiled, ifaces, maps, wideKeys, modest, calm, conditions, laid).
  DERIVED. THE GIVEN ROWS OF THIS SEAT. 9 by the template 'for every input the law returns true; each argument reads behind the call as it read before'; 0 by the template 'total and deterministic' (their statements: YtpddiafjmkjpmaaTotals.lean).
  GIVEN WITH THE SEED: the statements are not yours to turn. If you find one false, say at which input.
  Laid BY PROGRAM, IN A SANDBOX (cutbox-rows.mjs): the forced cells as the released guide's own fill.sh prints them over the translation c55214b138f56ccb… (all of the seat's roots in one cut). By AI agents, Wed Nov 11 2026. No macro, syntax, notation, axiom, sorry.
-/
import Derived.Test.YtpddiafjmkjpmaaChecked
import GoSem.Claim
import GoSem.ClaimJoined
import GoSem.ClaimMapViews
import Derived.JoinedTies
import Derived.KernelRfl
namespace Go.Proofs.Ytpddiafjmkjpmaa
/- THE CELL 'sum', in the pinned program and in every row, IS THE sha256 OF THE DUMP (.gsa) THAT YtpddiafjmkjpmaaProg.lean LOADS. Nothing in Lean hashes anything: it is a label: what it is worth is what the hold of that sum in a sandbox is worth. -/
noncomputable def Try.pinned : Pinned := { name := "ytpddiafjmkjpmaa", sum := "c55214b138f56ccb3658b9be08798963223726b8669af8f920e27f45298b5763", checked := Try.checked }
namespace Rows
def none {H : Type} : Left H := { results := [], args := [] }

/-- 'souffleurlaw03.GlobAny': WHATEVER THE INPUT: true; the input reads as it did. -/
def globAnySpec : ChangeSpec := { name := "globAny", fn := fun _ => fun
  | [d] => { results := [.lit (.bool true)], args := [d] }
  | _ => none }
def globAnyRow : OpenClaim := { program := "ytpddiafjmkjpmaa", sum := "c55214b138f56ccb3658b9be08798963223726b8669af8f920e27f45298b5763", func := "souffleur/souffleurlaw03.GlobAny", spec := "globAny", inPlace := ["internal/abi.NoEscape", "internal/bytealg.IndexByteString"], unfollowed := true, recurses := true, apart := false }
def GlobAnySaid : Prop := globAnyRow.holds Try.pinned (OpenSpec.ofChange globAnySpec)

/-- ITS FALSE NEIGHBOUR: 'it returns false'. Refute it at one input. -/
def globAnyWrong : ChangeSpec := { name := "globAny", fn := fun _ => fun
  | [d] => { results := [.lit (.bool false)], args := [d] }
  | _ => none }
def GlobAnyWrongFalsely : Prop := globAnyRow.holds Try.pinned (OpenSpec.ofChange globAnyWrong)

/-- 'souffleurlaw03.GlobParts': WHATEVER THE INPUT: true; the input reads as it did. -/
def globPartsSpec : ChangeSpec := { name := "globParts", fn := fun _ => fun
  | [d1, d2, d3] => { results := [.lit (.bool true)], args := [d1, d2, d3] }
  | _ => none }
def globPartsRow : OpenClaim := { program := "ytpddiafjmkjpmaa", sum := "c55214b138f56ccb3658b9be08798963223726b8669af8f920e27f45298b5763", func := "souffleur/souffleurlaw03.GlobParts", spec := "globParts", inPlace := ["internal/abi.NoEscape", "internal/bytealg.IndexByteString"], unfollowed := true, recurses := true, apart := false }
def GlobPartsSaid : Prop := globPartsRow.holds Try.pinned (OpenSpec.ofChange globPartsSpec)

/-- ITS FALSE NEIGHBOUR: 'it returns false'. Refute it at one input. -/
def globPartsWrong : ChangeSpec := { name := "globParts", fn := fun _ => fun
  | [d1, d2, d3] => { results := [.lit (.bool false)], args := [d1, d2, d3] }
  | _ => none }
def GlobPartsWrongFalsely : Prop := globPartsRow.holds Try.pinned (OpenSpec.ofChange globPartsWrong)

/-- 'souffleurlaw16.PipeOrder': WHATEVER THE INPUT: true; the input reads as it did. -/
def pipeOrderSpec : ChangeSpec := { name := "pipeOrder", fn := fun _ => fun
  | [d1, d2] => { results := [.lit (.bool true)], args := [d1, d2] }
  | _ => none }
def pipeOrderRow : OpenClaim := { program := "ytpddiafjmkjpmaa", sum := "c55214b138f56ccb3658b9be08798963223726b8669af8f920e27f45298b5763", func := "souffleur/souffleurlaw16.PipeOrder", spec := "pipeOrder", inPlace := ["internal/bytealg.IndexByteString"], unfollowed := true, recurses := true, apart := false }
def PipeOrderSaid : Prop := pipeOrderRow.holds Try.pinned (OpenSpec.ofChange pipeOrderSpec)

/-- ITS FALSE NEIGHBOUR: 'it returns false'. Refute it at one input. -/
def pipeOrderWrong : ChangeSpec := { name := "pipeOrder", fn := fun _ => fun
  | [d1, d2] => { results := [.lit (.bool false)], args := [d1, d2] }
  | _ => none }
def PipeOrderWrongFalsely : Prop := pipeOrderRow.holds Try.pinned (OpenSpec.ofChange pipeOrderWrong)

/-- 'souffleurlaw03.GlobBack': WHATEVER THE INPUT: true; the input reads as it did. -/
def globBackSpec : ChangeSpec := { name := "globBack", fn := fun _ => fun
  | [d] => { results := [.lit (.bool true)], args := [d] }
  | _ => none }
def globBackRow : OpenClaim := { program := "ytpddiafjmkjpmaa", sum := "c55214b138f56ccb3658b9be08798963223726b8669af8f920e27f45298b5763", func := "souffleur/souffleurlaw03.GlobBack", spec := "globBack", inPlace := ["internal/abi.NoEscape", "internal/bytealg.IndexByteString"], unfollowed := true, recurses := true, apart := false }
def GlobBackSaid : Prop := globBackRow.holds Try.pinned (OpenSpec.ofChange globBackSpec)

/-- ITS FALSE NEIGHBOUR: 'it returns false'. Refute it at one input. -/
def globBackWrong : ChangeSpec := { name := "globBack", fn := fun _ => fun
  | [d] => { results := [.lit (.bool false)], args := [d] }
  | _ => none }
def GlobBackWrongFalsely : Prop := globBackRow.holds Try.pinned (OpenSpec.ofChange globBackWrong)

/-- 'souffleurlaw03.GlobMatches': WHATEVER THE INPUT: true; the input reads as it did. -/
def globMatchesSpec : ChangeSpec := { name := "globMatches", fn := fun _ => fun
  | [d1, d2, d3] => { results := [.lit (.bool true)], args := [d1, d2, d3] }
  | _ => none }
def globMatchesRow : OpenClaim := { program := "ytpddiafjmkjpmaa", sum := "c55214b138f56ccb3658b9be08798963223726b8669af8f920e27f45298b5763", func := "souffleur/souffleurlaw03.GlobMatches", spec := "globMatches", inPlace := ["internal/abi.NoEscape", "internal/bytealg.IndexByteString"], unfollowed := true, recurses := true, apart := false }
def GlobMatchesSaid : Prop := globMatchesRow.holds Try.pinned (OpenSpec.ofChange globMatchesSpec)

/-- ITS FALSE NEIGHBOUR: 'it returns false'. Refute it at one input. -/
def globMatchesWrong : ChangeSpec := { name := "globMatches", fn := fun _ => fun
  | [d1, d2, d3] => { results := [.lit (.bool false)], args := [d1, d2, d3] }
  | _ => none }
def GlobMatchesWrongFalsely : Prop := globMatchesRow.holds Try.pinned (OpenSpec.ofChange globMatchesWrong)

/-- 'souffleurlaw17.LineTypes': WHATEVER THE INPUT: true; the input reads as it did. -/
def lineTypesSpec : ChangeSpec := { name := "lineTypes", fn := fun _ => fun
  | [d1, d2, d3] => { results := [.lit (.bool true)], args := [d1, d2, d3] }
  | _ => none }
def lineTypesRow : OpenClaim := { program := "ytpddiafjmkjpmaa", sum := "c55214b138f56ccb3658b9be08798963223726b8669af8f920e27f45298b5763", func := "souffleur/souffleurlaw17.LineTypes", spec := "lineTypes", inPlace := ["internal/bytealg.IndexByteString"], unfollowed := true, recurses := true, apart := false }
def LineTypesSaid : Prop := lineTypesRow.holds Try.pinned (OpenSpec.ofChange lineTypesSpec)

/-- ITS FALSE NEIGHBOUR: 'it returns false'. Refute it at one input. -/
def lineTypesWrong : ChangeSpec := { name := "lineTypes", fn := fun _ => fun
  | [d1, d2, d3] => { results := [.lit (.bool false)], args := [d1, d2, d3] }
  | _ => none }
def LineTypesWrongFalsely : Prop := lineTypesRow.holds Try.pinned (OpenSpec.ofChange lineTypesWrong)

/-- 'souffleurlaw17.LineParts': WHATEVER THE INPUT: true; the input reads as it did. -/
def linePartsSpec : ChangeSpec := { name := "lineParts", fn := fun _ => fun
  | [d1, d2, d3] => { results := [.lit (.bool true)], args := [d1, d2, d3] }
  | _ => none }
def linePartsRow : OpenClaim := { program := "ytpddiafjmkjpmaa", sum := "c55214b138f56ccb3658b9be08798963223726b8669af8f920e27f45298b5763", func := "souffleur/souffleurlaw17.LineParts", spec := "lineParts", inPlace := ["internal/bytealg.IndexByteString"], unfollowed := true, recurses := true, apart := false }
def LinePartsSaid : Prop := linePartsRow.holds Try.pinned (OpenSpec.ofChange linePartsSpec)

/-- ITS FALSE NEIGHBOUR: 'it returns false'. Refute it at one input. -/
def linePartsWrong : ChangeSpec := { name := "lineParts", fn := fun _ => fun
  | [d1, d2, d3] => { results := [.lit (.bool false)], args := [d1, d2, d3] }
  | _ => none }
def LinePartsWrongFalsely : Prop := linePartsRow.holds Try.pinned (OpenSpec.ofChange linePartsWrong)

/-- 'souffleurlaw18.ActorShort': WHATEVER THE INPUT: true; the input reads as it did. -/
def actorShortSpec : ChangeSpec := { name := "actorShort", fn := fun _ => fun
  | [d1, d2, d3] => { results := [.lit (.bool true)], args := [d1, d2, d3] }
  | _ => none }
def actorShortRow : OpenClaim := { program := "ytpddiafjmkjpmaa", sum := "c55214b138f56ccb3658b9be08798963223726b8669af8f920e27f45298b5763", func := "souffleur/souffleurlaw18.ActorShort", spec := "actorShort", inPlace := ["internal/bytealg.IndexByteString"], unfollowed := true, recurses := true, apart := false }
def ActorShortSaid : Prop := actorShortRow.holds Try.pinned (OpenSpec.ofChange actorShortSpec)

/-- ITS FALSE NEIGHBOUR: 'it returns false'. Refute it at one input. -/
def actorShortWrong : ChangeSpec := { name := "actorShort", fn := fun _ => fun
  | [d1, d2, d3] => { results := [.lit (.bool false)], args := [d1, d2, d3] }
  | _ => none }
def ActorShortWrongFalsely : Prop := actorShortRow.holds Try.pinned (OpenSpec.ofChange actorShortWrong)

/-- 'souffleurlaw18.ActorComes': WHATEVER THE INPUT: true; the input reads as it did. -/
def actorComesSpec : ChangeSpec := { name := "actorComes", fn := fun _ => fun
  | [d1, d2] => { results := [.lit (.bool true)], args := [d1, d2] }
  | _ => none }
def actorComesRow : OpenClaim := { program := "ytpddiafjmkjpmaa", sum := "c55214b138f56ccb3658b9be08798963223726b8669af8f920e27f45298b5763", func := "souffleur/souffleurlaw18.ActorComes", spec := "actorComes", inPlace := ["internal/bytealg.IndexByteString"], unfollowed := true, recurses := true, apart := false }
def ActorComesSaid : Prop := actorComesRow.holds Try.pinned (OpenSpec.ofChange actorComesSpec)

/-- ITS FALSE NEIGHBOUR: 'it returns false'. Refute it at one input. -/
def actorComesWrong : ChangeSpec := { name := "actorComes", fn := fun _ => fun
  | [d1, d2] => { results := [.lit (.bool false)], args := [d1, d2] }
  | _ => none }
def ActorComesWrongFalsely : Prop := actorComesRow.holds Try.pinned (OpenSpec.ofChange actorComesWrong)

/- THE SECOND FORM. 'bulk': how many values and letters a reading holds, each counted each time it is reached (what is shared counts as often as it is met; a slice's spare places count too). A statement '..UptoSaid' is the law's where the arguments, and the package variables that the reading takes, are together of bulk at most 1048576: NARROWER than '..Said'. Prove '..Said' where nothing that the law and all that it calls make is longer than what came in: it says more and counts as full. Else prove '..UptoSaid'. A law counts once. -/
mutual
def uptoBulk {H : Type} : DataW H → Nat
  | .lit (.string bytes) => bytes.length + 1
  | .lit _ => 1
  | .nil => 1
  | .ptr d => uptoBulk d + 1
  | .slice elems spare => uptoBulkAll elems + uptoBulkAll spare + 1
  | .agg parts => uptoBulkAll parts + 1
  | .iface _ d => uptoBulk d + 1
  | .map entries => uptoBulkEntries entries + 1
  | .held _ => 1
def uptoBulkAll {H : Type} : List (DataW H) → Nat
  | [] => 0
  | d :: r => uptoBulk d + uptoBulkAll r
def uptoBulkEntries {H : Type} : List (Lit × DataW H) → Nat
  | [] => 0
  | x :: r => uptoBulkEntry x + uptoBulkEntries r
def uptoBulkEntry {H : Type} : Lit × DataW H → Nat
  | (.string bytes, d) => bytes.length + uptoBulk d + 1
  | (_, d) => uptoBulk d + 1
 end
def uptoSmall : (H : Type) → List (DataW H) → Bool := fun _ ds => decide (uptoBulkAll ds ≤ 1048576)
def OpenSpec.upto (s : _root_.Go.ChangeSpec) : _root_.Go.OpenSpec := { _root_.Go.OpenSpec.ofChange s with cond := some uptoSmall }

/-- 'souffleurlaw03.GlobAny', WHERE WHAT IT READS IS OF BULK AT MOST 1048576: true; the input reads as it did. -/
def globAnyUptoRow : OpenClaim := { program := "ytpddiafjmkjpmaa", sum := "c55214b138f56ccb3658b9be08798963223726b8669af8f920e27f45298b5763", func := "souffleur/souffleurlaw03.GlobAny", spec := "globAny", inPlace := ["internal/abi.NoEscape", "internal/bytealg.IndexByteString"], unfollowed := true, recurses := true, apart := false, narrowed := true }
def GlobAnyUptoSaid : Prop := globAnyUptoRow.holds Try.pinned (OpenSpec.upto globAnySpec)

/-- 'souffleurlaw03.GlobParts', WHERE WHAT IT READS IS OF BULK AT MOST 1048576: true; the input reads as it did. -/
def globPartsUptoRow : OpenClaim := { program := "ytpddiafjmkjpmaa", sum := "c55214b138f56ccb3658b9be08798963223726b8669af8f920e27f45298b5763", func := "souffleur/souffleurlaw03.GlobParts", spec := "globParts", inPlace := ["internal/abi.NoEscape", "internal/bytealg.IndexByteString"], unfollowed := true, recurses := true, apart := false, narrowed := true }
def GlobPartsUptoSaid : Prop := globPartsUptoRow.holds Try.pinned (OpenSpec.upto globPartsSpec)

/-- 'souffleurlaw16.PipeOrder', WHERE WHAT IT READS IS OF BULK AT MOST 1048576: true; the input reads as it did. -/
def pipeOrderUptoRow : OpenClaim := { program := "ytpddiafjmkjpmaa", sum := "c55214b138f56ccb3658b9be08798963223726b8669af8f920e27f45298b5763", func := "souffleur/souffleurlaw16.PipeOrder", spec := "pipeOrder", inPlace := ["internal/bytealg.IndexByteString"], unfollowed := true, recurses := true, apart := false, narrowed := true }
def PipeOrderUptoSaid : Prop := pipeOrderUptoRow.holds Try.pinned (OpenSpec.upto pipeOrderSpec)

/-- 'souffleurlaw03.GlobBack', WHERE WHAT IT READS IS OF BULK AT MOST 1048576: true; the input reads as it did. -/
def globBackUptoRow : OpenClaim := { program := "ytpddiafjmkjpmaa", sum := "c55214b138f56ccb3658b9be08798963223726b8669af8f920e27f45298b5763", func := "souffleur/souffleurlaw03.GlobBack", spec := "globBack", inPlace := ["internal/abi.NoEscape", "internal/bytealg.IndexByteString"], unfollowed := true, recurses := true, apart := false, narrowed := true }
def GlobBackUptoSaid : Prop := globBackUptoRow.holds Try.pinned (OpenSpec.upto globBackSpec)

/-- 'souffleurlaw03.GlobMatches', WHERE WHAT IT READS IS OF BULK AT MOST 1048576: true; the input reads as it did. -/
def globMatchesUptoRow : OpenClaim := { program := "ytpddiafjmkjpmaa", sum := "c55214b138f56ccb3658b9be08798963223726b8669af8f920e27f45298b5763", func := "souffleur/souffleurlaw03.GlobMatches", spec := "globMatches", inPlace := ["internal/abi.NoEscape", "internal/bytealg.IndexByteString"], unfollowed := true, recurses := true, apart := false, narrowed := true }
def GlobMatchesUptoSaid : Prop := globMatchesUptoRow.holds Try.pinned (OpenSpec.upto globMatchesSpec)

/-- 'souffleurlaw17.LineTypes', WHERE WHAT IT READS IS OF BULK AT MOST 1048576: true; the input reads as it did. -/
def lineTypesUptoRow : OpenClaim := { program := "ytpddiafjmkjpmaa", sum := "c55214b138f56ccb3658b9be08798963223726b8669af8f920e27f45298b5763", func := "souffleur/souffleurlaw17.LineTypes", spec := "lineTypes", inPlace := ["internal/bytealg.IndexByteString"], unfollowed := true, recurses := true, apart := false, narrowed := true }
def LineTypesUptoSaid : Prop := lineTypesUptoRow.holds Try.pinned (OpenSpec.upto lineTypesSpec)

/-- 'souffleurlaw17.LineParts', WHERE WHAT IT READS IS OF BULK AT MOST 1048576: true; the input reads as it did. -/
def linePartsUptoRow : OpenClaim := { program := "ytpddiafjmkjpmaa", sum := "c55214b138f56ccb3658b9be08798963223726b8669af8f920e27f45298b5763", func := "souffleur/souffleurlaw17.LineParts", spec := "lineParts", inPlace := ["internal/bytealg.IndexByteString"], unfollowed := true, recurses := true, apart := false, narrowed := true }
def LinePartsUptoSaid : Prop := linePartsUptoRow.holds Try.pinned (OpenSpec.upto linePartsSpec)

/-- 'souffleurlaw18.ActorShort', WHERE WHAT IT READS IS OF BULK AT MOST 1048576: true; the input reads as it did. -/
def actorShortUptoRow : OpenClaim := { program := "ytpddiafjmkjpmaa", sum := "c55214b138f56ccb3658b9be08798963223726b8669af8f920e27f45298b5763", func := "souffleur/souffleurlaw18.ActorShort", spec := "actorShort", inPlace := ["internal/bytealg.IndexByteString"], unfollowed := true, recurses := true, apart := false, narrowed := true }
def ActorShortUptoSaid : Prop := actorShortUptoRow.holds Try.pinned (OpenSpec.upto actorShortSpec)

/-- 'souffleurlaw18.ActorComes', WHERE WHAT IT READS IS OF BULK AT MOST 1048576: true; the input reads as it did. -/
def actorComesUptoRow : OpenClaim := { program := "ytpddiafjmkjpmaa", sum := "c55214b138f56ccb3658b9be08798963223726b8669af8f920e27f45298b5763", func := "souffleur/souffleurlaw18.ActorComes", spec := "actorComes", inPlace := ["internal/bytealg.IndexByteString"], unfollowed := true, recurses := true, apart := false, narrowed := true }
def ActorComesUptoSaid : Prop := actorComesUptoRow.holds Try.pinned (OpenSpec.upto actorComesSpec)

end Rows
end Go.Proofs.Ytpddiafjmkjpmaa
