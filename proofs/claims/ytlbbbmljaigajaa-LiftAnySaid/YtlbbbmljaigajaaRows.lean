/-
  No cell of these rows narrows 'for every input' (looked for: loops, veiled, ifaces, maps, wideKeys, modest, calm, conditions, laid).
  DERIVED. THE GIVEN ROWS OF THIS SEAT. 4 by the template 'for every input the law returns true; each argument reads behind the call as it read before'; 0 by the template 'total and deterministic' (their statements: YtlbbbmljaigajaaTotals.lean).
  GIVEN WITH THE SEED: the statements are not yours to turn. If you find one false, say at which input.
  Laid BY PROGRAM, IN A SANDBOX (cutbox-rows.mjs): the forced cells as the released guide's own fill.sh prints them over the translation 28cb05abcc23aca1… (all of the seat's roots in one cut). By AI agents, Wed Nov 11 2026. No macro, syntax, notation, axiom, sorry.
-/
import Derived.Test.YtlbbbmljaigajaaChecked
import GoSem.Claim
import GoSem.ClaimJoined
import GoSem.ClaimMapViews
import Derived.JoinedTies
import Derived.KernelRfl
namespace Go.Proofs.Ytlbbbmljaigajaa
/- THE CELL 'sum', in the pinned program and in every row, IS THE sha256 OF THE DUMP (.gsa) THAT YtlbbbmljaigajaaProg.lean LOADS. Nothing in Lean hashes anything: it is a label: what it is worth is what the hold of that sum in a sandbox is worth. -/
noncomputable def Try.pinned : Pinned := { name := "ytlbbbmljaigajaa", sum := "28cb05abcc23aca1f54037bf69e82749e1eda89e34198f0938d140e755ef6b18", checked := Try.checked }
namespace Rows
def none {H : Type} : Left H := { results := [], args := [] }

/-- 'souffleurlaw30.LiftAny': WHATEVER THE INPUT: true; the input reads as it did. -/
def liftAnySpec : ChangeSpec := { name := "liftAny", fn := fun _ => fun
  | [d] => { results := [.lit (.bool true)], args := [d] }
  | _ => none }
def liftAnyRow : OpenClaim := { program := "ytlbbbmljaigajaa", sum := "28cb05abcc23aca1f54037bf69e82749e1eda89e34198f0938d140e755ef6b18", func := "souffleur/souffleurlaw30.LiftAny", spec := "liftAny", apart := false }
def LiftAnySaid : Prop := liftAnyRow.holds Try.pinned (OpenSpec.ofChange liftAnySpec)

/-- ITS FALSE NEIGHBOUR: 'it returns false'. Refute it at one input. -/
def liftAnyWrong : ChangeSpec := { name := "liftAny", fn := fun _ => fun
  | [d] => { results := [.lit (.bool false)], args := [d] }
  | _ => none }
def LiftAnyWrongFalsely : Prop := liftAnyRow.holds Try.pinned (OpenSpec.ofChange liftAnyWrong)

/-- 'souffleurlaw30.LiftBack': WHATEVER THE INPUT: true; the input reads as it did. -/
def liftBackSpec : ChangeSpec := { name := "liftBack", fn := fun _ => fun
  | [d] => { results := [.lit (.bool true)], args := [d] }
  | _ => none }
def liftBackRow : OpenClaim := { program := "ytlbbbmljaigajaa", sum := "28cb05abcc23aca1f54037bf69e82749e1eda89e34198f0938d140e755ef6b18", func := "souffleur/souffleurlaw30.LiftBack", spec := "liftBack", apart := false }
def LiftBackSaid : Prop := liftBackRow.holds Try.pinned (OpenSpec.ofChange liftBackSpec)

/-- ITS FALSE NEIGHBOUR: 'it returns false'. Refute it at one input. -/
def liftBackWrong : ChangeSpec := { name := "liftBack", fn := fun _ => fun
  | [d] => { results := [.lit (.bool false)], args := [d] }
  | _ => none }
def LiftBackWrongFalsely : Prop := liftBackRow.holds Try.pinned (OpenSpec.ofChange liftBackWrong)

/-- 'souffleurlaw03.GlobAny': WHATEVER THE INPUT: true; the input reads as it did. -/
def globAnySpec : ChangeSpec := { name := "globAny", fn := fun _ => fun
  | [d] => { results := [.lit (.bool true)], args := [d] }
  | _ => none }
def globAnyRow : OpenClaim := { program := "ytlbbbmljaigajaa", sum := "28cb05abcc23aca1f54037bf69e82749e1eda89e34198f0938d140e755ef6b18", func := "souffleur/souffleurlaw03.GlobAny", spec := "globAny", inPlace := ["internal/abi.NoEscape", "internal/bytealg.IndexByteString"], unfollowed := true, recurses := true, apart := false }
def GlobAnySaid : Prop := globAnyRow.holds Try.pinned (OpenSpec.ofChange globAnySpec)

/-- ITS FALSE NEIGHBOUR: 'it returns false'. Refute it at one input. -/
def globAnyWrong : ChangeSpec := { name := "globAny", fn := fun _ => fun
  | [d] => { results := [.lit (.bool false)], args := [d] }
  | _ => none }
def GlobAnyWrongFalsely : Prop := globAnyRow.holds Try.pinned (OpenSpec.ofChange globAnyWrong)

/-- 'souffleurlaw03.GlobParts': WHATEVER THE INPUT: true; the input reads as it did. -/
def globPartsSpec : ChangeSpec := { name := "globParts", fn := fun _ => fun
  | [d1, d2, d3] => { results := [.lit (.bool true)], args := [d1, d2, d3] }
  | _ => none }
def globPartsRow : OpenClaim := { program := "ytlbbbmljaigajaa", sum := "28cb05abcc23aca1f54037bf69e82749e1eda89e34198f0938d140e755ef6b18", func := "souffleur/souffleurlaw03.GlobParts", spec := "globParts", inPlace := ["internal/abi.NoEscape", "internal/bytealg.IndexByteString"], unfollowed := true, recurses := true, apart := false }
def GlobPartsSaid : Prop := globPartsRow.holds Try.pinned (OpenSpec.ofChange globPartsSpec)

/-- ITS FALSE NEIGHBOUR: 'it returns false'. Refute it at one input. -/
def globPartsWrong : ChangeSpec := { name := "globParts", fn := fun _ => fun
  | [d1, d2, d3] => { results := [.lit (.bool false)], args := [d1, d2, d3] }
  | _ => none }
def GlobPartsWrongFalsely : Prop := globPartsRow.holds Try.pinned (OpenSpec.ofChange globPartsWrong)

/- THE SECOND FORM. 'bulk': how many values and letters a reading holds, each counted each time it is reached (what is shared counts as often as it is met; a slice's spare places count too). A statement '..UptoSaid' is the law's where the arguments, and the package variables that the reading takes, are together of bulk at most 1048576: NARROWER than '..Said'. Prove '..Said' where nothing that the law and all that it calls make is longer than what came in: it says more and counts as full. Else prove '..UptoSaid'. A law counts once. -/
mutual
def uptoBulk {H : Type} : DataW H → Nat
  | .lit (.string bytes) => bytes.length + 1
  | .lit _ => 1
  | .nil => 1
  | .ptr d => uptoBulk d + 1
  | .slice elems spare => uptoBulkAll elems + uptoBulkAll spare + 1
  | .agg parts => uptoBulkAll parts + 1
  | .iface _ d => uptoBulk d + 1
  | .map entries => uptoBulkEntries entries + 1
  | .held _ => 1
def uptoBulkAll {H : Type} : List (DataW H) → Nat
  | [] => 0
  | d :: r => uptoBulk d + uptoBulkAll r
def uptoBulkEntries {H : Type} : List (Lit × DataW H) → Nat
  | [] => 0
  | x :: r => uptoBulkEntry x + uptoBulkEntries r
def uptoBulkEntry {H : Type} : Lit × DataW H → Nat
  | (.string bytes, d) => bytes.length + uptoBulk d + 1
  | (_, d) => uptoBulk d + 1
 end
def uptoSmall : (H : Type) → List (DataW H) → Bool := fun _ ds => decide (uptoBulkAll ds ≤ 1048576)
def OpenSpec.upto (s : _root_.Go.ChangeSpec) : _root_.Go.OpenSpec := { _root_.Go.OpenSpec.ofChange s with cond := some uptoSmall }

/-- 'souffleurlaw30.LiftAny', WHERE WHAT IT READS IS OF BULK AT MOST 1048576: true; the input reads as it did. -/
def liftAnyUptoRow : OpenClaim := { program := "ytlbbbmljaigajaa", sum := "28cb05abcc23aca1f54037bf69e82749e1eda89e34198f0938d140e755ef6b18", func := "souffleur/souffleurlaw30.LiftAny", spec := "liftAny", apart := false, narrowed := true }
def LiftAnyUptoSaid : Prop := liftAnyUptoRow.holds Try.pinned (OpenSpec.upto liftAnySpec)

/-- 'souffleurlaw30.LiftBack', WHERE WHAT IT READS IS OF BULK AT MOST 1048576: true; the input reads as it did. -/
def liftBackUptoRow : OpenClaim := { program := "ytlbbbmljaigajaa", sum := "28cb05abcc23aca1f54037bf69e82749e1eda89e34198f0938d140e755ef6b18", func := "souffleur/souffleurlaw30.LiftBack", spec := "liftBack", apart := false, narrowed := true }
def LiftBackUptoSaid : Prop := liftBackUptoRow.holds Try.pinned (OpenSpec.upto liftBackSpec)

/-- 'souffleurlaw03.GlobAny', WHERE WHAT IT READS IS OF BULK AT MOST 1048576: true; the input reads as it did. -/
def globAnyUptoRow : OpenClaim := { program := "ytlbbbmljaigajaa", sum := "28cb05abcc23aca1f54037bf69e82749e1eda89e34198f0938d140e755ef6b18", func := "souffleur/souffleurlaw03.GlobAny", spec := "globAny", inPlace := ["internal/abi.NoEscape", "internal/bytealg.IndexByteString"], unfollowed := true, recurses := true, apart := false, narrowed := true }
def GlobAnyUptoSaid : Prop := globAnyUptoRow.holds Try.pinned (OpenSpec.upto globAnySpec)

/-- 'souffleurlaw03.GlobParts', WHERE WHAT IT READS IS OF BULK AT MOST 1048576: true; the input reads as it did. -/
def globPartsUptoRow : OpenClaim := { program := "ytlbbbmljaigajaa", sum := "28cb05abcc23aca1f54037bf69e82749e1eda89e34198f0938d140e755ef6b18", func := "souffleur/souffleurlaw03.GlobParts", spec := "globParts", inPlace := ["internal/abi.NoEscape", "internal/bytealg.IndexByteString"], unfollowed := true, recurses := true, apart := false, narrowed := true }
def GlobPartsUptoSaid : Prop := globPartsUptoRow.holds Try.pinned (OpenSpec.upto globPartsSpec)

end Rows
end Go.Proofs.Ytlbbbmljaigajaa
