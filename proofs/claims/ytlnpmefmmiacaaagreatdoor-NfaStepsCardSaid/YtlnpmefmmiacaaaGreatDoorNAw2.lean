/- A closed run, in parts: printed by program. -/
import Derived.Test.YtlnpmefmmiacaaaGreatDoorNAw
namespace Go.Y
open Go.Proofs
set_option maxRecDepth 1000000
def Tryz.kA1 : List V := [.agg [.i .u64 (0), .i .u64 (8589934592), .i .u64 (0), .i .u64 (0)]]
def Tryz.kR1 : V := .ts [.i .u8 (97), .i .u8 (97)] 1 none
theorem Tryz.kP1 : PCon Tryz.Y 94 Tryz.kA1 (· = Tryz.kR1) := spans94
def Tryz.kT2 : Known := (94, Tryz.kA1, Tryz.kR1) :: Tryz.kT1
theorem Tryz.kT2ok : KnowOK Tryz.Y Tryz.kT2 := .cons _ _ _ _ Tryz.kP1 Tryz.kT1ok
end Go.Y
