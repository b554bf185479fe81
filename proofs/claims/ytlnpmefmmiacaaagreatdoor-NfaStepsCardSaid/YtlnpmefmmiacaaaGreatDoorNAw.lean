/- A closed run, in parts: printed by program. -/
import Derived.Test.YtlnpmefmmiacaaaGreatDoorGKnow
import Derived.Test.YtlnpmefmmiacaaaGreatDoorGNSpan
namespace Go.Y
open Go.Proofs
set_option maxRecDepth 1000000
def Tryz.kT0 : Known := []
theorem Tryz.kT0ok : KnowOK Tryz.Y Tryz.kT0 := .nil
def Tryz.kA0 : List V := [.s [97, 123, 50, 44, 125]]
def Tryz.kR0 : V := .tup [.agg [.i .i64 (6), .i .u64 (0), .i .u64 (0), .i .u64 (0), .i .u64 (0), .ts [.i .i64 (1), .i .u64 (0), .i .u64 (8589934592), .i .u64 (0), .i .u64 (0), .sl none 0 (some 0) 0, .i .i64 (0), .i .i64 (0), .i .i64 (0)] 1 (some 1), .i .i64 (2), .i .i64 (-1), .i .i64 (0)], .i .i64 (0), .i .i64 (0)]
theorem Tryz.kP0 : PCon Tryz.Y 17 Tryz.kA0 (· = Tryz.kR0) := callN_ok Tryz.Yok (knT_ok Tryz.kT0ok Tryz.knok) (n := 200) (by kernel_rfl) (by kernel_rfl)
def Tryz.kT1 : Known := (17, Tryz.kA0, Tryz.kR0) :: Tryz.kT0
theorem Tryz.kT1ok : KnowOK Tryz.Y Tryz.kT1 := .cons _ _ _ _ Tryz.kP0 Tryz.kT0ok
end Go.Y
