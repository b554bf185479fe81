/- A closed run, in parts: printed by program. -/
import Derived.Test.YtlnpmefmmiacaaaGreatDoorNAw2
namespace Go.Y
open Go.Proofs
set_option maxRecDepth 1000000
def Tryz.kA2 : List V := [.agg [.i .i64 (6), .i .u64 (0), .i .u64 (0), .i .u64 (0), .i .u64 (0), .ts [.i .i64 (1), .i .u64 (0), .i .u64 (8589934592), .i .u64 (0), .i .u64 (0), .sl none 0 (some 0) 0, .i .i64 (0), .i .i64 (0), .i .i64 (0)] 1 (some 1), .i .i64 (2), .i .i64 (-1), .i .i64 (0)]]
def Tryz.kR2 : V := .b true
theorem Tryz.kP2 : PCon Tryz.Y 30 Tryz.kA2 (· = Tryz.kR2) := callN_ok Tryz.Yok (knT_ok Tryz.kT2ok Tryz.knok) (n := 200) (by kernel_rfl) (by kernel_rfl)
def Tryz.kT3 : Known := (30, Tryz.kA2, Tryz.kR2) :: Tryz.kT2
theorem Tryz.kT3ok : KnowOK Tryz.Y Tryz.kT3 := .cons _ _ _ _ Tryz.kP2 Tryz.kT2ok
def Tryz.kA3 : List V := [.agg [.i .i64 (6), .i .u64 (0), .i .u64 (0), .i .u64 (0), .i .u64 (0), .ts [.i .i64 (1), .i .u64 (0), .i .u64 (8589934592), .i .u64 (0), .i .u64 (0), .sl none 0 (some 0) 0, .i .i64 (0), .i .i64 (0), .i .i64 (0)] 1 (some 1), .i .i64 (2), .i .i64 (-1), .i .i64 (0)]]
def Tryz.kR3 : V := .tup [.agg [.ts [.i .u64 (0), .i .u64 (8589934592), .i .u64 (0), .i .u64 (0), .i .u64 (0), .i .u64 (8589934592), .i .u64 (0), .i .u64 (0)] 2 none, .ts [.i .i64 (0)] 1 none, .ts [.i .i64 (1)] 1 none, .ts [.ts [.i .i64 (1)] 1 none, .ts [.i .i64 (1)] 1 none] 2 none, .b false], .i .i64 (0)]
theorem Tryz.kP3 : PCon Tryz.Y 18 Tryz.kA3 (· = Tryz.kR3) := callN_ok Tryz.Yok (knT_ok Tryz.kT3ok Tryz.knok) (n := 200) (by kernel_rfl) (by kernel_rfl)
def Tryz.kT4 : Known := (18, Tryz.kA3, Tryz.kR3) :: Tryz.kT3
theorem Tryz.kT4ok : KnowOK Tryz.Y Tryz.kT4 := .cons _ _ _ _ Tryz.kP3 Tryz.kT3ok
end Go.Y
