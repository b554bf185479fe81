/- A closed run, in parts: printed by program. -/
import Derived.Test.YtlnpmefmmiacaaaGreatHAw3
namespace Go.Y
open Go.Proofs
set_option maxRecDepth 1000000
def Tryz.kA24 : List V := [.s [101, 120, 112, 101, 99, 116, 95, 98, 101, 102, 111, 114, 101, 32, 123, 101, 111, 102, 32, 123, 125, 32, 116, 105, 109, 101, 111, 117, 116, 32, 123, 125, 125]]
def Tryz.kR24 : V := .tup [.ts [.i .i64 (1), .s [101, 120, 112, 101, 99, 116, 95, 98, 101, 102, 111, 114, 101], .i .i64 (0), .ts [] 0 (some 0), .i .i64 (0), .i .i64 (4), .s [123], .i .i64 (0), .ts [] 0 (some 0), .i .i64 (14), .i .i64 (1), .s [101, 111, 102], .i .i64 (0), .ts [] 0 (some 0), .i .i64 (15), .i .i64 (4), .s [123], .i .i64 (0), .ts [] 0 (some 0), .i .i64 (19), .i .i64 (4), .s [125], .i .i64 (0), .ts [] 0 (some 0), .i .i64 (20), .i .i64 (1), .s [116, 105, 109, 101, 111, 117, 116], .i .i64 (0), .ts [] 0 (some 0), .i .i64 (22), .i .i64 (4), .s [123], .i .i64 (0), .ts [] 0 (some 0), .i .i64 (30), .i .i64 (4), .s [125], .i .i64 (0), .ts [] 0 (some 0), .i .i64 (31), .i .i64 (4), .s [125], .i .i64 (0), .ts [] 0 (some 0), .i .i64 (32)] 9 none, .i .i64 (0), .i .i64 (0)]
theorem Tryz.kP24 : PCon Tryz.Y 25 Tryz.kA24 (· = Tryz.kR24) := callN_ok Tryz.Yok (knT_ok Tryz.kT24ok Tryz.knok) (n := 200) (by kernel_rfl) (by kernel_rfl)
def Tryz.kT25 : Known := (25, Tryz.kA24, Tryz.kR24) :: Tryz.kT24
theorem Tryz.kT25ok : KnowOK Tryz.Y Tryz.kT25 := .cons _ _ _ _ Tryz.kP24 Tryz.kT24ok
end Go.Y
