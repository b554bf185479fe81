/- A closed run, in parts: printed by program. -/
import Derived.Test.YtlnpmefmmiacaaaGreatHAw4
namespace Go.Y
open Go.Proofs
set_option maxRecDepth 1000000
def Tryz.kA25 : List V := [.s [101, 120, 112, 101, 99, 116, 95, 98, 101, 102, 111, 114, 101, 32, 123, 101, 111, 102, 32, 123, 125, 32, 116, 105, 109, 101, 111, 117, 116, 32, 123, 125, 125]]
def Tryz.kR25 : V := .tup [.ts [.i .i64 (13), .s [], .i .i64 (0), .ts [] 0 (some 0), .i .i64 (0), .i .i64 (0), .s [], .s [], .ts [] 0 (some 0), .ts [] 0 (some 0), .ts [] 0 (some 0), .ts [.i .i64 (3), .i .i64 (-1), .i .i64 (0), .s [], .ts [] 0 (some 0), .i .i64 (15), .i .i64 (2), .i .i64 (-1), .i .i64 (0), .s [], .ts [] 0 (some 0), .i .i64 (22)] 2 none, .i .i64 (0)] 1 none, .i .i64 (0), .i .i64 (0)]
theorem Tryz.kP25 : PCon Tryz.Y 21 Tryz.kA25 (· = Tryz.kR25) := callN_ok Tryz.Yok (knT_ok Tryz.kT25ok Tryz.knok) (n := 200) (by kernel_rfl) (by kernel_rfl)
def Tryz.kT26 : Known := (21, Tryz.kA25, Tryz.kR25) :: Tryz.kT25
theorem Tryz.kT26ok : KnowOK Tryz.Y Tryz.kT26 := .cons _ _ _ _ Tryz.kP25 Tryz.kT25ok
end Go.Y
