/- A closed run, in parts: printed by program. -/
import Derived.Test.YtlnpmefmmiacaaaGreatDoorNAw3
namespace Go.Y
open Go.Proofs
set_option maxRecDepth 1000000
def Tryz.kA4 : List V := [.agg [.ts [.i .u64 (0), .i .u64 (8589934592), .i .u64 (0), .i .u64 (0), .i .u64 (0), .i .u64 (8589934592), .i .u64 (0), .i .u64 (0)] 2 none, .ts [.i .i64 (0)] 1 none, .ts [.i .i64 (1)] 1 none, .ts [.ts [.i .i64 (1)] 1 none, .ts [.i .i64 (1)] 1 none] 2 none, .b false]]
def Tryz.kR4 : V := .b true
theorem Tryz.kP4 : PCon Tryz.Y 7 Tryz.kA4 (· = Tryz.kR4) := callN_ok Tryz.Yok (knT_ok Tryz.kT4ok Tryz.knok) (n := 200) (by kernel_rfl) (by kernel_rfl)
def Tryz.kT5 : Known := (7, Tryz.kA4, Tryz.kR4) :: Tryz.kT4
theorem Tryz.kT5ok : KnowOK Tryz.Y Tryz.kT5 := .cons _ _ _ _ Tryz.kP4 Tryz.kT4ok
def Tryz.kA5 : List V := [.agg [.ts [.i .u64 (0), .i .u64 (8589934592), .i .u64 (0), .i .u64 (0), .i .u64 (0), .i .u64 (8589934592), .i .u64 (0), .i .u64 (0)] 2 none, .ts [.i .i64 (0)] 1 none, .ts [.i .i64 (1)] 1 none, .ts [.ts [.i .i64 (1)] 1 none, .ts [.i .i64 (1)] 1 none] 2 none, .b false], .ts [.i .i64 (1)] 1 none]
def Tryz.kR5 : V := .b true
theorem Tryz.kP5 : PCon Tryz.Y 25 Tryz.kA5 (· = Tryz.kR5) := callN_ok Tryz.Yok (knT_ok Tryz.kT5ok Tryz.knok) (n := 200) (by kernel_rfl) (by kernel_rfl)
def Tryz.kT6 : Known := (25, Tryz.kA5, Tryz.kR5) :: Tryz.kT5
theorem Tryz.kT6ok : KnowOK Tryz.Y Tryz.kT6 := .cons _ _ _ _ Tryz.kP5 Tryz.kT5ok
def Tryz.kA6 : List V := [.agg [.ts [.i .u64 (0), .i .u64 (8589934592), .i .u64 (0), .i .u64 (0), .i .u64 (0), .i .u64 (8589934592), .i .u64 (0), .i .u64 (0)] 2 none, .ts [.i .i64 (0)] 1 none, .ts [.i .i64 (1)] 1 none, .ts [.ts [.i .i64 (1)] 1 none, .ts [.i .i64 (1)] 1 none] 2 none, .b false], .s [97, 97, 97]]
def Tryz.kR6 : V := .b true
theorem Tryz.kP6 : PCon Tryz.Y 8 Tryz.kA6 (· = Tryz.kR6) := callN_ok Tryz.Yok (knT_ok Tryz.kT6ok Tryz.knok) (n := 200) (by kernel_rfl) (by kernel_rfl)
def Tryz.kT7 : Known := (8, Tryz.kA6, Tryz.kR6) :: Tryz.kT6
theorem Tryz.kT7ok : KnowOK Tryz.Y Tryz.kT7 := .cons _ _ _ _ Tryz.kP6 Tryz.kT6ok
def Tryz.kA7 : List V := [.agg [.ts [.i .u64 (0), .i .u64 (8589934592), .i .u64 (0), .i .u64 (0), .i .u64 (0), .i .u64 (8589934592), .i .u64 (0), .i .u64 (0)] 2 none, .ts [.i .i64 (0)] 1 none, .ts [.i .i64 (1)] 1 none, .ts [.ts [.i .i64 (1)] 1 none, .ts [.i .i64 (1)] 1 none] 2 none, .b false], .ts [.i .i64 (0)] 1 none]
def Tryz.kR7 : V := .b false
theorem Tryz.kP7 : PCon Tryz.Y 25 Tryz.kA7 (· = Tryz.kR7) := callN_ok Tryz.Yok (knT_ok Tryz.kT7ok Tryz.knok) (n := 200) (by kernel_rfl) (by kernel_rfl)
def Tryz.kT8 : Known := (25, Tryz.kA7, Tryz.kR7) :: Tryz.kT7
theorem Tryz.kT8ok : KnowOK Tryz.Y Tryz.kT8 := .cons _ _ _ _ Tryz.kP7 Tryz.kT7ok
def Tryz.kA8 : List V := [.agg [.ts [.i .u64 (0), .i .u64 (8589934592), .i .u64 (0), .i .u64 (0), .i .u64 (0), .i .u64 (8589934592), .i .u64 (0), .i .u64 (0)] 2 none, .ts [.i .i64 (0)] 1 none, .ts [.i .i64 (1)] 1 none, .ts [.ts [.i .i64 (1)] 1 none, .ts [.i .i64 (1)] 1 none] 2 none, .b false], .s [97]]
def Tryz.kR8 : V := .b false
theorem Tryz.kP8 : PCon Tryz.Y 8 Tryz.kA8 (· = Tryz.kR8) := callN_ok Tryz.Yok (knT_ok Tryz.kT8ok Tryz.knok) (n := 200) (by kernel_rfl) (by kernel_rfl)
def Tryz.kT9 : Known := (8, Tryz.kA8, Tryz.kR8) :: Tryz.kT8
theorem Tryz.kT9ok : KnowOK Tryz.Y Tryz.kT9 := .cons _ _ _ _ Tryz.kP8 Tryz.kT8ok
theorem awake35 : PCon Tryz.Y 4 [] (· = .b true) := callN_ok Tryz.Yok (knT_ok Tryz.kT9ok Tryz.knok) (n := 200) (by kernel_rfl) (by kernel_rfl)
end Go.Y
