/- A closed run, in parts: printed by program. -/
import Derived.Test.YtlnpmefmmiacaaaGreatHAw
namespace Go.Y
open Go.Proofs
set_option maxRecDepth 1000000
def Tryz.kA11 : List V := [.s [99, 97, 112, 32, 52, 32, 97, 116, 32, 97, 32, 123, 125]]
def Tryz.kR11 : V := .tup [.agg [.i .i64 (4), .ts [.s [97], .b false, .ts [] 0 (some 0)] 1 none], .i .i64 (0), .i .i64 (0)]
theorem Tryz.kP11 : PCon Tryz.Y 20 Tryz.kA11 (· = Tryz.kR11) := callN_ok Tryz.Yok (knT_ok Tryz.kT11ok Tryz.knok) (n := 200) (by kernel_rfl) (by kernel_rfl)
def Tryz.kT12 : Known := (20, Tryz.kA11, Tryz.kR11) :: Tryz.kT11
theorem Tryz.kT12ok : KnowOK Tryz.Y Tryz.kT12 := .cons _ _ _ _ Tryz.kP11 Tryz.kT11ok
def Tryz.kA12 : List V := [.s [101, 120, 112, 101, 99, 116, 95, 98, 101, 102, 111, 114, 101, 32, 123, 101, 111, 102, 32, 123, 125, 32, 116, 105, 109, 101, 111, 117, 116, 32, 123, 125, 125], .i .i64 (0), .b false]
def Tryz.kR12 : V := .i .i64 (13)
theorem Tryz.kP12 : PCon Tryz.Y 59 Tryz.kA12 (· = Tryz.kR12) := callN_ok Tryz.Yok (knT_ok Tryz.kT12ok Tryz.knok) (n := 200) (by kernel_rfl) (by kernel_rfl)
def Tryz.kT13 : Known := (59, Tryz.kA12, Tryz.kR12) :: Tryz.kT12
theorem Tryz.kT13ok : KnowOK Tryz.Y Tryz.kT13 := .cons _ _ _ _ Tryz.kP12 Tryz.kT12ok
def Tryz.kA13 : List V := [.s [101, 120, 112, 101, 99, 116, 95, 98, 101, 102, 111, 114, 101, 32, 123, 101, 111, 102, 32, 123, 125, 32, 116, 105, 109, 101, 111, 117, 116, 32, 123, 125, 125], .i .i64 (0)]
def Tryz.kR13 : V := .tup [.agg [.i .i64 (1), .s [101, 120, 112, 101, 99, 116, 95, 98, 101, 102, 111, 114, 101], .i .i64 (0), .ts [] 0 (some 0), .i .i64 (0)], .i .i64 (13), .i .i64 (0), .i .i64 (0)]
theorem Tryz.kP13 : PCon Tryz.Y 43 Tryz.kA13 (· = Tryz.kR13) := callN_ok Tryz.Yok (knT_ok Tryz.kT13ok Tryz.knok) (n := 200) (by kernel_rfl) (by kernel_rfl)
def Tryz.kT14 : Known := (43, Tryz.kA13, Tryz.kR13) :: Tryz.kT13
theorem Tryz.kT14ok : KnowOK Tryz.Y Tryz.kT14 := .cons _ _ _ _ Tryz.kP13 Tryz.kT13ok
def Tryz.kA14 : List V := [.s [101, 120, 112, 101, 99, 116, 95, 98, 101, 102, 111, 114, 101, 32, 123, 101, 111, 102, 32, 123, 125, 32, 116, 105, 109, 101, 111, 117, 116, 32, 123, 125, 125], .i .i64 (14)]
def Tryz.kR14 : V := .tup [.agg [.i .i64 (4), .s [123], .i .i64 (0), .ts [] 0 (some 0), .i .i64 (14)], .i .i64 (15), .i .i64 (0), .i .i64 (0)]
theorem Tryz.kP14 : PCon Tryz.Y 43 Tryz.kA14 (· = Tryz.kR14) := callN_ok Tryz.Yok (knT_ok Tryz.kT14ok Tryz.knok) (n := 200) (by kernel_rfl) (by kernel_rfl)
def Tryz.kT15 : Known := (43, Tryz.kA14, Tryz.kR14) :: Tryz.kT14
theorem Tryz.kT15ok : KnowOK Tryz.Y Tryz.kT15 := .cons _ _ _ _ Tryz.kP14 Tryz.kT14ok
def Tryz.kA15 : List V := [.s [101, 120, 112, 101, 99, 116, 95, 98, 101, 102, 111, 114, 101, 32, 123, 101, 111, 102, 32, 123, 125, 32, 116, 105, 109, 101, 111, 117, 116, 32, 123, 125, 125], .i .i64 (15), .b false]
def Tryz.kR15 : V := .i .i64 (18)
theorem Tryz.kP15 : PCon Tryz.Y 59 Tryz.kA15 (· = Tryz.kR15) := callN_ok Tryz.Yok (knT_ok Tryz.kT15ok Tryz.knok) (n := 200) (by kernel_rfl) (by kernel_rfl)
def Tryz.kT16 : Known := (59, Tryz.kA15, Tryz.kR15) :: Tryz.kT15
theorem Tryz.kT16ok : KnowOK Tryz.Y Tryz.kT16 := .cons _ _ _ _ Tryz.kP15 Tryz.kT15ok
def Tryz.kA16 : List V := [.s [101, 120, 112, 101, 99, 116, 95, 98, 101, 102, 111, 114, 101, 32, 123, 101, 111, 102, 32, 123, 125, 32, 116, 105, 109, 101, 111, 117, 116, 32, 123, 125, 125], .i .i64 (15)]
def Tryz.kR16 : V := .tup [.agg [.i .i64 (1), .s [101, 111, 102], .i .i64 (0), .ts [] 0 (some 0), .i .i64 (15)], .i .i64 (18), .i .i64 (0), .i .i64 (0)]
theorem Tryz.kP16 : PCon Tryz.Y 43 Tryz.kA16 (· = Tryz.kR16) := callN_ok Tryz.Yok (knT_ok Tryz.kT16ok Tryz.knok) (n := 200) (by kernel_rfl) (by kernel_rfl)
def Tryz.kT17 : Known := (43, Tryz.kA16, Tryz.kR16) :: Tryz.kT16
theorem Tryz.kT17ok : KnowOK Tryz.Y Tryz.kT17 := .cons _ _ _ _ Tryz.kP16 Tryz.kT16ok
end Go.Y
