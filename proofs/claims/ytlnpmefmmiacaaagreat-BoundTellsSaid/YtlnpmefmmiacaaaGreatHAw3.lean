/- A closed run, in parts: printed by program. -/
import Derived.Test.YtlnpmefmmiacaaaGreatHAw2
namespace Go.Y
open Go.Proofs
set_option maxRecDepth 1000000
def Tryz.kA17 : List V := [.s [101, 120, 112, 101, 99, 116, 95, 98, 101, 102, 111, 114, 101, 32, 123, 101, 111, 102, 32, 123, 125, 32, 116, 105, 109, 101, 111, 117, 116, 32, 123, 125, 125], .i .i64 (19)]
def Tryz.kR17 : V := .tup [.agg [.i .i64 (4), .s [123], .i .i64 (0), .ts [] 0 (some 0), .i .i64 (19)], .i .i64 (20), .i .i64 (0), .i .i64 (0)]
theorem Tryz.kP17 : PCon Tryz.Y 43 Tryz.kA17 (· = Tryz.kR17) := callN_ok Tryz.Yok (knT_ok Tryz.kT17ok Tryz.knok) (n := 200) (by kernel_rfl) (by kernel_rfl)
def Tryz.kT18 : Known := (43, Tryz.kA17, Tryz.kR17) :: Tryz.kT17
theorem Tryz.kT18ok : KnowOK Tryz.Y Tryz.kT18 := .cons _ _ _ _ Tryz.kP17 Tryz.kT17ok
def Tryz.kA18 : List V := [.s [101, 120, 112, 101, 99, 116, 95, 98, 101, 102, 111, 114, 101, 32, 123, 101, 111, 102, 32, 123, 125, 32, 116, 105, 109, 101, 111, 117, 116, 32, 123, 125, 125], .i .i64 (20)]
def Tryz.kR18 : V := .tup [.agg [.i .i64 (4), .s [125], .i .i64 (0), .ts [] 0 (some 0), .i .i64 (20)], .i .i64 (21), .i .i64 (0), .i .i64 (0)]
theorem Tryz.kP18 : PCon Tryz.Y 43 Tryz.kA18 (· = Tryz.kR18) := callN_ok Tryz.Yok (knT_ok Tryz.kT18ok Tryz.knok) (n := 200) (by kernel_rfl) (by kernel_rfl)
def Tryz.kT19 : Known := (43, Tryz.kA18, Tryz.kR18) :: Tryz.kT18
theorem Tryz.kT19ok : KnowOK Tryz.Y Tryz.kT19 := .cons _ _ _ _ Tryz.kP18 Tryz.kT18ok
def Tryz.kA19 : List V := [.s [101, 120, 112, 101, 99, 116, 95, 98, 101, 102, 111, 114, 101, 32, 123, 101, 111, 102, 32, 123, 125, 32, 116, 105, 109, 101, 111, 117, 116, 32, 123, 125, 125], .i .i64 (22), .b false]
def Tryz.kR19 : V := .i .i64 (29)
theorem Tryz.kP19 : PCon Tryz.Y 59 Tryz.kA19 (· = Tryz.kR19) := callN_ok Tryz.Yok (knT_ok Tryz.kT19ok Tryz.knok) (n := 200) (by kernel_rfl) (by kernel_rfl)
def Tryz.kT20 : Known := (59, Tryz.kA19, Tryz.kR19) :: Tryz.kT19
theorem Tryz.kT20ok : KnowOK Tryz.Y Tryz.kT20 := .cons _ _ _ _ Tryz.kP19 Tryz.kT19ok
def Tryz.kA20 : List V := [.s [101, 120, 112, 101, 99, 116, 95, 98, 101, 102, 111, 114, 101, 32, 123, 101, 111, 102, 32, 123, 125, 32, 116, 105, 109, 101, 111, 117, 116, 32, 123, 125, 125], .i .i64 (22)]
def Tryz.kR20 : V := .tup [.agg [.i .i64 (1), .s [116, 105, 109, 101, 111, 117, 116], .i .i64 (0), .ts [] 0 (some 0), .i .i64 (22)], .i .i64 (29), .i .i64 (0), .i .i64 (0)]
theorem Tryz.kP20 : PCon Tryz.Y 43 Tryz.kA20 (· = Tryz.kR20) := callN_ok Tryz.Yok (knT_ok Tryz.kT20ok Tryz.knok) (n := 200) (by kernel_rfl) (by kernel_rfl)
def Tryz.kT21 : Known := (43, Tryz.kA20, Tryz.kR20) :: Tryz.kT20
theorem Tryz.kT21ok : KnowOK Tryz.Y Tryz.kT21 := .cons _ _ _ _ Tryz.kP20 Tryz.kT20ok
def Tryz.kA21 : List V := [.s [101, 120, 112, 101, 99, 116, 95, 98, 101, 102, 111, 114, 101, 32, 123, 101, 111, 102, 32, 123, 125, 32, 116, 105, 109, 101, 111, 117, 116, 32, 123, 125, 125], .i .i64 (30)]
def Tryz.kR21 : V := .tup [.agg [.i .i64 (4), .s [123], .i .i64 (0), .ts [] 0 (some 0), .i .i64 (30)], .i .i64 (31), .i .i64 (0), .i .i64 (0)]
theorem Tryz.kP21 : PCon Tryz.Y 43 Tryz.kA21 (· = Tryz.kR21) := callN_ok Tryz.Yok (knT_ok Tryz.kT21ok Tryz.knok) (n := 200) (by kernel_rfl) (by kernel_rfl)
def Tryz.kT22 : Known := (43, Tryz.kA21, Tryz.kR21) :: Tryz.kT21
theorem Tryz.kT22ok : KnowOK Tryz.Y Tryz.kT22 := .cons _ _ _ _ Tryz.kP21 Tryz.kT21ok
def Tryz.kA22 : List V := [.s [101, 120, 112, 101, 99, 116, 95, 98, 101, 102, 111, 114, 101, 32, 123, 101, 111, 102, 32, 123, 125, 32, 116, 105, 109, 101, 111, 117, 116, 32, 123, 125, 125], .i .i64 (31)]
def Tryz.kR22 : V := .tup [.agg [.i .i64 (4), .s [125], .i .i64 (0), .ts [] 0 (some 0), .i .i64 (31)], .i .i64 (32), .i .i64 (0), .i .i64 (0)]
theorem Tryz.kP22 : PCon Tryz.Y 43 Tryz.kA22 (· = Tryz.kR22) := callN_ok Tryz.Yok (knT_ok Tryz.kT22ok Tryz.knok) (n := 200) (by kernel_rfl) (by kernel_rfl)
def Tryz.kT23 : Known := (43, Tryz.kA22, Tryz.kR22) :: Tryz.kT22
theorem Tryz.kT23ok : KnowOK Tryz.Y Tryz.kT23 := .cons _ _ _ _ Tryz.kP22 Tryz.kT22ok
def Tryz.kA23 : List V := [.s [101, 120, 112, 101, 99, 116, 95, 98, 101, 102, 111, 114, 101, 32, 123, 101, 111, 102, 32, 123, 125, 32, 116, 105, 109, 101, 111, 117, 116, 32, 123, 125, 125], .i .i64 (32)]
def Tryz.kR23 : V := .tup [.agg [.i .i64 (4), .s [125], .i .i64 (0), .ts [] 0 (some 0), .i .i64 (32)], .i .i64 (33), .i .i64 (0), .i .i64 (0)]
theorem Tryz.kP23 : PCon Tryz.Y 43 Tryz.kA23 (· = Tryz.kR23) := callN_ok Tryz.Yok (knT_ok Tryz.kT23ok Tryz.knok) (n := 200) (by kernel_rfl) (by kernel_rfl)
def Tryz.kT24 : Known := (43, Tryz.kA23, Tryz.kR23) :: Tryz.kT23
theorem Tryz.kT24ok : KnowOK Tryz.Y Tryz.kT24 := .cons _ _ _ _ Tryz.kP23 Tryz.kT23ok
end Go.Y
