/- A closed run, in parts: printed by program. -/
import Derived.Test.YtkcgmnhojldoiaaGreatFL1
import Derived.Test.YtkcgmnhojldoiaaGreatGSortK
import Derived.Test.YtkcgmnhojldoiaaGreatYTryzP
import Derived.Shelf.Sort.Plain
import Derived.Shelf.Slices.CompactI
import Derived.Shelf.Slices.In.SortNone
namespace Go.Y
open Go.Proofs
set_option maxRecDepth 1000000
set_option maxHeartbeats 0
def Trya.kA10 : List V := [.s [116, 105, 109, 101, 111, 117, 116, 32, 110, 101, 118, 101, 114, 32, 115, 112, 97, 119, 110, 32, 48, 32, 101, 120, 112, 101, 99, 116, 32, 123, 101, 111, 102, 32, 123, 125, 125]]
def Trya.kR10 : V := .tup [.ts [.i .i64 (11), .s [], .i .i64 (-1), .ts [] 0 (some 0), .i .i64 (0), .i .i64 (0), .s [], .s [], .ts [] 0 (some 0), .ts [] 0 (some 0), .ts [] 0 (some 0), .ts [] 0 (some 0), .i .i64 (0), .i .i64 (8), .s [], .i .i64 (0), .ts [] 0 (some 0), .i .i64 (0), .i .i64 (0), .s [], .s [], .ts [] 0 (some 0), .ts [] 0 (some 0), .ts [] 0 (some 0), .ts [] 0 (some 0), .i .i64 (14), .i .i64 (12), .s [], .i .i64 (0), .ts [] 0 (some 0), .i .i64 (0), .i .i64 (0), .s [], .s [], .ts [] 0 (some 0), .ts [] 0 (some 0), .ts [] 0 (some 0), .ts [.i .i64 (3), .i .i64 (-1), .i .i64 (0), .s [], .ts [] 0 (some 0), .i .i64 (30)] 1 none, .i .i64 (22)] 3 none, .i .i64 (0), .i .i64 (0)]
theorem Trya.kP10 : PCon UA 21 Trya.kA10 (· = Trya.kR10) := ZS UB (XF Trya.kT8ok (XG Trya.kH10ok Trya.knok)) (n := 200) (by kernel_rfl) (by kernel_rfl)
def Trya.kT11 : Qq := (21, Trya.kA10, Trya.kR10) :: Trya.kT8
theorem Trya.kT11ok : KnowOK UA Trya.kT11 := .cons _ _ _ _ Trya.kP10 Trya.kT8ok
def Trya.kA11 : List V := [.agg [.i .i64 (12), .s [], .i .i64 (0), .ts [] 0 (some 0), .i .i64 (0), .i .i64 (0), .s [], .s [], .ts [] 0 (some 0), .ts [] 0 (some 0), .ts [] 0 (some 0), .ts [.i .i64 (3), .i .i64 (-1), .i .i64 (0), .s [], .ts [] 0 (some 0), .i .i64 (30)] 1 none, .i .i64 (22)], .i .i64 (0)]
def Trya.kR11 : V := .b true
theorem Trya.kP11 : PCon UA 150 Trya.kA11 (· = Trya.kR11) := ZS UB (XF Trya.kT11ok (XG Trya.kH10ok Trya.knok)) (n := 200) (by kernel_rfl) (by kernel_rfl)
def Trya.kT12 : Qq := (150, Trya.kA11, Trya.kR11) :: Trya.kT11
theorem Trya.kT12ok : KnowOK UA Trya.kT12 := .cons _ _ _ _ Trya.kP11 Trya.kT11ok
def Trya.kA12 : List V := [.agg [.s [116, 105, 109, 101, 111, 117, 116, 32, 110, 101, 118, 101, 114, 32, 115, 112, 97, 119, 110, 32, 48, 32, 101, 120, 112, 101, 99, 116, 32, 123, 101, 111, 102, 32, 123, 125, 125], .ts [.s [99, 97, 112, 32, 52, 32, 97, 116, 32, 97, 32, 123, 125]] 1 (some 1), .i .i64 (0), .i .i64 (9)]]
def Trya.kR12 : V := .tup [.agg [.ts [.i .i64 (11), .i .i64 (-1), .s [], .i .i64 (0), .ts [] 0 (some 0), .i .i64 (0), .i .i64 (0), .s [], .s [], .ts [] 0 (some 0), .ts [] 0 (some 0), .i .i64 (8), .i .i64 (0), .s [], .i .i64 (0), .ts [] 0 (some 0), .i .i64 (0), .i .i64 (0), .s [], .s [], .ts [] 0 (some 0), .ts [] 0 (some 0), .i .i64 (12), .i .i64 (0), .s [], .i .i64 (0), .ts [] 0 (some 0), .i .i64 (0), .i .i64 (0), .s [], .s [], .ts [] 0 (some 0), .ts [.i .i64 (0)] 1 none, .i .i64 (4), .i .i64 (5), .s [], .i .i64 (0), .ts [] 0 (some 0), .i .i64 (0), .i .i64 (0), .s [], .s [], .ts [] 0 (some 0), .ts [] 0 (some 0), .i .i64 (4), .i .i64 (5), .s [], .i .i64 (0), .ts [] 0 (some 0), .i .i64 (0), .i .i64 (0), .s [], .s [], .ts [] 0 (some 0), .ts [] 0 (some 0), .i .i64 (16), .i .i64 (0), .s [], .i .i64 (0), .ts [] 0 (some 0), .i .i64 (0), .i .i64 (0), .s [], .s [], .ts [] 0 (some 0), .ts [] 0 (some 0)] 6 none, .ts [.i .i64 (3), .i .i64 (-1), .i .i64 (0), .s [], .i .i64 (4), .b true, .i .i64 (30)] 1 none, .ts [.i .i64 (4), .ts [.s [97], .b false, .ts [] 0 (some 0)] 1 none] 1 none, .i .i64 (0), .i .i64 (9)], .b true]
theorem Trya.kP12 : PCon UA 8 Trya.kA12 (· = Trya.kR12) := ZS UB (XF Trya.kT12ok (XG Trya.kH10ok Trya.knok)) (n := 200) (by kernel_rfl) (by kernel_rfl)
def Trya.kT13 : Qq := (8, Trya.kA12, Trya.kR12) :: Trya.kT12
theorem Trya.kT13ok : KnowOK UA Trya.kT13 := .cons _ _ _ _ Trya.kP12 Trya.kT12ok
def Trya.kA13 : List V := [.agg [.ts [.i .i64 (11), .i .i64 (-1), .s [], .i .i64 (0), .ts [] 0 (some 0), .i .i64 (0), .i .i64 (0), .s [], .s [], .ts [] 0 (some 0), .ts [] 0 (some 0), .i .i64 (8), .i .i64 (0), .s [], .i .i64 (0), .ts [] 0 (some 0), .i .i64 (0), .i .i64 (0), .s [], .s [], .ts [] 0 (some 0), .ts [] 0 (some 0), .i .i64 (12), .i .i64 (0), .s [], .i .i64 (0), .ts [] 0 (some 0), .i .i64 (0), .i .i64 (0), .s [], .s [], .ts [] 0 (some 0), .ts [.i .i64 (0)] 1 none, .i .i64 (4), .i .i64 (5), .s [], .i .i64 (0), .ts [] 0 (some 0), .i .i64 (0), .i .i64 (0), .s [], .s [], .ts [] 0 (some 0), .ts [] 0 (some 0), .i .i64 (4), .i .i64 (5), .s [], .i .i64 (0), .ts [] 0 (some 0), .i .i64 (0), .i .i64 (0), .s [], .s [], .ts [] 0 (some 0), .ts [] 0 (some 0), .i .i64 (16), .i .i64 (0), .s [], .i .i64 (0), .ts [] 0 (some 0), .i .i64 (0), .i .i64 (0), .s [], .s [], .ts [] 0 (some 0), .ts [] 0 (some 0)] 6 none, .ts [.i .i64 (3), .i .i64 (-1), .i .i64 (0), .s [], .i .i64 (4), .b true, .i .i64 (30)] 1 none, .ts [.i .i64 (4), .ts [.s [97], .b false, .ts [] 0 (some 0)] 1 none] 1 none, .i .i64 (0), .i .i64 (9)], .agg [.i .i64 (0), .ts [] 0 (some 0), .s [], .s [], .s [], .s [], .s [], .s [], .s [], .s [], .s [], .s [], .ts [] 0 (some 0), .i .i64 (0), .i .i64 (0), .i .i64 (-1), .i .i64 (5), .i .i64 (0), .ts [] 0 (some 0), .ts [] 0 (some 0), .ts [.b false, .b false, .b false, .i .i64 (0), .i .i64 (0), .s [], .ts [] 0 (some 0), .s [], .ts [] 0 (some 0), .s [], .s []] 1 (some 1)]]
def Trya.kR13 : V := .b true
theorem Trya.kP13 : PCon UA 24 Trya.kA13 (· = Trya.kR13) := ZS UB (XF Trya.kT13ok (XG Trya.kH10ok Trya.knok)) (n := 200) (by kernel_rfl) (by kernel_rfl)
def Trya.kT14 : Qq := (24, Trya.kA13, Trya.kR13) :: Trya.kT13
theorem Trya.kT14ok : KnowOK UA Trya.kT14 := .cons _ _ _ _ Trya.kP13 Trya.kT13ok
def Trya.kA14 : List V := [.agg [.ts [.i .i64 (11), .i .i64 (-1), .s [], .i .i64 (0), .ts [] 0 (some 0), .i .i64 (0), .i .i64 (0), .s [], .s [], .ts [] 0 (some 0), .ts [] 0 (some 0), .i .i64 (8), .i .i64 (0), .s [], .i .i64 (0), .ts [] 0 (some 0), .i .i64 (0), .i .i64 (0), .s [], .s [], .ts [] 0 (some 0), .ts [] 0 (some 0), .i .i64 (12), .i .i64 (0), .s [], .i .i64 (0), .ts [] 0 (some 0), .i .i64 (0), .i .i64 (0), .s [], .s [], .ts [] 0 (some 0), .ts [.i .i64 (0)] 1 none, .i .i64 (4), .i .i64 (5), .s [], .i .i64 (0), .ts [] 0 (some 0), .i .i64 (0), .i .i64 (0), .s [], .s [], .ts [] 0 (some 0), .ts [] 0 (some 0), .i .i64 (4), .i .i64 (5), .s [], .i .i64 (0), .ts [] 0 (some 0), .i .i64 (0), .i .i64 (0), .s [], .s [], .ts [] 0 (some 0), .ts [] 0 (some 0), .i .i64 (16), .i .i64 (0), .s [], .i .i64 (0), .ts [] 0 (some 0), .i .i64 (0), .i .i64 (0), .s [], .s [], .ts [] 0 (some 0), .ts [] 0 (some 0)] 6 none, .ts [.i .i64 (3), .i .i64 (-1), .i .i64 (0), .s [], .i .i64 (4), .b true, .i .i64 (30)] 1 none, .ts [.i .i64 (4), .ts [.s [97], .b false, .ts [] 0 (some 0)] 1 none] 1 none, .i .i64 (0), .i .i64 (9)], .agg [.i .i64 (1), .ts [] 0 (some 0), .s [], .s [], .s [], .s [], .s [], .s [], .s [], .s [], .s [], .s [], .ts [] 0 (some 0), .i .i64 (0), .i .i64 (0), .i .i64 (-1), .i .i64 (-1), .i .i64 (0), .ts [] 0 (some 0), .ts [] 0 (some 0), .ts [.b false, .b false, .b false, .i .i64 (0), .i .i64 (0), .s [], .ts [] 0 (some 0), .s [], .ts [] 0 (some 0), .s [], .s []] 1 none]]
def Trya.kR14 : V := .b true
theorem Trya.kP14 : PCon UA 24 Trya.kA14 (· = Trya.kR14) := ZS UB (XF Trya.kT14ok (XG Trya.kH10ok Trya.knok)) (n := 200) (by kernel_rfl) (by kernel_rfl)
def Trya.kT15 : Qq := (24, Trya.kA14, Trya.kR14) :: Trya.kT14
theorem Trya.kT15ok : KnowOK UA Trya.kT15 := .cons _ _ _ _ Trya.kP14 Trya.kT14ok
def Trya.kA15 : List V := [.agg [.ts [.i .i64 (11), .i .i64 (-1), .s [], .i .i64 (0), .ts [] 0 (some 0), .i .i64 (0), .i .i64 (0), .s [], .s [], .ts [] 0 (some 0), .ts [] 0 (some 0), .i .i64 (8), .i .i64 (0), .s [], .i .i64 (0), .ts [] 0 (some 0), .i .i64 (0), .i .i64 (0), .s [], .s [], .ts [] 0 (some 0), .ts [] 0 (some 0), .i .i64 (12), .i .i64 (0), .s [], .i .i64 (0), .ts [] 0 (some 0), .i .i64 (0), .i .i64 (0), .s [], .s [], .ts [] 0 (some 0), .ts [.i .i64 (0)] 1 none, .i .i64 (4), .i .i64 (5), .s [], .i .i64 (0), .ts [] 0 (some 0), .i .i64 (0), .i .i64 (0), .s [], .s [], .ts [] 0 (some 0), .ts [] 0 (some 0), .i .i64 (4), .i .i64 (5), .s [], .i .i64 (0), .ts [] 0 (some 0), .i .i64 (0), .i .i64 (0), .s [], .s [], .ts [] 0 (some 0), .ts [] 0 (some 0), .i .i64 (16), .i .i64 (0), .s [], .i .i64 (0), .ts [] 0 (some 0), .i .i64 (0), .i .i64 (0), .s [], .s [], .ts [] 0 (some 0), .ts [] 0 (some 0)] 6 none, .ts [.i .i64 (3), .i .i64 (-1), .i .i64 (0), .s [], .i .i64 (4), .b true, .i .i64 (30)] 1 none, .ts [.i .i64 (4), .ts [.s [97], .b false, .ts [] 0 (some 0)] 1 none] 1 none, .i .i64 (0), .i .i64 (9)], .agg [.i .i64 (2), .ts [] 0 (some 0), .s [], .s [], .s [], .s [], .s [], .s [], .s [], .s [], .s [], .s [], .ts [] 0 (some 0), .i .i64 (0), .i .i64 (0), .i .i64 (0), .i .i64 (-1), .i .i64 (0), .ts [] 0 (some 0), .ts [] 0 (some 0), .ts [.b true, .b false, .b false, .i .i64 (0), .i .i64 (0), .s [], .ts [] 0 (some 0), .s [], .ts [] 0 (some 0), .s [], .s []] 1 none]]
def Trya.kR15 : V := .b true
theorem Trya.kP15 : PCon UA 24 Trya.kA15 (· = Trya.kR15) := ZS UB (XF Trya.kT15ok (XG Trya.kH10ok Trya.knok)) (n := 200) (by kernel_rfl) (by kernel_rfl)
def Trya.kT16 : Qq := (24, Trya.kA15, Trya.kR15) :: Trya.kT15
theorem Trya.kT16ok : KnowOK UA Trya.kT16 := .cons _ _ _ _ Trya.kP15 Trya.kT15ok
def Trya.kA16 : List V := [.agg [.ts [.i .i64 (11), .i .i64 (-1), .s [], .i .i64 (0), .ts [] 0 (some 0), .i .i64 (0), .i .i64 (0), .s [], .s [], .ts [] 0 (some 0), .ts [] 0 (some 0), .i .i64 (8), .i .i64 (0), .s [], .i .i64 (0), .ts [] 0 (some 0), .i .i64 (0), .i .i64 (0), .s [], .s [], .ts [] 0 (some 0), .ts [] 0 (some 0), .i .i64 (12), .i .i64 (0), .s [], .i .i64 (0), .ts [] 0 (some 0), .i .i64 (0), .i .i64 (0), .s [], .s [], .ts [] 0 (some 0), .ts [.i .i64 (0)] 1 none, .i .i64 (4), .i .i64 (5), .s [], .i .i64 (0), .ts [] 0 (some 0), .i .i64 (0), .i .i64 (0), .s [], .s [], .ts [] 0 (some 0), .ts [] 0 (some 0), .i .i64 (4), .i .i64 (5), .s [], .i .i64 (0), .ts [] 0 (some 0), .i .i64 (0), .i .i64 (0), .s [], .s [], .ts [] 0 (some 0), .ts [] 0 (some 0), .i .i64 (16), .i .i64 (0), .s [], .i .i64 (0), .ts [] 0 (some 0), .i .i64 (0), .i .i64 (0), .s [], .s [], .ts [] 0 (some 0), .ts [] 0 (some 0)] 6 none, .ts [.i .i64 (3), .i .i64 (-1), .i .i64 (0), .s [], .i .i64 (4), .b true, .i .i64 (30)] 1 none, .ts [.i .i64 (4), .ts [.s [97], .b false, .ts [] 0 (some 0)] 1 none] 1 none, .i .i64 (0), .i .i64 (9)], .agg [.i .i64 (2), .ts [] 0 (some 0), .s [], .s [], .s [], .s [], .s [], .s [], .s [], .s [], .s [], .s [], .ts [] 0 (some 0), .i .i64 (1), .i .i64 (0), .i .i64 (0), .i .i64 (-1), .i .i64 (0), .ts [] 0 (some 0), .ts [] 0 (some 0), .ts [.b true, .b false, .b false, .i .i64 (0), .i .i64 (0), .s [], .ts [] 0 (some 0), .s [], .ts [] 0 (some 0), .s [], .s []] 1 none]]
def Trya.kR16 : V := .b true
theorem Trya.kP16 : PCon UA 82 Trya.kA16 (· = Trya.kR16) := ZS UB (XF Trya.kT16ok (XG Trya.kH10ok Trya.knok)) (n := 200) (by kernel_rfl) (by kernel_rfl)
def Trya.kT17 : Qq := (82, Trya.kA16, Trya.kR16) :: Trya.kT16
theorem Trya.kT17ok : KnowOK UA Trya.kT17 := .cons _ _ _ _ Trya.kP16 Trya.kT16ok
def Trya.kA17 : List V := [.agg [.b true, .b false, .b false, .i .i64 (0), .i .i64 (0), .s [], .ts [] 0 (some 0), .s [], .ts [] 0 (some 0), .s [], .s []], .agg [.i .i64 (4), .ts [.s [97], .b false, .ts [] 0 (some 0)] 1 none]]
def Trya.kR17 : V := .ts [] 0 (some 0)
theorem Trya.kP17 : PCon UA 220 Trya.kA17 (· = Trya.kR17) := ZS UB (XF Trya.kT17ok (XG Trya.kH10ok Trya.knok)) (n := 200) (by kernel_rfl) (by kernel_rfl)
def Trya.kT18 : Qq := (220, Trya.kA17, Trya.kR17) :: Trya.kT17
theorem Trya.kT18ok : KnowOK UA Trya.kT18 := .cons _ _ _ _ Trya.kP17 Trya.kT17ok
def Trya.kA18 : List V := [.agg [.b true, .b false, .b false, .i .i64 (0), .i .i64 (0), .s [], .ts [] 0 (some 0), .s [], .ts [] 0 (some 0), .s [], .s []], .agg [.i .i64 (4), .ts [.s [97], .b false, .ts [] 0 (some 0)] 1 none]]
def Trya.kR18 : V := .b false
theorem Trya.kP18 : PCon UA 182 Trya.kA18 (· = Trya.kR18) := ZS UB (XF Trya.kT18ok (XG Trya.kH10ok Trya.knok)) (n := 200) (by kernel_rfl) (by kernel_rfl)
def Trya.kT19 : Qq := (182, Trya.kA18, Trya.kR18) :: Trya.kT18
theorem Trya.kT19ok : KnowOK UA Trya.kT19 := .cons _ _ _ _ Trya.kP18 Trya.kT18ok
def Trya.kA19 : List V := [.agg [.ts [.i .i64 (11), .i .i64 (-1), .s [], .i .i64 (0), .ts [] 0 (some 0), .i .i64 (0), .i .i64 (0), .s [], .s [], .ts [] 0 (some 0), .ts [] 0 (some 0), .i .i64 (8), .i .i64 (0), .s [], .i .i64 (0), .ts [] 0 (some 0), .i .i64 (0), .i .i64 (0), .s [], .s [], .ts [] 0 (some 0), .ts [] 0 (some 0), .i .i64 (12), .i .i64 (0), .s [], .i .i64 (0), .ts [] 0 (some 0), .i .i64 (0), .i .i64 (0), .s [], .s [], .ts [] 0 (some 0), .ts [.i .i64 (0)] 1 none, .i .i64 (4), .i .i64 (5), .s [], .i .i64 (0), .ts [] 0 (some 0), .i .i64 (0), .i .i64 (0), .s [], .s [], .ts [] 0 (some 0), .ts [] 0 (some 0), .i .i64 (4), .i .i64 (5), .s [], .i .i64 (0), .ts [] 0 (some 0), .i .i64 (0), .i .i64 (0), .s [], .s [], .ts [] 0 (some 0), .ts [] 0 (some 0), .i .i64 (16), .i .i64 (0), .s [], .i .i64 (0), .ts [] 0 (some 0), .i .i64 (0), .i .i64 (0), .s [], .s [], .ts [] 0 (some 0), .ts [] 0 (some 0)] 6 none, .ts [.i .i64 (3), .i .i64 (-1), .i .i64 (0), .s [], .i .i64 (4), .b true, .i .i64 (30)] 1 none, .ts [.i .i64 (4), .ts [.s [97], .b false, .ts [] 0 (some 0)] 1 none] 1 none, .i .i64 (0), .i .i64 (9)], .agg [.i .i64 (2), .ts [] 0 (some 0), .s [], .s [], .s [], .s [], .s [], .s [], .s [], .s [], .s [], .s [], .ts [] 0 (some 0), .i .i64 (1), .i .i64 (0), .i .i64 (0), .i .i64 (-1), .i .i64 (0), .ts [] 0 (some 0), .ts [] 0 (some 0), .ts [.b true, .b false, .b false, .i .i64 (0), .i .i64 (0), .s [], .ts [] 0 (some 0), .s [], .ts [] 0 (some 0), .s [], .s []] 1 none]]
def Trya.kR19 : V := .i .i64 (1)
theorem Trya.kP19 : PCon UA 12 Trya.kA19 (· = Trya.kR19) := ZS UB (XF Trya.kT19ok (XG Trya.kH10ok Trya.knok)) (n := 200) (by kernel_rfl) (by kernel_rfl)
def Trya.kT20 : Qq := (12, Trya.kA19, Trya.kR19) :: Trya.kT19
theorem Trya.kT20ok : KnowOK UA Trya.kT20 := .cons _ _ _ _ Trya.kP19 Trya.kT19ok
def Trya.kA20 : List V := [.agg [.ts [.i .i64 (11), .i .i64 (-1), .s [], .i .i64 (0), .ts [] 0 (some 0), .i .i64 (0), .i .i64 (0), .s [], .s [], .ts [] 0 (some 0), .ts [] 0 (some 0), .i .i64 (8), .i .i64 (0), .s [], .i .i64 (0), .ts [] 0 (some 0), .i .i64 (0), .i .i64 (0), .s [], .s [], .ts [] 0 (some 0), .ts [] 0 (some 0), .i .i64 (12), .i .i64 (0), .s [], .i .i64 (0), .ts [] 0 (some 0), .i .i64 (0), .i .i64 (0), .s [], .s [], .ts [] 0 (some 0), .ts [.i .i64 (0)] 1 none, .i .i64 (4), .i .i64 (5), .s [], .i .i64 (0), .ts [] 0 (some 0), .i .i64 (0), .i .i64 (0), .s [], .s [], .ts [] 0 (some 0), .ts [] 0 (some 0), .i .i64 (4), .i .i64 (5), .s [], .i .i64 (0), .ts [] 0 (some 0), .i .i64 (0), .i .i64 (0), .s [], .s [], .ts [] 0 (some 0), .ts [] 0 (some 0), .i .i64 (16), .i .i64 (0), .s [], .i .i64 (0), .ts [] 0 (some 0), .i .i64 (0), .i .i64 (0), .s [], .s [], .ts [] 0 (some 0), .ts [] 0 (some 0)] 6 none, .ts [.i .i64 (3), .i .i64 (-1), .i .i64 (0), .s [], .i .i64 (4), .b true, .i .i64 (30)] 1 none, .ts [.i .i64 (4), .ts [.s [97], .b false, .ts [] 0 (some 0)] 1 none] 1 none, .i .i64 (0), .i .i64 (9)], .agg [.i .i64 (0), .ts [] 0 (some 0), .s [], .s [], .s [], .s [], .s [], .s [], .s [], .s [], .s [], .s [], .ts [] 0 (some 0), .i .i64 (0), .i .i64 (0), .i .i64 (-1), .i .i64 (5), .i .i64 (0), .ts [] 0 (some 0), .ts [] 0 (some 0), .ts [.b false, .b false, .b false, .i .i64 (0), .i .i64 (0), .s [], .ts [] 0 (some 0), .s [], .ts [] 0 (some 0), .s [], .s []] 1 (some 1)]]
def Trya.kR20 : V := .i .i64 (0)
theorem Trya.kP20 : PCon UA 12 Trya.kA20 (· = Trya.kR20) := ZS UB (XF Trya.kT20ok (XG Trya.kH10ok Trya.knok)) (n := 200) (by kernel_rfl) (by kernel_rfl)
def Trya.kT21 : Qq := (12, Trya.kA20, Trya.kR20) :: Trya.kT20
theorem Trya.kT21ok : KnowOK UA Trya.kT21 := .cons _ _ _ _ Trya.kP20 Trya.kT20ok
theorem Zri : PCon UA 5 [] (· = .b true) := ZS UB (XF Trya.kT21ok (XG Trya.kH10ok Trya.knok)) (n := 200) (by kernel_rfl) (by kernel_rfl)
end Go.Y
namespace Go.Proofs
open Go.Shelf
def Tryz.lays189_ren : Go.Shelf.Ren := ⟨fun | 189 => 177 | 125 => 219 | 257 => 218 | 128 => 248 | 129 => 249 | 294 => 239 | 295 => 240 | 296 => 241 | 297 => 242 | 298 => 243 | 299 => 244 | 216 => 245 | 300 => 246 | 301 => 247 | 328 => 263 | 329 => 264 | 330 => 265 | 331 => 266 | 332 => 267 | 215 => 268 | 343 => 279 | n => n, fun | 28 => 31 | 3 => 3 | 46 => 297 | 0 => 0 | 51 => 324 | 53 => 196 | 4 => 4 | 183 => 317 | 182 => 316 | 131 => 83 | 5 => 5 | 9 => 9 | 218 => 337 | 222 => 341 | 228 => 347 | 229 => 50 | n => n, fun | n => n⟩
theorem Tryz.lays189 : Go.Proofs.Lays.n189 Tryz.prog Tryz.lays189_ren := {
 mixed := by kernel_rfl
 f125 := Tryz.func219.trans (congrArg some (by kernel_rfl))
 f128 := Tryz.func248.trans (congrArg some (by kernel_rfl))
 f129 := Tryz.func249.trans (congrArg some (by kernel_rfl))
 f189 := Tryz.func177.trans (congrArg some (by kernel_rfl))
 f215 := Tryz.func268.trans (congrArg some (by kernel_rfl))
 f216 := Tryz.func245.trans (congrArg some (by kernel_rfl))
 f257 := Tryz.func218.trans (congrArg some (by kernel_rfl))
 f294 := Tryz.func239.trans (congrArg some (by kernel_rfl))
 f295 := Tryz.func240.trans (congrArg some (by kernel_rfl))
 f296 := Tryz.func241.trans (congrArg some (by kernel_rfl))
 f297 := Tryz.func242.trans (congrArg some (by kernel_rfl))
 f298 := Tryz.func243.trans (congrArg some (by kernel_rfl))
 f299 := Tryz.func244.trans (congrArg some (by kernel_rfl))
 f300 := Tryz.func246.trans (congrArg some (by kernel_rfl))
 f301 := Tryz.func247.trans (congrArg some (by kernel_rfl))
 f328 := Tryz.func263.trans (congrArg some (by kernel_rfl))
 f329 := Tryz.func264.trans (congrArg some (by kernel_rfl))
 f330 := Tryz.func265.trans (congrArg some (by kernel_rfl))
 f331 := Tryz.func266.trans (congrArg some (by kernel_rfl))
 f332 := Tryz.func267.trans (congrArg some (by kernel_rfl))
 f343 := Tryz.func279.trans (congrArg some (by kernel_rfl))
 t0 := Tryz.underlying0
 a0 := Tryz.isAgg0
 z0 := Tryz.sizeOf0
 v0 := Tryz.zeroValue0
 t3 := Tryz.underlying3
 a3 := Tryz.isAgg3
 z3 := Tryz.sizeOf3
 v3 := Tryz.zeroValue3
 t4 := Tryz.underlying4
 a4 := Tryz.isAgg4
 z4 := Tryz.sizeOf4
 v4 := Tryz.zeroValue4
 t5 := Tryz.underlying5
 a5 := Tryz.isAgg5
 z5 := Tryz.sizeOf5
 v5 := Tryz.zeroValue5
 t9 := Tryz.underlying9
 a9 := Tryz.isAgg9
 z9 := Tryz.sizeOf9
 v9 := Tryz.zeroValue9
 t28 := Tryz.underlying31
 a28 := Tryz.isAgg31
 z28 := Tryz.sizeOf31
 v28 := Tryz.zeroValue31
 t46 := Tryz.underlying297
 a46 := Tryz.isAgg297
 z46 := Tryz.sizeOf297
 v46 := Tryz.zeroValue297
 t51 := Tryz.underlying324
 a51 := Tryz.isAgg324
 z51 := Tryz.sizeOf324
 v51 := Tryz.zeroValue324
 t53 := Tryz.underlying196
 a53 := Tryz.isAgg196
 z53 := Tryz.sizeOf196
 v53 := Tryz.zeroValue196
 t131 := Tryz.underlying83
 a131 := Tryz.isAgg83
 z131 := Tryz.sizeOf83
 v131 := Tryz.zeroValue83
 t182 := Tryz.underlying316
 a182 := Tryz.isAgg316
 z182 := Tryz.sizeOf316
 v182 := Tryz.zeroValue316
 t183 := Tryz.underlying317
 a183 := Tryz.isAgg317
 z183 := Tryz.sizeOf317
 v183 := Tryz.zeroValue317
 t218 := Tryz.underlying337
 a218 := Tryz.isAgg337
 z218 := Tryz.sizeOf337
 v218 := Tryz.zeroValue337
 t222 := Tryz.underlying341
 a222 := Tryz.isAgg341
 z222 := Tryz.sizeOf341
 v222 := Tryz.zeroValue341
 t228 := Tryz.underlying347
 a228 := Tryz.isAgg347
 z228 := Tryz.sizeOf347
 v228 := Tryz.zeroValue347
 t229 := Tryz.underlying50
 a229 := Tryz.isAgg50
 z229 := Tryz.sizeOf50
 v229 := Tryz.zeroValue50 }
def Tryz.laysNm220_ren : Go.Shelf.Ren := ⟨fun | 20 => 178 | n => n, fun | 22 => 31 | 3 => 3 | 4 => 4 | 0 => 0 | n => n, fun | n => n⟩
theorem Tryz.laysNm220 : Go.Proofs.Lays2.n20 Tryz.prog Tryz.laysNm220_ren := {
 mixed := by kernel_rfl
 f20 := Tryz.func178.trans (congrArg some (by kernel_rfl))
 t0 := Tryz.underlying0
 a0 := Tryz.isAgg0
 z0 := Tryz.sizeOf0
 v0 := Tryz.zeroValue0
 t3 := Tryz.underlying3
 a3 := Tryz.isAgg3
 z3 := Tryz.sizeOf3
 v3 := Tryz.zeroValue3
 t4 := Tryz.underlying4
 a4 := Tryz.isAgg4
 z4 := Tryz.sizeOf4
 v4 := Tryz.zeroValue4
 t22 := Tryz.underlying31
 a22 := Tryz.isAgg31
 z22 := Tryz.sizeOf31
 v22 := Tryz.zeroValue31
 i3 := by kernel_rfl }
end Go.Proofs
namespace Go.Y
open Go.Proofs
theorem Zrj : XK UY.P 177 := ⟨fun blk off cap zs w h1 h2 h3 => Any.slices_Sort_int Tryz.lays189 blk off cap zs w h1 h2 h3, fun w => Any.slices_Sort_int_none Tryz.lays189 none 0 w⟩
theorem Ziu : ZU UY.P 178 := ⟨fun blk off cap zs w h1 h2 h3 => Any.slices_Compact_int Tryz.laysNm220 blk off cap zs w h1 h2 h3, fun w => Any.slices_Compact_int_empty Tryz.laysNm220 none 0 w⟩
end Go.Y
namespace Go.Y
open Go.Proofs
set_option maxRecDepth 1000000
set_option maxHeartbeats 0
theorem ZAh : PCon UY 5 [] (· = .b true) := by
 obtain ⟨h1, h2⟩ := Zri
 exact ⟨h1, h2⟩
theorem law3 (m : Mdl) (c : Cfg) (hb : c.before.length + c.after.length < 2 ^ 62) : PCon UY 3 [.agg (mdlC m), .agg (cfgC c)] (· = .b true) := ZAc ZAh Zrj Ziu m c hb
end Go.Y
