/- A closed run, in parts: printed by program. -/
import Derived.Test.YtheobdgchjdlhaaGreatFAw5
namespace Go.Y
open Go.Proofs
set_option maxRecDepth 1000000
def Tryz.kA24 : List V := [.agg [.i .i64 (11), .s [], .i .i64 (-1), .ts [] 0 (some 0), .i .i64 (0), .i .i64 (0), .s [], .s [], .ts [] 0 (some 0), .ts [] 0 (some 0), .ts [] 0 (some 0), .ts [] 0 (some 0), .i .i64 (0)], .i .i64 (0)]
def Tryz.kR24 : V := .b true
theorem Tryz.kP24 : PCon Tryz.Y 137 Tryz.kA24 (· = Tryz.kR24) := callN_ok Tryz.Yok (knT_ok Tryz.kT24ok (knH_ok Tryz.kH23ok Tryz.knok)) (n := 200) (by kernel_rfl) (by kernel_rfl)
def Tryz.kT25 : Known := (137, Tryz.kA24, Tryz.kR24) :: Tryz.kT24
theorem Tryz.kT25ok : KnowOK Tryz.Y Tryz.kT25 := .cons _ _ _ _ Tryz.kP24 Tryz.kT24ok
def Tryz.kA25 : List V := [.agg [.i .i64 (8), .s [], .i .i64 (0), .ts [] 0 (some 0), .i .i64 (0), .i .i64 (0), .s [], .s [], .ts [] 0 (some 0), .ts [] 0 (some 0), .ts [] 0 (some 0), .ts [] 0 (some 0), .i .i64 (14)], .i .i64 (0)]
def Tryz.kR25 : V := .b true
theorem Tryz.kP25 : PCon Tryz.Y 137 Tryz.kA25 (· = Tryz.kR25) := callN_ok Tryz.Yok (knT_ok Tryz.kT25ok (knH_ok Tryz.kH23ok Tryz.knok)) (n := 200) (by kernel_rfl) (by kernel_rfl)
def Tryz.kT26 : Known := (137, Tryz.kA25, Tryz.kR25) :: Tryz.kT25
theorem Tryz.kT26ok : KnowOK Tryz.Y Tryz.kT26 := .cons _ _ _ _ Tryz.kP25 Tryz.kT25ok
def Tryz.kA26 : List V := [.agg [.i .i64 (12), .s [], .i .i64 (0), .ts [] 0 (some 0), .i .i64 (0), .i .i64 (0), .s [], .s [], .ts [] 0 (some 0), .ts [] 0 (some 0), .ts [] 0 (some 0), .ts [.i .i64 (3), .i .i64 (-1), .i .i64 (0), .s [], .ts [] 0 (some 0), .i .i64 (30)] 1 none, .i .i64 (22)], .i .i64 (0)]
def Tryz.kR26 : V := .b true
theorem Tryz.kP26 : PCon Tryz.Y 137 Tryz.kA26 (· = Tryz.kR26) := callN_ok Tryz.Yok (knT_ok Tryz.kT26ok (knH_ok Tryz.kH23ok Tryz.knok)) (n := 200) (by kernel_rfl) (by kernel_rfl)
def Tryz.kT27 : Known := (137, Tryz.kA26, Tryz.kR26) :: Tryz.kT26
theorem Tryz.kT27ok : KnowOK Tryz.Y Tryz.kT27 := .cons _ _ _ _ Tryz.kP26 Tryz.kT26ok
def Tryz.kA27 : List V := [.ts [.i .i64 (11), .s [], .i .i64 (-1), .ts [] 0 (some 0), .i .i64 (0), .i .i64 (0), .s [], .s [], .ts [] 0 (some 0), .ts [] 0 (some 0), .ts [] 0 (some 0), .ts [] 0 (some 0), .i .i64 (0), .i .i64 (8), .s [], .i .i64 (0), .ts [] 0 (some 0), .i .i64 (0), .i .i64 (0), .s [], .s [], .ts [] 0 (some 0), .ts [] 0 (some 0), .ts [] 0 (some 0), .ts [] 0 (some 0), .i .i64 (14), .i .i64 (12), .s [], .i .i64 (0), .ts [] 0 (some 0), .i .i64 (0), .i .i64 (0), .s [], .s [], .ts [] 0 (some 0), .ts [] 0 (some 0), .ts [] 0 (some 0), .ts [.i .i64 (3), .i .i64 (-1), .i .i64 (0), .s [], .ts [] 0 (some 0), .i .i64 (30)] 1 none, .i .i64 (22)] 3 none, .i .i64 (0)]
def Tryz.kR27 : V := .b true
theorem Tryz.kP27 : PCon Tryz.Y 88 Tryz.kA27 (· = Tryz.kR27) := callN_ok Tryz.Yok (knT_ok Tryz.kT27ok (knH_ok Tryz.kH23ok Tryz.knok)) (n := 200) (by kernel_rfl) (by kernel_rfl)
def Tryz.kT28 : Known := (88, Tryz.kA27, Tryz.kR27) :: Tryz.kT27
theorem Tryz.kT28ok : KnowOK Tryz.Y Tryz.kT28 := .cons _ _ _ _ Tryz.kP27 Tryz.kT27ok
def Tryz.kA28 : List V := [.ts [.i .i64 (11), .s [], .i .i64 (-1), .ts [] 0 (some 0), .i .i64 (0), .i .i64 (0), .s [], .s [], .ts [] 0 (some 0), .ts [] 0 (some 0), .ts [] 0 (some 0), .ts [] 0 (some 0), .i .i64 (0), .i .i64 (8), .s [], .i .i64 (0), .ts [] 0 (some 0), .i .i64 (0), .i .i64 (0), .s [], .s [], .ts [] 0 (some 0), .ts [] 0 (some 0), .ts [] 0 (some 0), .ts [] 0 (some 0), .i .i64 (14), .i .i64 (12), .s [], .i .i64 (0), .ts [] 0 (some 0), .i .i64 (0), .i .i64 (0), .s [], .s [], .ts [] 0 (some 0), .ts [] 0 (some 0), .ts [] 0 (some 0), .ts [.i .i64 (3), .i .i64 (-1), .i .i64 (0), .s [], .ts [] 0 (some 0), .i .i64 (30)] 1 none, .i .i64 (22)] 3 none, .i .i64 (8)]
def Tryz.kR28 : V := .tup [.i .i64 (0), .i .i64 (0)]
theorem Tryz.kP28 : PCon Tryz.Y 45 Tryz.kA28 (· = Tryz.kR28) := callN_ok Tryz.Yok (knT_ok Tryz.kT28ok (knH_ok Tryz.kH23ok Tryz.knok)) (n := 200) (by kernel_rfl) (by kernel_rfl)
def Tryz.kT29 : Known := (45, Tryz.kA28, Tryz.kR28) :: Tryz.kT28
theorem Tryz.kT29ok : KnowOK Tryz.Y Tryz.kT29 := .cons _ _ _ _ Tryz.kP28 Tryz.kT28ok
def Tryz.kA29 : List V := [.ts [.i .i64 (11), .s [], .i .i64 (-1), .ts [] 0 (some 0), .i .i64 (0), .i .i64 (0), .s [], .s [], .ts [] 0 (some 0), .ts [] 0 (some 0), .ts [] 0 (some 0), .ts [] 0 (some 0), .i .i64 (0), .i .i64 (8), .s [], .i .i64 (0), .ts [] 0 (some 0), .i .i64 (0), .i .i64 (0), .s [], .s [], .ts [] 0 (some 0), .ts [] 0 (some 0), .ts [] 0 (some 0), .ts [] 0 (some 0), .i .i64 (14), .i .i64 (12), .s [], .i .i64 (0), .ts [] 0 (some 0), .i .i64 (0), .i .i64 (0), .s [], .s [], .ts [] 0 (some 0), .ts [] 0 (some 0), .ts [] 0 (some 0), .ts [.i .i64 (3), .i .i64 (-1), .i .i64 (0), .s [], .ts [] 0 (some 0), .i .i64 (30)] 1 none, .i .i64 (22)] 3 none]
def Tryz.kR29 : V := .tup [.agg [.ts [.i .i64 (11), .i .i64 (-1), .s [], .i .i64 (0), .ts [] 0 (some 0), .i .i64 (0), .i .i64 (0), .s [], .s [], .ts [] 0 (some 0), .ts [] 0 (some 0), .i .i64 (8), .i .i64 (0), .s [], .i .i64 (0), .ts [] 0 (some 0), .i .i64 (0), .i .i64 (0), .s [], .s [], .ts [] 0 (some 0), .ts [] 0 (some 0), .i .i64 (12), .i .i64 (0), .s [], .i .i64 (0), .ts [] 0 (some 0), .i .i64 (0), .i .i64 (0), .s [], .s [], .ts [] 0 (some 0), .ts [.i .i64 (0)] 1 none, .i .i64 (4), .i .i64 (5), .s [], .i .i64 (0), .ts [] 0 (some 0), .i .i64 (0), .i .i64 (0), .s [], .s [], .ts [] 0 (some 0), .ts [] 0 (some 0), .i .i64 (4), .i .i64 (5), .s [], .i .i64 (0), .ts [] 0 (some 0), .i .i64 (0), .i .i64 (0), .s [], .s [], .ts [] 0 (some 0), .ts [] 0 (some 0), .i .i64 (16), .i .i64 (0), .s [], .i .i64 (0), .ts [] 0 (some 0), .i .i64 (0), .i .i64 (0), .s [], .s [], .ts [] 0 (some 0), .ts [] 0 (some 0)] 6 none, .ts [.i .i64 (3), .i .i64 (-1), .i .i64 (0), .s [], .i .i64 (4), .b true, .i .i64 (30)] 1 none], .i .i64 (0)]
theorem Tryz.kP29 : PCon Tryz.Y 14 Tryz.kA29 (· = Tryz.kR29) := callN_ok Tryz.Yok (knT_ok Tryz.kT29ok (knH_ok Tryz.kH23ok Tryz.knok)) (n := 200) (by kernel_rfl) (by kernel_rfl)
def Tryz.kT30 : Known := (14, Tryz.kA29, Tryz.kR29) :: Tryz.kT29
theorem Tryz.kT30ok : KnowOK Tryz.Y Tryz.kT30 := .cons _ _ _ _ Tryz.kP29 Tryz.kT29ok
end Go.Y
