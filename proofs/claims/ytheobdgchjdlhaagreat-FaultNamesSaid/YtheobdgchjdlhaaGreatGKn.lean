/- Layer 33's own test runs, by running the code. -/
import Derived.Test.YtheobdgchjdlhaaGreatYTryzP
import Derived.Test.YtheobdgchjdlhaaGreatYZ
import Derived.Test.YtheobdgchjdlhaaGreatGKnow
namespace Go.Y
open Go.Proofs
set_option maxRecDepth 100000

def Tryz.kn (_ : FuncId) (_ : List V) (_ : Heap) : Option (V × Heap) := none
theorem Tryz.mode5 {f : Nat} (h : Tryz.Y.mode f = 5) : False := by
  have hall : (Tryz.modes.all fun p => p != 5) = true := by kernel_rfl
  have h2 : Tryz.modes.getD f 0 = 5 := h
  rw [List.getD_eq_getElem?_getD] at h2
  cases h3 : Tryz.modes[f]? with
  | none => rw [h3] at h2; cases h2
  | some m =>
    rw [h3] at h2
    rw [List.all_eq_true] at hall
    have := hall m (List.mem_of_getElem? h3)
    have h2 : m = 5 := h2
    subst h2
    simp at this
theorem Tryz.knok : KOK Tryz.Y Tryz.kn := by
  refine ⟨fun f args h v h' hv => ?_, fun f args h v x hm _ => (Tryz.mode5 hm).elim⟩
  unfold Tryz.kn at hv
  cases hv
end Go.Y

/- A closed run, in parts: printed by program. -/
namespace Go.Y
open Go.Proofs
set_option maxRecDepth 1000000
def Tryz.kT0 : Known := []
theorem Tryz.kT0ok : KnowOK Tryz.Y Tryz.kT0 := .nil
def Tryz.kH0 : List KnH := []
theorem Tryz.kH0ok : KnHOK Tryz.Y Tryz.kH0 := .nil
def Tryz.kA0 : List V := [.s [99, 97, 112, 32, 52, 32, 97, 116, 32, 97, 32, 123, 125], .i .i64 (0)]
def Tryz.kR0 : V := .tup [.agg [.i .i64 (1), .s [99, 97, 112], .i .i64 (0), .ts [] 0 (some 0), .i .i64 (0)], .i .i64 (3), .i .i64 (0), .i .i64 (0)]
theorem Tryz.kP0 : PCon Tryz.Y 80 Tryz.kA0 (· = Tryz.kR0) := callN_ok Tryz.Yok (knT_ok Tryz.kT0ok (knH_ok Tryz.kH0ok Tryz.knok)) (n := 200) (by kernel_rfl) (by kernel_rfl)
def Tryz.kT1 : Known := (80, Tryz.kA0, Tryz.kR0) :: Tryz.kT0
theorem Tryz.kT1ok : KnowOK Tryz.Y Tryz.kT1 := .cons _ _ _ _ Tryz.kP0 Tryz.kT0ok
def Tryz.kA1 : List V := [.s [99, 97, 112, 32, 52, 32, 97, 116, 32, 97, 32, 123, 125], .i .i64 (11)]
def Tryz.kR1 : V := .tup [.agg [.i .i64 (4), .s [123], .i .i64 (0), .ts [] 0 (some 0), .i .i64 (11)], .i .i64 (12), .i .i64 (0), .i .i64 (0)]
theorem Tryz.kP1 : PCon Tryz.Y 80 Tryz.kA1 (· = Tryz.kR1) := callN_ok Tryz.Yok (knT_ok Tryz.kT1ok (knH_ok Tryz.kH0ok Tryz.knok)) (n := 200) (by kernel_rfl) (by kernel_rfl)
def Tryz.kT2 : Known := (80, Tryz.kA1, Tryz.kR1) :: Tryz.kT1
theorem Tryz.kT2ok : KnowOK Tryz.Y Tryz.kT2 := .cons _ _ _ _ Tryz.kP1 Tryz.kT1ok
def Tryz.kA2 : List V := [.s [99, 97, 112, 32, 52, 32, 97, 116, 32, 97, 32, 123, 125], .i .i64 (12)]
def Tryz.kR2 : V := .tup [.agg [.i .i64 (4), .s [125], .i .i64 (0), .ts [] 0 (some 0), .i .i64 (12)], .i .i64 (13), .i .i64 (0), .i .i64 (0)]
theorem Tryz.kP2 : PCon Tryz.Y 80 Tryz.kA2 (· = Tryz.kR2) := callN_ok Tryz.Yok (knT_ok Tryz.kT2ok (knH_ok Tryz.kH0ok Tryz.knok)) (n := 200) (by kernel_rfl) (by kernel_rfl)
def Tryz.kT3 : Known := (80, Tryz.kA2, Tryz.kR2) :: Tryz.kT2
theorem Tryz.kT3ok : KnowOK Tryz.Y Tryz.kT3 := .cons _ _ _ _ Tryz.kP2 Tryz.kT2ok
def Tryz.kA3 : List V := [.s [99, 97, 112, 32, 52, 32, 97, 116, 32, 97, 32, 123, 125]]
def Tryz.kR3 : V := .tup [.ts [.i .i64 (1), .s [99, 97, 112], .i .i64 (0), .ts [] 0 (some 0), .i .i64 (0), .i .i64 (2), .s [], .i .i64 (4), .ts [] 0 (some 0), .i .i64 (4), .i .i64 (1), .s [97, 116], .i .i64 (0), .ts [] 0 (some 0), .i .i64 (6), .i .i64 (1), .s [97], .i .i64 (0), .ts [] 0 (some 0), .i .i64 (9), .i .i64 (4), .s [123], .i .i64 (0), .ts [] 0 (some 0), .i .i64 (11), .i .i64 (4), .s [125], .i .i64 (0), .ts [] 0 (some 0), .i .i64 (12)] 6 none, .i .i64 (0), .i .i64 (0)]
theorem Tryz.kP3 : PCon Tryz.Y 34 Tryz.kA3 (· = Tryz.kR3) := callN_ok Tryz.Yok (knT_ok Tryz.kT3ok (knH_ok Tryz.kH0ok Tryz.knok)) (n := 200) (by kernel_rfl) (by kernel_rfl)
def Tryz.kT4 : Known := (34, Tryz.kA3, Tryz.kR3) :: Tryz.kT3
theorem Tryz.kT4ok : KnowOK Tryz.Y Tryz.kT4 := .cons _ _ _ _ Tryz.kP3 Tryz.kT3ok
end Go.Y

/- A closed run, in parts: printed by program. -/
namespace Go.Y
open Go.Proofs
set_option maxRecDepth 1000000
def Tryz.kA4 : List V := [.s [99, 97, 112, 32, 52, 32, 97, 116, 32, 97, 32, 123, 125]]
def Tryz.kR4 : V := .tup [.agg [.i .i64 (4), .ts [.s [97], .b false, .ts [] 0 (some 0)] 1 none], .i .i64 (0), .i .i64 (0)]
theorem Tryz.kP4 : PCon Tryz.Y 12 Tryz.kA4 (· = Tryz.kR4) := callN_ok Tryz.Yok (knT_ok Tryz.kT4ok (knH_ok Tryz.kH0ok Tryz.knok)) (n := 200) (by kernel_rfl) (by kernel_rfl)
def Tryz.kT5 : Known := (12, Tryz.kA4, Tryz.kR4) :: Tryz.kT4
theorem Tryz.kT5ok : KnowOK Tryz.Y Tryz.kT5 := .cons _ _ _ _ Tryz.kP4 Tryz.kT4ok
def Tryz.kA5 : List V := [.s [116, 105, 109, 101, 111, 117, 116, 32, 110, 101, 118, 101, 114, 32, 115, 112, 97, 119, 110, 32, 48, 32, 101, 120, 112, 101, 99, 116, 32, 123, 101, 111, 102, 32, 123, 125, 125], .i .i64 (0), .b false]
def Tryz.kR5 : V := .i .i64 (7)
theorem Tryz.kP5 : PCon Tryz.Y 123 Tryz.kA5 (· = Tryz.kR5) := callN_ok Tryz.Yok (knT_ok Tryz.kT5ok (knH_ok Tryz.kH0ok Tryz.knok)) (n := 200) (by kernel_rfl) (by kernel_rfl)
def Tryz.kT6 : Known := (123, Tryz.kA5, Tryz.kR5) :: Tryz.kT5
theorem Tryz.kT6ok : KnowOK Tryz.Y Tryz.kT6 := .cons _ _ _ _ Tryz.kP5 Tryz.kT5ok
def Tryz.kA6 : List V := [.s [116, 105, 109, 101, 111, 117, 116, 32, 110, 101, 118, 101, 114, 32, 115, 112, 97, 119, 110, 32, 48, 32, 101, 120, 112, 101, 99, 116, 32, 123, 101, 111, 102, 32, 123, 125, 125], .i .i64 (0)]
def Tryz.kR6 : V := .tup [.agg [.i .i64 (1), .s [116, 105, 109, 101, 111, 117, 116], .i .i64 (0), .ts [] 0 (some 0), .i .i64 (0)], .i .i64 (7), .i .i64 (0), .i .i64 (0)]
theorem Tryz.kP6 : PCon Tryz.Y 80 Tryz.kA6 (· = Tryz.kR6) := callN_ok Tryz.Yok (knT_ok Tryz.kT6ok (knH_ok Tryz.kH0ok Tryz.knok)) (n := 200) (by kernel_rfl) (by kernel_rfl)
def Tryz.kT7 : Known := (80, Tryz.kA6, Tryz.kR6) :: Tryz.kT6
theorem Tryz.kT7ok : KnowOK Tryz.Y Tryz.kT7 := .cons _ _ _ _ Tryz.kP6 Tryz.kT6ok
def Tryz.kA7 : List V := [.s [116, 105, 109, 101, 111, 117, 116, 32, 110, 101, 118, 101, 114, 32, 115, 112, 97, 119, 110, 32, 48, 32, 101, 120, 112, 101, 99, 116, 32, 123, 101, 111, 102, 32, 123, 125, 125], .i .i64 (8), .b false]
def Tryz.kR7 : V := .i .i64 (13)
theorem Tryz.kP7 : PCon Tryz.Y 123 Tryz.kA7 (· = Tryz.kR7) := callN_ok Tryz.Yok (knT_ok Tryz.kT7ok (knH_ok Tryz.kH0ok Tryz.knok)) (n := 200) (by kernel_rfl) (by kernel_rfl)
def Tryz.kT8 : Known := (123, Tryz.kA7, Tryz.kR7) :: Tryz.kT7
theorem Tryz.kT8ok : KnowOK Tryz.Y Tryz.kT8 := .cons _ _ _ _ Tryz.kP7 Tryz.kT7ok
def Tryz.kA8 : List V := [.s [116, 105, 109, 101, 111, 117, 116, 32, 110, 101, 118, 101, 114, 32, 115, 112, 97, 119, 110, 32, 48, 32, 101, 120, 112, 101, 99, 116, 32, 123, 101, 111, 102, 32, 123, 125, 125], .i .i64 (8)]
def Tryz.kR8 : V := .tup [.agg [.i .i64 (1), .s [110, 101, 118, 101, 114], .i .i64 (0), .ts [] 0 (some 0), .i .i64 (8)], .i .i64 (13), .i .i64 (0), .i .i64 (0)]
theorem Tryz.kP8 : PCon Tryz.Y 80 Tryz.kA8 (· = Tryz.kR8) := callN_ok Tryz.Yok (knT_ok Tryz.kT8ok (knH_ok Tryz.kH0ok Tryz.knok)) (n := 200) (by kernel_rfl) (by kernel_rfl)
def Tryz.kT9 : Known := (80, Tryz.kA8, Tryz.kR8) :: Tryz.kT8
theorem Tryz.kT9ok : KnowOK Tryz.Y Tryz.kT9 := .cons _ _ _ _ Tryz.kP8 Tryz.kT8ok
def Tryz.kA9 : List V := [.s [116, 105, 109, 101, 111, 117, 116, 32, 110, 101, 118, 101, 114, 32, 115, 112, 97, 119, 110, 32, 48, 32, 101, 120, 112, 101, 99, 116, 32, 123, 101, 111, 102, 32, 123, 125, 125], .i .i64 (14), .b false]
def Tryz.kR9 : V := .i .i64 (19)
theorem Tryz.kP9 : PCon Tryz.Y 123 Tryz.kA9 (· = Tryz.kR9) := callN_ok Tryz.Yok (knT_ok Tryz.kT9ok (knH_ok Tryz.kH0ok Tryz.knok)) (n := 200) (by kernel_rfl) (by kernel_rfl)
def Tryz.kT10 : Known := (123, Tryz.kA9, Tryz.kR9) :: Tryz.kT9
theorem Tryz.kT10ok : KnowOK Tryz.Y Tryz.kT10 := .cons _ _ _ _ Tryz.kP9 Tryz.kT9ok
def Tryz.kA10 : List V := [.s [116, 105, 109, 101, 111, 117, 116, 32, 110, 101, 118, 101, 114, 32, 115, 112, 97, 119, 110, 32, 48, 32, 101, 120, 112, 101, 99, 116, 32, 123, 101, 111, 102, 32, 123, 125, 125], .i .i64 (14)]
def Tryz.kR10 : V := .tup [.agg [.i .i64 (1), .s [115, 112, 97, 119, 110], .i .i64 (0), .ts [] 0 (some 0), .i .i64 (14)], .i .i64 (19), .i .i64 (0), .i .i64 (0)]
theorem Tryz.kP10 : PCon Tryz.Y 80 Tryz.kA10 (· = Tryz.kR10) := callN_ok Tryz.Yok (knT_ok Tryz.kT10ok (knH_ok Tryz.kH0ok Tryz.knok)) (n := 200) (by kernel_rfl) (by kernel_rfl)
def Tryz.kT11 : Known := (80, Tryz.kA10, Tryz.kR10) :: Tryz.kT10
theorem Tryz.kT11ok : KnowOK Tryz.Y Tryz.kT11 := .cons _ _ _ _ Tryz.kP10 Tryz.kT10ok
def Tryz.kA11 : List V := [.s [116, 105, 109, 101, 111, 117, 116, 32, 110, 101, 118, 101, 114, 32, 115, 112, 97, 119, 110, 32, 48, 32, 101, 120, 112, 101, 99, 116, 32, 123, 101, 111, 102, 32, 123, 125, 125], .i .i64 (22), .b false]
def Tryz.kR11 : V := .i .i64 (28)
theorem Tryz.kP11 : PCon Tryz.Y 123 Tryz.kA11 (· = Tryz.kR11) := callN_ok Tryz.Yok (knT_ok Tryz.kT11ok (knH_ok Tryz.kH0ok Tryz.knok)) (n := 200) (by kernel_rfl) (by kernel_rfl)
def Tryz.kT12 : Known := (123, Tryz.kA11, Tryz.kR11) :: Tryz.kT11
theorem Tryz.kT12ok : KnowOK Tryz.Y Tryz.kT12 := .cons _ _ _ _ Tryz.kP11 Tryz.kT11ok
def Tryz.kA12 : List V := [.s [116, 105, 109, 101, 111, 117, 116, 32, 110, 101, 118, 101, 114, 32, 115, 112, 97, 119, 110, 32, 48, 32, 101, 120, 112, 101, 99, 116, 32, 123, 101, 111, 102, 32, 123, 125, 125], .i .i64 (22)]
def Tryz.kR12 : V := .tup [.agg [.i .i64 (1), .s [101, 120, 112, 101, 99, 116], .i .i64 (0), .ts [] 0 (some 0), .i .i64 (22)], .i .i64 (28), .i .i64 (0), .i .i64 (0)]
theorem Tryz.kP12 : PCon Tryz.Y 80 Tryz.kA12 (· = Tryz.kR12) := callN_ok Tryz.Yok (knT_ok Tryz.kT12ok (knH_ok Tryz.kH0ok Tryz.knok)) (n := 200) (by kernel_rfl) (by kernel_rfl)
def Tryz.kT13 : Known := (80, Tryz.kA12, Tryz.kR12) :: Tryz.kT12
theorem Tryz.kT13ok : KnowOK Tryz.Y Tryz.kT13 := .cons _ _ _ _ Tryz.kP12 Tryz.kT12ok
end Go.Y
