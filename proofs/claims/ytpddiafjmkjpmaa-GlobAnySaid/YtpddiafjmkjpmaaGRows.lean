/- Shapes of what comes in to the laws. -/
import Derived.Test.YtpddiafjmkjpmaaYTryP
import Derived.Test.YtpddiafjmkjpmaaYRow
namespace Go.Proofs.Ytpddiafjmkjpmaa
open Go.Y Go.RowKit
open Go.Proofs
set_option maxRecDepth 100000

theorem own : ownKnob Try.prog.godebug = none := by kernel_rfl
theorem laidOut : laidOutB Try.prog = true := by kernel_rfl
theorem shp9 {n : Nat} {vs : List V} (h : Shp Try.Y n 9 vs) : ∃ s : List UInt8, vs = [.s s] := by
  obtain ⟨s, h, _⟩ := shp_str (by kernel_rfl) h
  exact ⟨s, h⟩
theorem served9 : ∀ n, servedB Try.Y n 9 = true
  | 0 => by kernel_rfl
  | n + 1 => by kernel_rfl
end Go.Proofs.Ytpddiafjmkjpmaa
