/- Shapes of what comes in to the laws. -/
import Derived.Test.YtpddiafjmkjpmaaYTryP
import Derived.Test.YtpddiafjmkjpmaaYRow
import Derived.Test.YtpddiafjmkjpmaaGSpec
namespace Go.Proofs.Ytpddiafjmkjpmaa
open Go.Y Go.RowKit
open Go.Proofs
set_option maxRecDepth 100000

theorem own : ownKnob Try.prog.godebug = none := by kernel_rfl
theorem laidOut : laidOutB Try.prog = true := by kernel_rfl
theorem shp9 {n : Nat} {vs : List V} (h : Shp Try.Y n 9 vs) : ∃ s : List UInt8, vs = [.s s] := by
  obtain ⟨s, h, _⟩ := shp_str (by kernel_rfl) h
  exact ⟨s, h⟩
theorem served9 : ∀ n, servedB Try.Y n 9 = true
  | 0 => by kernel_rfl
  | n + 1 => by kernel_rfl
theorem shp82 {n : Nat} {vs : List V} (h : Shp Try.Y n 82 vs) : ∃ x : Span, vs = encS x := by
  obtain ⟨m, rfl, h⟩ := shp_struct (show Try.Y.kd 82 = some (.struct [(0, 5), (1, 5)]) by kernel_rfl) h
  obtain ⟨a, b, rfl, ha, c, d, rfl, hc, rfl⟩ := h
  obtain ⟨k, rfl, _⟩ := shp_int (show Try.Y.kd 5 = some (.int .u8) by kernel_rfl) ha
  obtain ⟨p, rfl, _⟩ := shp_int (show Try.Y.kd 5 = some (.int .u8) by kernel_rfl) hc
  exact ⟨⟨k, p⟩, rfl⟩
theorem shp75 {n : Nat} {vs : List V} (h : Shp Try.Y n 75 vs) : ∃ l : List Span, vs = [lst encS l] := by
  obtain ⟨m, es, rfl, rfl, h, _⟩ := shp_slice (show Try.Y.kd 75 = some (.slice 82) by kernel_rfl) h
  obtain ⟨l, hl⟩ := list_of (f := encS) fun x hx => shp82 (h x hx)
  simp at hl
  subst hl
  exact ⟨l, by simp [lst, row]⟩
theorem shp77 {n : Nat} {vs : List V} (h : Shp Try.Y n 77 vs) : ∃ x : Glob, vs = encG x := by
  obtain ⟨m, rfl, h⟩ := shp_struct (show Try.Y.kd 77 = some (.struct [(0, 3), (1, 5), (2, 75)]) by kernel_rfl) h
  obtain ⟨a, b, rfl, ha, c, d, rfl, hc, e, f, rfl, he, rfl⟩ := h
  obtain ⟨k, rfl, _⟩ := shp_int (show Try.Y.kd 3 = some (.int .i64) by kernel_rfl) ha
  obtain ⟨p, rfl, _⟩ := shp_int (show Try.Y.kd 5 = some (.int .u8) by kernel_rfl) hc
  obtain ⟨l, rfl⟩ := shp75 he
  exact ⟨⟨k, p, l⟩, rfl⟩
theorem shp23 {n : Nat} {vs : List V} (h : Shp Try.Y n 23 vs) : ∃ l : List Glob, vs = [lst encG l] := by
  obtain ⟨m, es, rfl, rfl, h, _⟩ := shp_slice (show Try.Y.kd 23 = some (.slice 77) by kernel_rfl) h
  obtain ⟨l, hl⟩ := list_of (f := encG) fun x hx => shp77 (h x hx)
  simp at hl
  subst hl
  exact ⟨l, by simp [lst, row]⟩
theorem shp5 {n : Nat} {vs : List V} (h : Shp Try.Y n 5 vs) : ∃ x : Int, vs = [.i .u8 x] ∧ 0 ≤ x ∧ x ≤ 255 := by
  obtain ⟨x, rfl, hw⟩ := shp_int (show Try.Y.kd 5 = some (.int .u8) by kernel_rfl) h
  refine ⟨x, rfl, ?_⟩
  have h1 : IntKind.u8.min = 0 := by decide
  have h2 : IntKind.u8.max = 255 := by decide
  simp [Lit.wf, h1, h2] at hw
  omega
theorem served5 : ∀ n, servedB Try.Y n 5 = true
  | 0 => by kernel_rfl
  | n + 1 => by kernel_rfl
theorem served23 : ∀ n, servedB Try.Y n 23 = true
  | 0 => by kernel_rfl
  | 1 => by kernel_rfl
  | 2 => by kernel_rfl
  | 3 => by kernel_rfl
  | 4 => by kernel_rfl
  | n + 5 => by kernel_rfl
end Go.Proofs.Ytpddiafjmkjpmaa
