/- Shapes of automata that come in to the law. -/
import Derived.Test.YtlnpmefmmiacaaaGreatDoorGN2
import Derived.Test.YtlnpmefmmiacaaaGreatDoorYRow
namespace Go.Proofs.YtlnpmefmmiacaaaGreatDoor
open Go.Y Go.RowKit
open Go.Proofs
set_option maxRecDepth 100000

theorem own : ownKnob Tryz.prog.godebug = none := by kernel_rfl
theorem laidOut : laidOutB Tryz.prog = true := by kernel_rfl
theorem shp3 {n : Nat} {vs : List V} (h : Shp Tryz.Y n 3 vs) : ∃ x : Int, vs = encI x := by
  obtain ⟨x, rfl, _⟩ := shp_int (show Tryz.Y.kd 3 = some (.int .i64) by kernel_rfl) h
  exact ⟨x, rfl⟩
theorem shp4 {n : Nat} {vs : List V} (h : Shp Tryz.Y n 4 vs) : ∃ x : Bool, vs = [.b x] := shp_bool (show Tryz.Y.kd 4 = some .bool by kernel_rfl) h
theorem shp9 {n : Nat} {vs : List V} (h : Shp Tryz.Y n 9 vs) : ∃ s : List UInt8, vs = [.s s] := by
  obtain ⟨s, h, _⟩ := shp_str (by kernel_rfl) h
  exact ⟨s, h⟩
theorem shp35 {n : Nat} {vs : List V} (h : Shp Tryz.Y n 35 vs) : ∃ x : Int, vs = [.i .u64 x] ∧ 0 ≤ x := by
  obtain ⟨x, rfl, hw⟩ := shp_int (show Tryz.Y.kd 35 = some (.int .u64) by kernel_rfl) h
  refine ⟨x, rfl, ?_⟩
  simp only [Lit.wf, Bool.and_eq_true, decide_eq_true_eq] at hw
  have : IntKind.u64.min = 0 := rfl
  omega
theorem shp37 {n : Nat} {vs : List V} (h : Shp Tryz.Y n 37 vs) : ∃ x : {x : Set4 // okS x}, vs = encS4 x.1 := by
  cases n with
  | zero => exact h.elim
  | succ n =>
    have hk : Tryz.Y.kd 37 = some (.arr 4 35) := by kernel_rfl
    obtain ⟨es, rfl, h4, hes⟩ := (by simpa [Shp, hk] using h : ∃ es : List (List V), vs = es.flatten ∧ es.length = 4 ∧ ∀ x ∈ es, Shp Tryz.Y n 35 x)
    match es, h4, hes with
    | [a, b, c, d], _, hes =>
      obtain ⟨x0, rfl, p0⟩ := shp35 (hes a (by simp))
      obtain ⟨x1, rfl, p1⟩ := shp35 (hes b (by simp))
      obtain ⟨x2, rfl, p2⟩ := shp35 (hes c (by simp))
      obtain ⟨x3, rfl, p3⟩ := shp35 (hes d (by simp))
      exact ⟨⟨(x0, x1, x2, x3), p0, p1, p2, p3⟩, rfl⟩
theorem shp22 {n : Nat} {vs : List V} (h : Shp Tryz.Y n 22 vs) : ∃ l : List Set4, vs = [lst encS4 l] ∧ ∀ x ∈ l, okS x := by
  obtain ⟨m, es, rfl, rfl, h, _⟩ := shp_slice (show Tryz.Y.kd 22 = some (.slice 37) by kernel_rfl) h
  obtain ⟨l, hl⟩ := list_of (f := fun x : {x : Set4 // okS x} => encS4 x.1) fun x hx => shp37 (h x hx)
  simp at hl
  subst hl
  refine ⟨l.unattach, by simp [lst, row], fun x hx => ?_⟩
  obtain ⟨h, _⟩ := List.mem_unattach.1 hx
  exact h
theorem shp23 {n : Nat} {vs : List V} (h : Shp Tryz.Y n 23 vs) : ∃ l : List Int, vs = [lst encI l] := by
  obtain ⟨m, es, rfl, rfl, h, _⟩ := shp_slice (show Tryz.Y.kd 23 = some (.slice 3) by kernel_rfl) h
  obtain ⟨l, hl⟩ := list_of (f := encI) fun x hx => shp3 (h x hx)
  simp at hl
  subst hl
  exact ⟨l, by simp [lst, row]⟩
theorem shp24 {n : Nat} {vs : List V} (h : Shp Tryz.Y n 24 vs) : ∃ l : List (List Int), vs = [lst encL l] := by
  obtain ⟨m, es, rfl, rfl, h, _⟩ := shp_slice (show Tryz.Y.kd 24 = some (.slice 23) by kernel_rfl) h
  obtain ⟨l, hl⟩ := list_of (f := encL) fun x hx => shp23 (h x hx)
  simp at hl
  subst hl
  exact ⟨l, by simp [lst, row]⟩
theorem shp26 {n : Nat} {vs : List V} (h : Shp Tryz.Y n 26 vs) : ∃ a : Au, vs = auC a ∧ ∀ x ∈ a.sets, okS x := by
  obtain ⟨m, rfl, h⟩ := shp_struct (show Tryz.Y.kd 26 = some (.struct [(0, 22), (1, 23), (2, 23), (3, 24), (4, 4)]) by kernel_rfl) h
  obtain ⟨a0, r0, rfl, h0, a1, r1, rfl, h1, a2, r2, rfl, h2, a3, r3, rfl, h3, a4, r4, rfl, h4, rfl⟩ := h
  obtain ⟨b0, rfl, hb⟩ := shp22 h0
  obtain ⟨b1, rfl⟩ := shp23 h1
  obtain ⟨b2, rfl⟩ := shp23 h2
  obtain ⟨b3, rfl⟩ := shp24 h3
  obtain ⟨b4, rfl⟩ := shp4 h4
  exact ⟨⟨b0, b1, b2, b3, b4⟩, rfl, hb⟩

theorem served9 : ∀ n, servedB Tryz.Y n 9 = true
  | 0 => by kernel_rfl
  | n + 1 => by kernel_rfl
theorem served23 : ∀ n, servedB Tryz.Y n 23 = true
  | 0 => by kernel_rfl
  | 1 => by kernel_rfl
  | n + 2 => by kernel_rfl
theorem served26 : ∀ n, servedB Tryz.Y n 26 = true
  | 0 => by kernel_rfl
  | 1 => by kernel_rfl
  | 2 => by kernel_rfl
  | 3 => by kernel_rfl
  | 4 => by kernel_rfl
  | n + 5 => by kernel_rfl
end Go.Proofs.YtlnpmefmmiacaaaGreatDoor
