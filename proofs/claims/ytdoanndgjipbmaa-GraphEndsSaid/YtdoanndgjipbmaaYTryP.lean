import Derived.Test.YtdoanndgjipbmaaYZ
import Derived.Test.YtdoanndgjipbmaaProg
import Derived.KernelRfl
namespace Go.Y
def Try.tys : List (Option TI) := [
    none,
    some ⟨1, 8, .func, [.nilfn]⟩,
    some ⟨1, 8, .int .i64, [.i .i64 0]⟩,
    some ⟨1, 8, .int .i64, [.i .i64 0]⟩,
    some ⟨1, 1, .bool, [.b false]⟩,
    some ⟨1, 1, .int .u8, [.i .u8 0]⟩,
    some ⟨1, 1, .int .u8, [.i .u8 0]⟩,
    some ⟨4, 24, .struct [(0, 2), (1, 3), (2, 4), (3, 6)], [.i .i64 0, .i .i64 0, .b false, .i .u8 0]⟩,
    some ⟨4, 24, .struct [(0, 2), (1, 3), (2, 4), (3, 6)], [.i .i64 0, .i .i64 0, .b false, .i .u8 0]⟩,
    some ⟨1, 16, .str, [.s []]⟩,
    some ⟨1, 16, .str, [.s []]⟩,
    some ⟨1, 16, .str, [.s []]⟩,
    some ⟨1, 8, .int .u64, [.i .u64 0]⟩,
    none,
    none,
    some ⟨1, 8, .ptr 82, [.p none]⟩,
    some ⟨1, 8, .ptr 85, [.p none]⟩,
    some ⟨1, 8, .ptr 94, [.p none]⟩,
    none,
    none,
    some ⟨1, 16, .iface, [.nilifc]⟩,
    some ⟨1, 4, .int .i32, [.i .i32 0]⟩,
    some ⟨1, 24, .slice 26, [.sl none 0 (some 0) 0]⟩,
    some ⟨1, 24, .struct [(0, 22)], [.sl none 0 (some 0) 0]⟩,
    some ⟨1, 24, .struct [(0, 22)], [.sl none 0 (some 0) 0]⟩,
    some ⟨1, 8, .func, [.nilfn]⟩,
    some ⟨1, 24, .slice 3, [.sl none 0 (some 0) 0]⟩,
    some ⟨1, 8, .func, [.nilfn]⟩,
    some ⟨1, 8, .func, [.nilfn]⟩,
    some ⟨1, 8, .func, [.nilfn]⟩,
    some ⟨1, 8, .func, [.nilfn]⟩,
    some ⟨1, 8, .func, [.nilfn]⟩,
    some ⟨1, 8, .func, [.nilfn]⟩,
    some ⟨1, 8, .func, [.nilfn]⟩,
    some ⟨1, 8, .func, [.nilfn]⟩,
    some ⟨1, 8, .func, [.nilfn]⟩,
    some ⟨1, 8, .func, [.nilfn]⟩,
    some ⟨1, 8, .ptr 40, [.p none]⟩,
    some ⟨1, 24, .slice 4, [.sl none 0 (some 0) 0]⟩,
    some ⟨7, 152, .struct [(0, 24), (1, 26), (2, 26), (3, 26), (4, 38), (5, 26), (6, 3)], [.sl none 0 (some 0) 0, .sl none 0 (some 0) 0, .sl none 0 (some 0) 0, .sl none 0 (some 0) 0, .sl none 0 (some 0) 0, .sl none 0 (some 0) 0, .i .i64 0]⟩,
    some ⟨7, 152, .struct [(0, 24), (1, 26), (2, 26), (3, 26), (4, 38), (5, 26), (6, 3)], [.sl none 0 (some 0) 0, .sl none 0 (some 0) 0, .sl none 0 (some 0) 0, .sl none 0 (some 0) 0, .sl none 0 (some 0) 0, .sl none 0 (some 0) 0, .i .i64 0]⟩,
    some ⟨1, 8, .func, [.nilfn]⟩,
    some ⟨1, 8, .map 3 3, [.mp none]⟩,
    none,
    some ⟨1, 8, .func, [.nilfn]⟩,
    some ⟨1, 8, .func, [.nilfn]⟩,
    some ⟨1, 8, .func, [.nilfn]⟩,
    some ⟨1, 8, .func, [.nilfn]⟩,
    some ⟨1, 8, .func, [.nilfn]⟩,
    some ⟨2, 16, .struct [(0, 3), (1, 3)], [.i .i64 0, .i .i64 0]⟩,
    some ⟨2, 16, .struct [(0, 3), (1, 3)], [.i .i64 0, .i .i64 0]⟩,
    some ⟨1, 24, .slice 50, [.sl none 0 (some 0) 0]⟩,
    some ⟨1, 8, .ptr 50, [.p none]⟩,
    some ⟨1, 8, .func, [.nilfn]⟩,
    some ⟨1, 8, .func, [.nilfn]⟩,
    some ⟨1, 8, .func, [.nilfn]⟩,
    some ⟨1, 8, .func, [.nilfn]⟩,
    some ⟨1, 8, .int .u64, [.i .u64 0]⟩,
    some ⟨1, 8, .func, [.nilfn]⟩,
    some ⟨1, 8, .int .i64, [.i .i64 0]⟩,
    none,
    some ⟨1, 8, .func, [.nilfn]⟩,
    some ⟨1, 8, .func, [.nilfn]⟩,
    some ⟨1, 8, .func, [.nilfn]⟩,
    some ⟨1, 8, .func, [.nilfn]⟩,
    some ⟨1, 8, .func, [.nilfn]⟩,
    some ⟨1, 8, .func, [.nilfn]⟩,
    some ⟨1, 4, .int .u32, [.i .u32 0]⟩,
    some ⟨1, 8, .func, [.nilfn]⟩,
    some ⟨1, 8, .int .u64, [.i .u64 0]⟩,
    some ⟨1, 8, .int .u64, [.i .u64 0]⟩,
    some ⟨1, 8, .func, [.nilfn]⟩,
    some ⟨1, 8, .func, [.nilfn]⟩,
    some ⟨1, 8, .func, [.nilfn]⟩,
    some ⟨1, 8, .ptr 3, [.p none]⟩,
    some ⟨1, 8, .func, [.nilfn]⟩,
    some ⟨1, 8, .func, [.nilfn]⟩,
    some ⟨1, 8, .ptr 70, [.p none]⟩,
    none,
    some ⟨1, 8, .func, [.nilfn]⟩,
    some ⟨1, 8, .func, [.nilfn]⟩,
    none,
    none,
    some ⟨0, 0, .arr 0 16, []⟩,
    none,
    none,
    some ⟨1, 8, .func, [.nilfn]⟩,
    some ⟨1, 1, .int .u8, [.i .u8 0]⟩,
    some ⟨1, 1, .int .u8, [.i .u8 0]⟩,
    some ⟨1, 8, .func, [.nilfn]⟩,
    some ⟨1, 8, .ptr 5, [.p none]⟩,
    some ⟨1, 4, .int .i32, [.i .i32 0]⟩,
    some ⟨1, 4, .int .i32, [.i .i32 0]⟩,
    none,
    none,
    none]
def Try.locs : List (List Nat) := [
    [],
    [],
    [],
    [2],
    [3],
    [1],
    [1],
    [4],
    [1],
    [],
    [1],
    [1, 41, 48],
    [],
    [7],
    [1, 51],
    [1],
    [1],
    [2, 32],
    [2],
    [],
    [18],
    [20, 37, 50],
    [],
    [],
    [9],
    [],
    [],
    [],
    [],
    [],
    [],
    [],
    [],
    [],
    [],
    [],
    [],
    [],
    [],
    [],
    [],
    [],
    [],
    [],
    [],
    [],
    [],
    [],
    [],
    [],
    [],
    [],
    [],
    [],
    [],
    [],
    [],
    [],
    [],
    [],
    [],
    [],
    [],
    [],
    [],
    [],
    []]
def Try.modes : List Nat := [2, 2, 2, 2, 2, 2, 2, 2, 2, 2, 1, 1, 2, 1, 1, 1, 1, 1, 1, 0, 3, 0, 2, 4, 0, 2, 0, 0, 0, 0, 2, 2, 2, 2, 2, 2, 2, 2, 2, 2, 2, 2, 2, 2, 2, 2, 0, 0, 0, 2, 0, 2, 2, 2, 2, 2, 2, 2, 2, 0, 0, 0, 0, 0, 0, 0, 2]
noncomputable def Try.Y : YP := ⟨Go.Proofs.Try.prog, Try.tys, Try.locs, Try.modes, [], [], []⟩
theorem Try.extok : ExtOK Try.Y := by
  intro p hp
  have hp' : p ∈ ([] : List (FuncId × Nat)) := hp
  cases hp'
theorem Try.Yok : YOK Try.Y := tabB_ok (by kernel_rfl) Try.extok
end Go.Y

/- Nothing is known ahead of a closed run. -/
namespace Go.Y
open Go.Proofs
set_option maxRecDepth 100000

def Try.kn (_ : FuncId) (_ : List V) (_ : Heap) : Option (V × Heap) := none
theorem Try.mode5 {f : Nat} (h : Try.Y.mode f = 5) : False := by
  have hall : (Try.modes.all fun p => p != 5) = true := by kernel_rfl
  have h2 : Try.modes.getD f 0 = 5 := h
  rw [List.getD_eq_getElem?_getD] at h2
  cases h3 : Try.modes[f]? with
  | none => rw [h3] at h2; cases h2
  | some m =>
    rw [h3] at h2
    rw [List.all_eq_true] at hall
    have := hall m (List.mem_of_getElem? h3)
    have h2 : m = 5 := h2
    subst h2
    simp at this
theorem Try.knok : KOK Try.Y Try.kn := by
  refine ⟨fun f args h v h' hv => ?_, fun f args h v x hm _ => (Try.mode5 hm).elim⟩
  unfold Try.kn at hv
  cases hv
end Go.Y
