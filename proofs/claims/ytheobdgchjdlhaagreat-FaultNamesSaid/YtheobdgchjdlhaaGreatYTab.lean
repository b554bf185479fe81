/- The table of types, held against the program by the kernel. -/
import Derived.Test.YtheobdgchjdlhaaGreatYCode
namespace Go.Y

mutual
def veq : V → V → Bool
  | .b x, .b y => x == y
  | .i j x, .i k y => decide (j = k) && x == y
  | .s l, .s m => l == m
  | .p none, .p none | .mp none, .mp none | .nilfn, .nilfn | .nilifc, .nilifc => true
  | .sl none 0 (some 0) 0, .sl none 0 (some 0) 0 => true
  | _, _ => false
end

theorem veq_eq {a b : V} (h : veq a b = true) : a = b := by
  unfold veq at h
  split at h <;> first | rfl | (simp at h; first | (obtain ⟨rfl, rfl⟩ := h; rfl) | (subst h; rfl)) | cases h

def veqs : List V → List V → Bool
  | [], [] => true
  | a :: l, b :: m => veq a b && veqs l m
  | _, _ => false

theorem veqs_eq : ∀ {l m : List V}, veqs l m = true → l = m
  | [], [], _ => rfl
  | a :: l, b :: m, h => by
    simp only [veqs, Bool.and_eq_true] at h
    rw [veq_eq h.1, veqs_eq h.2]
  | [], _ :: _, h => by simp [veqs] at h
  | _ :: _, [], h => by simp [veqs] at h

def kdB (Y : YP) (t : TypeId) : Kd → TypeDesc → Bool
  | .bool, .bool => true
  | .int k, .int k' => decide (k = k')
  | .str, .string => true
  | .slice e, .slice e' => e == e'
  | .arr n e, .array n' e' => n == n' && e == e' && !Y.P.eqGuardType Y.P.depth t
  | .struct fs, .struct l => fs == l.toList.map (fun f => (f.offset, f.type)) && l.toList.all (fun f => !(f.name == "_")) && !Y.P.stoodInHeld t && !Y.P.eqGuardType Y.P.depth t
  | .ptr e, .pointer e' => e == e'
  | .map k e, .map k' e' => k == k' && e == e'
  | .func, .func _ _ _ => true
  | .iface, .interface _ => true
  | _, _ => false

theorem kdB_ok {Y : YP} {t : TypeId} {k : Kd} {d : TypeDesc} (h : kdB Y t k d = true) : KdOK Y t k d := by
  unfold kdB at h
  split at h <;> simp only [KdOK]
  · simp at h; subst h; rfl
  · simp at h; subst h; rfl
  · simp at h; obtain ⟨⟨rfl, rfl⟩, h⟩ := h; exact ⟨rfl, h⟩
  · rename_i fs l
    simp only [Bool.and_eq_true, beq_iff_eq, Bool.not_eq_true', List.all_eq_true, beq_eq_false_iff_ne] at h
    exact ⟨l, rfl, h.1.1.1, fun f hf => h.1.1.2 f (by simpa using hf), h.1.2, h.2⟩
  · simp at h; subst h; rfl
  · simp at h; obtain ⟨rfl, rfl⟩ := h; rfl
  · exact ⟨_, _, _, rfl⟩
  · exact ⟨_, rfl⟩
  · cases h

def tiB (Y : YP) (t : TypeId) (ti : TI) : Bool :=
  match Y.P.info? t with
  | some i => match Y.P.underlying t, i.zero with
    | some d, some z => decide (i.size = ti.size) && decide (i.bytes = ti.bytes) && veqs ti.zero (z.cells.toList.map ofC) && decide (ti.zero.length = ti.size) && allCells ti.zero &&
        kdB Y t ti.kd d && (aggD d == ti.kd.agg) && (ti.kd.agg || decide (ti.size = 1))
    | _, _ => false
  | none => false

theorem VRs.ofCs (W : Vw) : ∀ l : List Value, VRs W (l.map ofC) l
  | [] => .nil
  | u :: l => .cons _ _ _ _ (VR.ofC W u) (VRs.ofCs W l)

theorem tiB_ok {Y : YP} {t : TypeId} {ti : TI} (h : tiB Y t ti = true) : ∃ i d z, TIOK Y t ti i d z := by
  unfold tiB at h
  split at h
  · rename_i i hi
    split at h
    · rename_i d z hd hz
      simp only [Bool.and_eq_true, decide_eq_true_eq, beq_iff_eq, Bool.or_eq_true] at h
      obtain ⟨⟨⟨⟨⟨⟨⟨h1, h2⟩, h3⟩, h4⟩, h5⟩, h6⟩, h7⟩, h8⟩ := h
      refine ⟨i, d, z, hi, hd, hz, h1, h2, fun W => ?_, h4, h5, kdB_ok h6, h7, fun ha => ?_⟩
      · rw [veqs_eq h3]; exact VRs.ofCs W _
      · rcases h8 with h8 | h8
        · rw [ha] at h8; cases h8
        · exact h8
    · cases h
  · cases h

def tabB (Y : YP) : Bool :=
  (List.range Y.tys.length).all (fun t => match Y.ty t with | none => true | some ti => tiB Y t ti) && Y.P.follows .mixedOrders && Y.P.funcs.toList.all (fun f => !(f.name == "runtime.NumGoroutine"))

theorem tabB_ok {Y : YP} (h : tabB Y = true) (he : ExtOK Y) : YOK Y := by
  simp only [tabB, Bool.and_eq_true, List.all_eq_true, List.mem_range] at h
  obtain ⟨⟨h1, h2⟩, h3⟩ := h
  refine ⟨fun t ti ht => ?_, h2, fun f fn hf => ?_, he⟩
  · have hlt : t < Y.tys.length := by
      unfold YP.ty at ht
      by_cases hl : t < Y.tys.length
      · exact hl
      · rw [List.getElem?_eq_none (Nat.le_of_not_lt hl)] at ht; cases ht
    have := h1 t hlt
    rw [ht] at this
    exact tiB_ok this
  · have := h3 fn (by
      have h4 := Array.mem_of_getElem? hf
      simpa using h4)
    simpa using this
end Go.Y
