/- Closed runs in parts: calls whose results are known. -/
import Derived.Test.YtheobdgchjdlhaaGreatGCool
namespace Go.Y

mutual
def eqW : Nat → V → V → Bool
  | 0, _, _ => false
  | n + 1, a, b => match a, b with
    | .undef, .undef => true
    | .b x, .b y => x == y
    | .i k x, .i k' y => decide (k = k') && decide (x = y)
    | .s l, .s l' => decide (l = l')
    | .p none, .p none => true
    | .sl none x c k, .sl none x' c' k' => decide (x = x') && decide (c = c') && decide (k = k')
    | .ts cs x c, .ts cs' x' c' => decide (x = x') && decide (c = c') && eqWs n cs cs'
    | .tp cs, .tp cs' => eqWs n cs cs'
    | .agg cs, .agg cs' => eqWs n cs cs'
    | .tup cs, .tup cs' => eqWs n cs cs'
    | _, _ => false
def eqWs : Nat → List V → List V → Bool
  | 0, _, _ => false
  | n + 1, l, l' => match l, l' with
    | [], [] => true
    | a :: r, b :: r' => eqW n a b && eqWs n r r'
    | _, _ => false
end
mutual
theorem eqW_ok : ∀ (n : Nat) (a b : V), eqW n a b = true → a = b
  | 0, _, _, h => by simp [eqW] at h
  | n + 1, a, b, h => by
    unfold eqW at h
    split at h
    · rfl
    · simp at h; rw [h]
    · simp at h; rw [h.1, h.2]
    · simp at h; rw [h]
    · rfl
    · simp at h; rw [h.1.1, h.1.2, h.2]
    · simp at h; rw [h.1.1, h.1.2, eqWs_ok n _ _ h.2]
    · rw [eqWs_ok n _ _ h]
    · rw [eqWs_ok n _ _ h]
    · rw [eqWs_ok n _ _ h]
    · cases h
theorem eqWs_ok : ∀ (n : Nat) (a b : List V), eqWs n a b = true → a = b
  | 0, _, _, h => by simp [eqWs] at h
  | n + 1, a, b, h => by
    unfold eqWs at h
    split at h
    · rfl
    · simp at h; rw [eqW_ok n _ _ h.1, eqWs_ok n _ _ h.2]
    · cases h
end

abbrev Known := List (FuncId × List V × V)
def lookT : Known → FuncId → List V → Option V
  | [], _, _ => none
  | e :: T, f, args => if e.1 = f then (if eqWs 1000 e.2.1 args then some e.2.2 else lookT T f args) else lookT T f args
def knT (T : Known) (kn : FuncId → List V → Heap → Option (V × Heap)) : FuncId → List V → Heap → Option (V × Heap) := fun f args h => match lookT T f args with
  | some r => some (r, h)
  | none => kn f args h
inductive KnowOK (Y : YP) : Known → Prop
  | nil : KnowOK Y []
  | cons (f : FuncId) (args : List V) (r : V) (T : Known) (h : PCon Y f args (· = r)) (hT : KnowOK Y T) : KnowOK Y ((f, args, r) :: T)
theorem lookT_ok {Y : YP} : ∀ {T : Known}, KnowOK Y T → ∀ {f args r}, lookT T f args = some r → PCon Y f args (· = r)
  | _, .nil, _, _, _, h => by cases h
  | _, .cons g ags r T hp hT, f, args, r', h => by
    simp only [lookT] at h
    split at h
    · rename_i hg
      split at h
      · rename_i ha
        have := eqWs_ok _ _ _ ha
        subst hg this
        cases h
        exact hp
      · exact lookT_ok hT h
    · exact lookT_ok hT h
theorem frzAL_refl (h : Heap) : ∀ l : List V, FrzAL h l l
  | [] => .nil
  | _ :: l => .cons _ _ _ _ (.same _) (frzAL_refl h l)
theorem knT_ok {Y : YP} {T : Known} {kn : FuncId → List V → Heap → Option (V × Heap)} (hT : KnowOK Y T) (hkn : KOK Y kn) : KOK Y (knT T kn) := by
  refine ⟨fun f args h v h' hv => ?_, hkn.2⟩
  unfold knT at hv
  split at hv
  · rename_i r hr
    simp only [Option.some.injEq, Prod.mk.injEq] at hv
    obtain ⟨rfl, rfl⟩ := hv
    exact ⟨Con.ofP [] (frzAL_refl _ _) (lookT_ok hT hr), .refl _⟩
  · exact hkn.1 _ _ _ _ _ hv
end Go.Y

/- Closed runs in parts: calls over memory whose results are known. -/
namespace Go.Y

mutual
def eqX : Nat → V → V → Bool
  | 0, _, _ => false
  | n + 1, a, b => match a, b with
    | .undef, .undef => true
    | .b x, .b y => x == y
    | .i k x, .i k' y => decide (k = k') && decide (x = y)
    | .s l, .s l' => decide (l = l')
    | .p x, .p y => decide (x = y)
    | .sl a x c k, .sl a' x' c' k' => decide (a = a') && decide (x = x') && decide (c = c') && decide (k = k')
    | .ts cs x c, .ts cs' x' c' => decide (x = x') && decide (c = c') && eqXs n cs cs'
    | .tp cs, .tp cs' => eqXs n cs cs'
    | .agg cs, .agg cs' => eqXs n cs cs'
    | .tup cs, .tup cs' => eqXs n cs cs'
    | _, _ => false
def eqXs : Nat → List V → List V → Bool
  | 0, _, _ => false
  | n + 1, l, l' => match l, l' with
    | [], [] => true
    | a :: r, b :: r' => eqX n a b && eqXs n r r'
    | _, _ => false
end
mutual
theorem eqX_ok : ∀ (n : Nat) (a b : V), eqX n a b = true → a = b
  | 0, _, _, h => by simp [eqX] at h
  | n + 1, a, b, h => by
    unfold eqX at h
    split at h
    · rfl
    · simp at h; rw [h]
    · simp at h; rw [h.1, h.2]
    · simp at h; rw [h]
    · simp at h; rw [h]
    · simp at h; rw [h.1.1.1, h.1.1.2, h.1.2, h.2]
    · simp at h; rw [h.1.1, h.1.2, eqXs_ok n _ _ h.2]
    · rw [eqXs_ok n _ _ h]
    · rw [eqXs_ok n _ _ h]
    · rw [eqXs_ok n _ _ h]
    · cases h
theorem eqXs_ok : ∀ (n : Nat) (a b : List V), eqXs n a b = true → a = b
  | 0, _, _, h => by simp [eqXs] at h
  | n + 1, a, b, h => by
    unfold eqXs at h
    split at h
    · rfl
    · simp at h; rw [eqX_ok n _ _ h.1, eqXs_ok n _ _ h.2]
    · cases h
end

def eqO : Option YObj → Option YObj → Bool
  | none, none => true
  | some (.arr cs w), some (.arr cs' w') => eqXs 1000 cs cs' && (w == w')
  | _, _ => false
theorem eqO_ok {a b : Option YObj} (h : eqO a b = true) : a = b := by
  unfold eqO at h
  split at h
  · rfl
  · simp at h; rw [eqXs_ok _ _ _ h.1, h.2]
  · cases h
def eqTr : Tr → Tr → Bool
  | .leaf, .leaf => true
  | .node l x r, .node l' x' r' => eqTr l l' && eqO x x' && eqTr r r'
  | _, _ => false
theorem eqTr_ok : ∀ {a b : Tr}, eqTr a b = true → a = b
  | .leaf, .leaf, _ => rfl
  | .node l x r, .node l' x' r', h => by
    simp only [eqTr, Bool.and_eq_true] at h
    rw [eqTr_ok h.1.1, eqO_ok h.1.2, eqTr_ok h.2]
  | .leaf, .node _ _ _, h => by simp [eqTr] at h
  | .node _ _ _, .leaf, h => by simp [eqTr] at h
def eqH (h h' : Heap) : Bool := decide (h.nx = h'.nx) && decide (h.lo = h'.lo) && decide (h.tg = h'.tg) && eqTr h.t h'.t
theorem eqH_ok {h h' : Heap} (e : eqH h h' = true) : h = h' := by
  obtain ⟨t, n, l, g⟩ := h
  obtain ⟨t', n', l', g'⟩ := h'
  simp only [eqH, Bool.and_eq_true, decide_eq_true_eq] at e
  obtain ⟨⟨⟨e1, e2⟩, e3⟩, e4⟩ := e
  rw [e1, e2, e3, eqTr_ok e4]

structure KnH where
  f : FuncId
  args : List V
  h : Heap
  v : V
  k : Heap
def lookH : List KnH → FuncId → List V → Heap → Option (V × Heap)
  | [], _, _, _ => none
  | e :: T, f, args, h => if e.f = f then (if eqXs 1000 e.args args && eqH e.h h then some (e.v, e.k) else lookH T f args h) else lookH T f args h
def knH (T : List KnH) (kn : FuncId → List V → Heap → Option (V × Heap)) : FuncId → List V → Heap → Option (V × Heap) := fun f args h => match lookH T f args h with
  | some r => some r
  | none => kn f args h
def KnHOK (Y : YP) (T : List KnH) : Prop := ∀ e ∈ T, (Con Y e.f e.args e.h fun v' k => v' = e.v ∧ k = e.k) ∧ Tame e.h e.k
theorem KnHOK.nil {Y : YP} : KnHOK Y [] := fun _ h => by cases h
theorem KnHOK.cons {Y : YP} {T : List KnH} {e : KnH} {kn : FuncId → List V → Heap → Option (V × Heap)} (hY : YOK Y) (hk : KOK Y kn) {n : Nat} (he : callZ Y kn n e.f e.args e.h = some (e.v, e.k)) (h : KnHOK Y T) : KnHOK Y (e :: T) := fun x hx => by
  rcases List.mem_cons.1 hx with rfl | hx
  · exact ⟨callZ_ok hY hk _ _ _ _ _ _ he, callZ_tame hk _ _ _ _ _ _ he⟩
  · exact h x hx
theorem lookH_ok : ∀ {T : List KnH} {f : FuncId} {args : List V} {h : Heap} {v : V} {k : Heap}, lookH T f args h = some (v, k) → ∃ e ∈ T, e.f = f ∧ e.args = args ∧ e.h = h ∧ e.v = v ∧ e.k = k
  | [], _, _, _, _, _, h => by simp [lookH] at h
  | e :: T, f, args, h, v, k, hl => by
    simp only [lookH] at hl
    split at hl
    · rename_i hf
      split at hl
      · rename_i hc
        simp only [Bool.and_eq_true] at hc
        simp only [Option.some.injEq, Prod.mk.injEq] at hl
        exact ⟨e, by simp, hf, eqXs_ok _ _ _ hc.1, eqH_ok hc.2, hl.1, hl.2⟩
      · obtain ⟨x, h1, h2⟩ := lookH_ok hl
        exact ⟨x, List.mem_cons_of_mem _ h1, h2⟩
    · obtain ⟨x, h1, h2⟩ := lookH_ok hl
      exact ⟨x, List.mem_cons_of_mem _ h1, h2⟩
theorem knH_ok {Y : YP} {T : List KnH} {kn : FuncId → List V → Heap → Option (V × Heap)} (hT : KnHOK Y T) (hk : KOK Y kn) : KOK Y (knH T kn) := by
  refine ⟨fun f args h v h' hv => ?_, hk.2⟩
  unfold knH at hv
  split at hv
  · rename_i r hl
    simp only [Option.some.injEq] at hv
    subst hv
    obtain ⟨e, h1, rfl, rfl, rfl, rfl, rfl⟩ := lookH_ok hl
    exact hT e h1
  · exact hk.1 _ _ _ _ _ hv
end Go.Y
