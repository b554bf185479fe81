/- Memory: what the model's loads and stores do, in terms of blocks; the relation of a frame. -/
import Derived.Test.YtfnpgefoikffdaaDoorYRel
import Derived.Laws.Cells
import Derived.Laws.World
import Derived.Laws.AppendOwn
namespace Go.Y

theorem splice_length {α : Type} : ∀ (l : List α) (n : Nat) (new : List α), n + new.length ≤ l.length → (splice l n new).length = l.length
  | l, 0, new, h => by simp [splice]; simp at h; omega
  | [], n + 1, new, h => by simp at h
  | v :: l, n + 1, new, h => by simp [splice]; exact splice_length l n new (by simp at h; omega)

theorem splice_get {α : Type} : ∀ (l : List α) (n : Nat) (new : List α) (j : Nat), n + new.length ≤ l.length →
    (splice l n new)[j]? = if n ≤ j ∧ j < n + new.length then new[j - n]? else l[j]?
  | l, 0, new, j, h => by
    simp only [splice, Nat.zero_le, true_and, Nat.zero_add, Nat.sub_zero]
    split
    · rename_i hj; rw [List.getElem?_append_left hj]
    · rename_i hj; rw [List.getElem?_append_right (by omega), List.getElem?_drop]; congr 1; omega
  | [], n + 1, new, j, h => by simp at h
  | v :: l, n + 1, new, 0, h => by simp [splice]
  | v :: l, n + 1, new, j + 1, h => by
    simp only [splice, List.getElem?_cons_succ]
    rw [splice_get l n new j (by simp at h; omega)]
    have e : (n ≤ j ∧ j < n + new.length) ↔ (n + 1 ≤ j + 1 ∧ j + 1 < n + 1 + new.length) := by omega
    by_cases hc : n ≤ j ∧ j < n + new.length
    · rw [if_pos hc, if_pos (e.1 hc)]; congr 1; omega
    · rw [if_neg hc, if_neg (fun x => hc (e.2 x))]

theorem VRs.splice {W : Vw} {l : List V} {m : List Value} (h : VRs W l m) {new : List V} {new' : List Value} (hn : VRs W new new') (n : Nat) (hf : n + new.length ≤ l.length) :
    VRs W (splice l n new) (splice m n new') := by
  have hl := h.length
  have hnl := hn.length
  refine VRs.of_get (by rw [splice_length _ _ _ hf, splice_length _ _ _ (by omega), hl]) fun j v u hv hu => ?_
  rw [splice_get _ _ _ _ hf] at hv
  rw [splice_get _ _ _ _ (by omega)] at hu
  rw [← hnl] at hu
  by_cases hc : n ≤ j ∧ j < n + new.length
  · rw [if_pos hc] at hv hu
    obtain ⟨u', hu', hr⟩ := hn.get hv
    rw [hu'] at hu; simp at hu; subst hu; exact hr
  · rw [if_neg hc] at hv hu
    obtain ⟨u', hu', hr⟩ := h.get hv
    rw [hu'] at hu; simp at hu; subst hu; exact hr

/-- A block is replaced. -/
def _root_.Go.World.putB (w : World) (b : Nat) (o : Obj) : World := { w with heap := w.heap.setIfInBounds b o }

@[simp] theorem putB_size (w : World) (b : Nat) (o : Obj) : (w.putB b o).heap.size = w.heap.size := by simp [World.putB]
theorem putB_same (w : World) (b : Nat) (o : Obj) (h : b < w.heap.size) : (w.putB b o).heap[b]? = some o := by simp [World.putB, h]
theorem putB_other (w : World) (b c : Nat) (o : Obj) (h : b ≠ c) : (w.putB b o).heap[c]? = w.heap[c]? := by
  simp [World.putB, Array.getElem?_setIfInBounds_ne h]

theorem lt_of_block {w : World} {b : Nat} {o : Obj} (h : w.heap[b]? = some o) : b < w.heap.size := (Array.getElem?_eq_some_iff.1 h).1

@[simp] theorem alloc_size (w : World) (o : Obj) : (w.alloc o).heap.size = w.heap.size + 1 := World.size_alloc ..
theorem alloc_at (w : World) (o : Obj) : (w.alloc o).heap[w.heap.size]? = some o := by
  show (w.heap.push o)[w.heap.size]? = some o
  simp
theorem alloc_other (w : World) (o : Obj) (b : Nat) (h : b ≠ w.heap.size) : (w.alloc o).heap[b]? = w.heap[b]? := by
  show (w.heap.push o)[b]? = w.heap[b]?
  rw [Array.getElem?_push]
  split
  · rename_i h'; exact absurd h' h
  · rfl
theorem alloc_same (w : World) (o : Obj) : Same w (w.alloc o) := fun b o' h => by rw [alloc_other _ _ _ (by have := lt_of_block h; omega)]; exact h

theorem add_at (b o n : Nat) : (⟨b, o, none⟩ : Addr).add n = ⟨b, o + n, none⟩ := by
  unfold Addr.add
  split
  · rename_i h; simp [h]
  · rfl

theorem cell_of {w : World} {b : Nat} {c : Array Value} {e : TypeId} {fr : Nat × Nat} (h : w.heap[b]? = some (.cells c e fr)) (j : Nat) : w.cell? ⟨b, j, none⟩ = c[j]? := by
  simp [World.cell?, h]

theorem frozen_of {w : World} {b : Nat} {c : Array Value} {e : TypeId} {fr : Nat × Nat} (h : w.heap[b]? = some (.cells c e fr)) (j : Nat) : w.frozen? ⟨b, j, none⟩ = (decide (fr.1 ≤ j) && decide (j < fr.2)) := by
  obtain ⟨lo, hi⟩ := fr
  simp [World.frozen?, h]

/-- The cells from an address on. -/
def CellsW (w : World) (a : Addr) (us : List Value) : Prop := ∀ j u, us[j]? = some u → w.cell? (a.add j) = some u

theorem CellsW.same {w w' : World} (s : Same w w') {a : Addr} {us : List Value} (h : CellsW w a us) : CellsW w' a us := by
  intro j u hj
  have h1 := h j u hj
  unfold World.cell? at *
  split at h1
  · rename_i c e fr hb
    rw [s _ _ hb]
    exact h1
  · cases h1

theorem CellsW.of_block {w : World} {b o : Nat} {c : Array Value} {e : TypeId} {fr : Nat × Nat} (h : w.heap[b]? = some (.cells c e fr)) {us : List Value}
    (hc : ∀ j u, us[j]? = some u → c[o + j]? = some u) : CellsW w ⟨b, o, none⟩ us := by
  intro j u hj
  rw [add_at, cell_of h]
  exact hc j u hj

section
variable {P : Program}

theorem run_typeInfo {t : TypeId} {i : TypeInfo} (h : P.info? t = some i) (w : World) : (typeInfo t).run P w = .ok i w := by simp [typeInfo, h]
theorem run_underlying' {t : TypeId} {d : TypeDesc} (h : P.underlying t = some d) (w : World) : (underlying t).run P w = .ok d w := by simp [underlying, h]
theorem run_sizeOf {t : TypeId} {i : TypeInfo} (h : P.info? t = some i) (w : World) : (sizeOf t).run P w = .ok i.size w := by simp [sizeOf, typeInfo, h]
theorem run_zeroValue {t : TypeId} {i : TypeInfo} {z : Value} (h : P.info? t = some i) (hz : i.zero = some z) (w : World) : (zeroValue t).run P w = .ok z w := by simp [zeroValue, typeInfo, h, hz]

def aggD : TypeDesc → Bool
  | .struct _ | .array _ _ => true
  | _ => false

theorem run_isAgg {t : TypeId} {d : TypeDesc} (h : P.underlying t = some d) (w : World) : (isAgg t).run P w = .ok (aggD d) w := by
  simp only [isAgg, Sem.run_bind, run_underlying' h, Result.andThen_ok]
  cases d <;> rfl

theorem run_loadVarY {t : TypeId} {d : TypeDesc} {i : TypeInfo} (hd : P.underlying t = some d) (hi : P.info? t = some i) (w : World) (a : Addr) (us : List Value)
    (hl : us.length = i.size) (hc : CellsW w a us) (u : Value) (hu : if aggD d then u = .agg us.toArray else us = [u]) : (loadVar t a).run P w = .ok u w := by
  simp only [loadVar, Sem.run_bind, run_isAgg hd, Result.andThen_ok]
  cases hg : aggD d
  · simp only [hg, Bool.false_eq_true, if_false] at hu ⊢
    have h0 := hc 0 u (by simp [hu])
    simp [Addr.add] at h0
    simp [h0]
  · simp only [hg, if_true] at hu ⊢
    simp only [Sem.run_bind, run_sizeOf hi, Result.andThen_ok, ← hl, run_loadCells_list w a us hc, Sem.run_pure]
    rw [hu]

theorem run_storeCellsY (b o : Nat) (e : TypeId) (fr : Nat × Nat) : ∀ (vs : List Value) (i : Nat) (cur : Array Value) (w : World), w.heap[b]? = some (.cells cur e fr) →
    o + i + vs.length ≤ cur.size → (∀ j, o + i ≤ j → j < o + i + vs.length → ¬ (fr.1 ≤ j ∧ j < fr.2)) → (∀ v ∈ vs, v.oneCell' = true) →
    (storeCells ⟨b, o, none⟩ vs i).run P w = .ok () (w.putB b (.cells (splice cur.toList (o + i) vs).toArray e fr))
  | [], i, cur, w, hb, hl, _, _ => by
    have hs : splice cur.toList (o + i) [] = cur.toList := by
      apply List.ext_getElem?
      intro j
      rw [splice_get _ _ _ _ (by simpa using hl)]
      split
      · rename_i h; simp at h; omega
      · rfl
    simp only [storeCells, Sem.run_pure, hs]
    congr 1
    have : w.heap.setIfInBounds b (.cells cur e fr) = w.heap := by
      apply Array.ext'
      apply List.ext_getElem?
      intro j
      have := @Array.getElem?_setIfInBounds _ w.heap b j (.cells cur e fr)
      simp only [Array.getElem?_toList]
      rw [this]
      split
      · rename_i h; subst h; split
        · exact hb.symm
        · rename_i h'; exact absurd (lt_of_block hb) h'
      · rfl
    simp [World.putB, this]
  | v :: vs, i, cur, w, hb, hl, hf, h1 => by
    simp only [List.length_cons] at hl
    have hv : v.oneCell' = true := h1 v (by simp)
    have hlt : o + i < cur.size := by omega
    have hcell : w.cell? ⟨b, o + i, none⟩ = some cur[o + i] := by rw [cell_of hb]; simp [hlt]
    have hfz : w.frozen? ⟨b, o + i, none⟩ = false := by
      rw [frozen_of hb]
      have := hf (o + i) (by omega) (by simp)
      simp only [Bool.and_eq_false_imp, decide_eq_true_eq, decide_eq_false_iff_not]
      intro h2 h3; exact this ⟨h2, h3⟩
    have hw : w.setCell ⟨b, o + i, none⟩ v = w.putB b (.cells (cur.setIfInBounds (o + i) v) e fr) := by
      unfold World.setCell World.putB
      congr 1
      apply Array.ext'
      apply List.ext_getElem?
      intro j
      simp only [Array.getElem?_toList, Array.getElem?_modify, Array.getElem?_setIfInBounds]
      by_cases hj : b = j
      · subst hj
        have hx := Array.getElem?_eq_some_iff.1 hb
        simp [lt_of_block hb, hx.2]
      · simp [hj]
    simp only [storeCells, Sem.run_bind, add_at, run_store P w _ v _ hv, hcell, hfz, Bool.false_eq_true, if_false, Result.andThen_ok, hw]
    have ih := run_storeCellsY b o e fr vs (i + 1) (cur.setIfInBounds (o + i) v) (w.putB b (.cells (cur.setIfInBounds (o + i) v) e fr)) (putB_same _ _ _ (lt_of_block hb))
      (by simp; omega) (fun j h2 h3 => hf j (by omega) (by simp; omega)) (fun x hx => h1 x (by simp [hx]))
    rw [ih]
    congr 1
    unfold World.putB
    simp only [Array.setIfInBounds_setIfInBounds]
    congr 4
    apply List.ext_getElem?
    intro j
    rw [splice_get _ _ _ _ (by simp; omega), splice_get _ _ _ _ (by simp; omega)]
    simp only [List.length_cons, Array.getElem?_toList, Array.getElem?_setIfInBounds]
    by_cases hj : j = o + i
    · subst hj
      have e1 : ¬ (o + (i + 1) ≤ o + i ∧ o + i < o + (i + 1) + vs.length) := by omega
      have e2 : o + i ≤ o + i ∧ o + i < o + i + (vs.length + 1) := by omega
      rw [if_neg e1, if_pos e2]
      simp [hlt]
    · by_cases hc : o + (i + 1) ≤ j ∧ j < o + (i + 1) + vs.length
      · have e2 : o + i ≤ j ∧ j < o + i + (vs.length + 1) := by omega
        rw [if_pos hc, if_pos e2]
        obtain ⟨k, hk⟩ : ∃ k, j = o + i + (k + 1) := ⟨j - (o + i + 1), by omega⟩
        subst hk
        rw [show o + i + (k + 1) - (o + (i + 1)) = k by omega, show o + i + (k + 1) - (o + i) = k + 1 by omega]
        simp
      · have e2 : ¬ (o + i ≤ j ∧ j < o + i + (vs.length + 1)) := by omega
        rw [if_neg hc, if_neg e2]
        have : ¬ (o + i = j) := fun h => hj h.symm
        rw [if_neg this]
end

/-- A slot of a frame. -/
def BoxRel (W : Vw) (w : World) (cs : List V) (u : Value) : Prop :=
  ∃ (b : Nat) (c : Array Value) (e : TypeId), u = .pointer (some ⟨b, 0, none⟩) ∧ w.heap[b]? = some (.cells c e (0, 0)) ∧ VRs W cs c.toList ∧ W.snap b = none ∧ ¬ W.own b

def SRel (W : Vw) (w : World) (v : V) (u : Value) : Prop :=
  match v with
  | .lb cs => BoxRel W w cs u
  | .rf => True
  | v => VR W v u

/-- The block of a local box. -/
def boxAt (σ : St) (a : Act) (t b : Nat) : Prop := (∃ cs, σ.env[t]? = some (.lb cs)) ∧ a.tmps[t]? = some (.pointer (some ⟨b, 0, none⟩))

/-- The block for the deferred calls of a range over a function: there are none. -/
def mkD (r : Nat) : Deferred := { target := .collected r, args := #[] }
theorem mkD_inj {r s : Nat} (h : mkD r = mkD s) : r = s := by
  simp only [mkD, Deferred.mk.injEq, Target.collected.injEq, and_true] at h; exact h

/-- A frame's marks: their blocks belong to nobody else. -/
structure Marks (W : Vw) (a : Act) (w : World) : Prop where
  nd : a.defers.Nodup
  at_ : ∀ d ∈ a.defers, ∃ r, d = mkD r ∧ w.heap[r]? = some (.deferred (some [])) ∧ W.snap r = none ∧ ¬ W.own r

theorem Marks.same {W : Vw} {a : Act} {w w' : World} (s : Same w w') (h : Marks W a w) : Marks W a w' :=
  ⟨h.nd, fun d hd => let ⟨r, h1, h2, h3, h4⟩ := h.at_ d hd; ⟨r, h1, s _ _ h2, h3, h4⟩⟩
theorem Marks.act {W : Vw} {a a' : Act} {w : World} (h : Marks W a w) (e : a'.defers = a.defers) : Marks W a' w := ⟨by rw [e]; exact h.nd, by rw [e]; exact h.at_⟩
theorem Marks.none {W : Vw} {a : Act} {w : World} (e : a.defers = []) : Marks W a w := ⟨by rw [e]; exact .nil, by rw [e]; intro d hd; cases hd⟩
/-- Other blocks are turned. -/
theorem Marks.turn {W W' : Vw} {a : Act} {w w' : World} (h : Marks W a w) (hk : ∀ r, w.heap[r]? = some (.deferred (some [])) → W.snap r = Option.none → ¬ W.own r → w'.heap[r]? = w.heap[r]? ∧ W'.snap r = Option.none ∧ ¬ W'.own r) : Marks W' a w' :=
  ⟨h.nd, fun d hd => let ⟨r, h1, h2, h3, h4⟩ := h.at_ d hd; let ⟨k1, k2, k3⟩ := hk r h2 h3 h4; ⟨r, h1, by rw [k1]; exact h2, k2, k3⟩⟩

structure Rel (W : Vw) (σ : St) (a : Act) (w : World) : Prop where
  heap : HRel W σ.h w
  size : a.tmps.size = σ.env.length
  env : ∀ (t : Nat) (v : V), σ.env[t]? = some v → ∃ u, a.tmps[t]? = some u ∧ SRel W w v u
  box : ∀ t t' b, boxAt σ a t b → boxAt σ a t' b → t = t'
  refs : ∀ (d s o : Nat), (d, s, o) ∈ σ.refs → σ.env[d]? = some .rf → ∀ b, boxAt σ a s b → a.tmps[d]? = some (.pointer (some ⟨b, o, none⟩))
  defers : Marks W a w

/-- Blocks that this frame may write. -/
def mine (W : Vw) (σ : St) (a : Act) (b : Nat) : Prop := W.own b ∨ (∃ t, boxAt σ a t b) ∨ mkD b ∈ a.defers

theorem SRel.same {W : Vw} {w w' : World} (s : Same w w') {v : V} {u : Value} (h : SRel W w v u) : SRel W w' v u := by
  cases v <;> first
    | exact h
    | (obtain ⟨b, c, e, hu, hb, h2⟩ := h; exact ⟨b, c, e, hu, s _ _ hb, h2⟩)

theorem Rel.same {W : Vw} {σ : St} {a : Act} {w w' : World} (s : Same w w') (h : Rel W σ a w) : Rel W σ a w' :=
  ⟨h.heap.same s, h.size, fun t v ht => let ⟨u, h1, h2⟩ := h.env t v ht; ⟨u, h1, h2.same s⟩, h.box, h.refs, h.defers.same s⟩

theorem SRel.plain {W : Vw} {w : World} {v : V} {u : Value} (h : SRel W w v u) : VR W v.plain u := by
  cases v <;> first | exact .undef u | exact h

/-- What an operand comes to. -/
theorem Rel.ev {W : Vw} {σ : St} {a : Act} {w : World} (h : Rel W σ a w) (x : Operand) : VR W (ev σ.env x) (a.eval x) := by
  cases x with
  | tmp t =>
    simp only [Go.Y.ev, Act.eval]
    cases ht : σ.env[t]? with
    | none => simp [List.getD, ht, V.plain]; exact .undef _
    | some v =>
      obtain ⟨u, h1, h2⟩ := h.env t v ht
      simp [List.getD, ht, h1]
      exact h2.plain
  | const v => exact VR.ofC W v
  | global g =>
    simp only [Go.Y.ev]
    split
    · rename_i cs hg; exact h.heap.tab hg
    · exact .undef _
  | func f => exact .fn (.func f) [] [] [] [] .nil .nil

end Go.Y
