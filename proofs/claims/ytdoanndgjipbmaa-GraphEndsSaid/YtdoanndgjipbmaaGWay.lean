/- The way of a walk, in memory; and what is left to do. -/
import Derived.Test.YtdoanndgjipbmaaGWalk
import Derived.Test.YtdoanndgjipbmaaGTar2
import Derived.Test.YtdoanndgjipbmaaGMayR
namespace Go.Y
open Tar

def wayC (way : List (Nat × Nat)) : List V := way.flatMap fun e => [.i .i64 (e.1 : Nat), .i .i64 (e.2 : Nat)]
theorem wayC_length (way : List (Nat × Nat)) : (wayC way).length = 2 * way.length := by
  induction way with
  | nil => rfl
  | cons e r ih =>
    have : wayC (e :: r) = .i .i64 (e.1 : Nat) :: .i .i64 (e.2 : Nat) :: wayC r := rfl
    rw [this]; simp only [List.length_cons, ih]; omega
theorem wayC_append (a b : List (Nat × Nat)) : wayC (a ++ b) = wayC a ++ wayC b := by simp [wayC]

/-- The way lies there; behind it there may be more cells. -/
structure WayR (h : Heap) (id l : Nat) (c : Option Nat) (way : List (Nat × Nat)) : Prop where
  len : l = way.length
  lt : id < h.nx
  get : ∃ ext, h.get id = some (.arr (wayC way ++ ext) true) ∧ ∀ c', c = some c' → l ≤ c' ∧ c' * 2 ≤ (wayC way ++ ext).length

theorem WayR.fr {h h' : Heap} {id l : Nat} {c : Option Nat} {way : List (Nat × Nat)} (w : WayR h id l c way) (hn : h.nx ≤ h'.nx) (hg : h'.get id = h.get id) : WayR h' id l c way :=
  ⟨w.len, by have := w.lt; omega, by rw [hg]; exact w.get⟩

theorem way_at {w0 : List (Nat × Nat)} {v k : Nat} {ext : List V} : (wayC (w0 ++ [(v, k)]) ++ ext)[2 * w0.length]? = some (.i .i64 (v : Nat)) ∧ (wayC (w0 ++ [(v, k)]) ++ ext)[2 * w0.length + 1]? = some (.i .i64 (k : Nat)) := by
  have hl := wayC_length w0
  rw [wayC_append, List.append_assoc]
  constructor
  · rw [List.getElem?_append_right (by omega), hl, Nat.sub_self]; rfl
  · rw [List.getElem?_append_right (by omega), hl, show 2 * w0.length + 1 - 2 * w0.length = 1 by omega]; rfl

theorem WayR.node {h : Heap} {id l : Nat} {c : Option Nat} {w0 : List (Nat × Nat)} {v k : Nat} (w : WayR h id l c (w0 ++ [(v, k)])) : hcells h id (2 * w0.length) 1 = some [.i .i64 (v : Nat)] ∧ hcells h id (2 * w0.length + 1) 1 = some [.i .i64 (k : Nat)] := by
  obtain ⟨ext, h1, _⟩ := w.get
  exact ⟨hcells_at h1 way_at.1, hcells_at h1 way_at.2⟩

/-- The last one's next edge. -/
theorem WayR.next {h : Heap} {id l : Nat} {c : Option Nat} {w0 : List (Nat × Nat)} {v k : Nat} (w : WayR h id l c (w0 ++ [(v, k)])) (j : Nat) : ∃ h1, hstore h id (2 * w0.length + 1) [.i .i64 (j : Nat)] = some h1 ∧ WayR h1 id l c (w0 ++ [(v, j)]) ∧ FrS h (fun x => x = id) h1 ∧ h1.nx = h.nx := by
  obtain ⟨ext, h1, h2⟩ := w.get
  have hl := wayC_length w0
  have hlt : 2 * w0.length + 1 < (wayC (w0 ++ [(v, k)]) ++ ext).length := (List.getElem?_eq_some_iff.1 (way_at (ext := ext)).2).1
  refine ⟨_, hstore_at h1 _ hlt, ⟨by rw [w.len]; simp, w.lt, ext, ?_, fun c' hc => ?_⟩, FrS.set _ _ _, rfl⟩
  · rw [Heap.get_set, if_pos rfl]
    congr 2
    rw [wayC_append, wayC_append, List.append_assoc, List.append_assoc, List.set_append_right _ _ (by omega), hl, show 2 * w0.length + 1 - 2 * w0.length = 1 by omega]
    rfl
  · have := h2 c' hc
    simp only [List.length_append, wayC_length, List.length_cons, List.length_nil] at this ⊢
    exact this

/-- The last one goes. -/
theorem WayR.pop {h : Heap} {id l : Nat} {c : Option Nat} {w0 : List (Nat × Nat)} {v k : Nat} (w : WayR h id l c (w0 ++ [(v, k)])) : WayR h id w0.length c w0 := by
  obtain ⟨ext, h1, h2⟩ := w.get
  refine ⟨rfl, w.lt, wayC [(v, k)] ++ ext, by rw [← List.append_assoc, ← wayC_append]; exact h1, fun c' hc => ?_⟩
  have := h2 c' hc
  have hl := w.len
  rw [← List.append_assoc, ← wayC_append]
  simp at hl
  exact ⟨by omega, this.2⟩

/-- One more. -/
theorem WayR.push {Y : YP} {h : Heap} {id l : Nat} {c : Option Nat} {way : List (Nat × Nat)} {st e x : Nat} {te : TI} (hk : Y.kd st = some (.slice e)) (hte : Y.ty e = some te) (hs : te.size = 2) (hby : te.bytes = 16) (w : WayR h id l c way) (hb : way.length < 2 ^ 30) :
    ∃ id' l' c' h', appendH Y h st st (.sl (some (id, 0)) l c 2) (.ts [.i .i64 (x : Nat), .i .i64 (0 : Int)] 1 (some 1)) = some (.sl (some (id', 0)) l' c' 2, h') ∧ WayR h' id' l' c' (way ++ [(x, 0)]) ∧ FrS h (fun j => j = id) h' ∧ (id' = id ∨ h.nx ≤ id') := by
  have hm : most = 1099511627776 := by decide
  have hsrc : source Y ⟨[], [], h⟩ te st (.ts [.i .i64 (x : Nat), .i .i64 (0 : Int)] 1 (some 1)) = some (1, [.i .i64 (x : Nat), .i .i64 (0 : Int)]) := by
    simp only [source, hk, elems, elemsS, hs]; rfl
  have hall : allCells [V.i .i64 ((x : Nat) : Int), .i .i64 (0 : Int)] = true := rfl
  obtain ⟨ext, hget, hc⟩ := w.get
  have hlen := w.len
  have hwl := wayC_length way
  have hb1 : ¬ ((l + 1) * te.bytes > most ∨ l + 1 > most) := by rw [hby]; omega
  have htake : takeX (l * 2) ((wayC way ++ ext).drop 0) = some (wayC way) := by
    rw [List.drop_zero]
    have : ∀ (p q : List V) (n : Nat), n = p.length → takeX n (p ++ q) = some p := by
      intro p q
      induction p with
      | nil => intro n hn; subst hn; simp [takeX]
      | cons x p ih => intro n hn; subst hn; simp [takeX, ih]
    exact this _ _ _ (by omega)
  have hsp : splice (wayC way ++ ext) (0 + l * 2) [.i .i64 (x : Nat), .i .i64 (0 : Int)] = wayC (way ++ [(x, 0)]) ++ ext.drop 2 := by
    have : ∀ (p q new : List V) (n : Nat), n = p.length → splice (p ++ q) n new = p ++ (new ++ q.drop new.length) := by
      intro p q new
      induction p with
      | nil => intro n hn; subst hn; cases q <;> simp [splice]
      | cons x p ih => intro n hn; subst hn; simp [splice, ih]
    rw [this _ _ _ _ (by omega), wayC_append, List.append_assoc]; rfl
  have hgr : ∀ h2 : Heap, h2.get id = h2.get id → wayC way ++ [V.i .i64 ((x : Nat) : Int), .i .i64 (0 : Int)] = wayC (way ++ [(x, 0)]) := fun _ _ => by rw [wayC_append]; rfl
  have inplace : 0 + (l + 1) * 2 ≤ (wayC way ++ ext).length → WayR (h.set id (some (.arr (splice (wayC way ++ ext) (0 + l * 2) [.i .i64 (x : Nat), .i .i64 (0 : Int)]) true))) id (l + 1) c (way ++ [(x, 0)]) ∨ c.isSome = true := fun hfit => by
    cases c with
    | some c' => exact .inr rfl
    | none =>
      refine .inl ⟨by simp [hlen], w.lt, ext.drop 2, by rw [Heap.get_set, if_pos rfl, hsp], fun c' hc' => by cases hc'⟩
  cases c with
  | none =>
    by_cases hfit : 0 + (l + 1) * 2 ≤ (wayC way ++ ext).length
    · refine ⟨id, l + 1, none, h.set id (some (.arr (splice (wayC way ++ ext) (0 + l * 2) [.i .i64 (x : Nat), .i .i64 (0 : Int)]) true)), ?_, (inplace hfit).resolve_right (by simp), FrS.set _ _ _, .inl rfl⟩
      simp only [appendH, appendY, hk, hte, hsrc, hs, ne_eq, not_true_eq_false, if_false, hb1, hget, hfit, if_true, hall]
      simp
    · refine ⟨h.nx, l + 1, none, (h.set id none).pushT (if 0 = 0 ∧ h.tagOf id = some e then some e else none) (.arr (wayC way ++ [.i .i64 (x : Nat), .i .i64 (0 : Int)]) true), ?_, ⟨by simp [hlen], by simp, [], by rw [hgr h rfl]; simp, fun c' hc' => by cases hc'⟩, ⟨by simp, fun j hj hn => ?_⟩, .inr (Nat.le_refl _)⟩
      · simp only [appendH, appendY, hk, hte, hsrc, hs, ne_eq, not_true_eq_false, if_false, hb1, hget, hfit, Bool.true_or, if_true, htake, hall]
        simp
      · rw [Heap.get_pushT, if_neg (by simp; omega), Heap.get_set, if_neg hn]
  | some c' =>
    obtain ⟨q1, q2⟩ := hc c' rfl
    by_cases hfit : l + 1 ≤ c'
    · have hin : 0 + (l + 1) * 2 ≤ (wayC way ++ ext).length := by omega
      refine ⟨id, l + 1, some c', h.set id (some (.arr (splice (wayC way ++ ext) (0 + l * 2) [.i .i64 (x : Nat), .i .i64 (0 : Int)]) true)), ?_, ⟨by simp [hlen], w.lt, ext.drop 2, by rw [Heap.get_set, if_pos rfl, hsp], fun c2 hc2 => ?_⟩, FrS.set _ _ _, .inl rfl⟩
      · simp only [appendH, appendY, hk, hte, hsrc, hs, ne_eq, not_true_eq_false, if_false, hb1, hget, hfit, hin, if_true, hall]
        simp
      · simp only [Option.some.injEq] at hc2; subst hc2
        refine ⟨hfit, ?_⟩
        rw [← hsp, splice_length _ _ _ (by simp only [List.length_cons, List.length_nil]; omega)]
        exact q2
    · refine ⟨h.nx, l + 1, none, h.push (.arr (wayC way ++ [.i .i64 (x : Nat), .i .i64 (0 : Int)]) true), ?_, ⟨by simp [hlen], by simp, [], by rw [hgr h rfl]; simp, fun c' hc' => by cases hc'⟩, ⟨by simp, fun j hj hn => by rw [Heap.get_push, if_neg (by omega)]⟩, .inr (Nat.le_refl _)⟩
      simp only [appendH, appendY, hk, hte, hsrc, hs, ne_eq, not_true_eq_false, if_false, hb1, hfit, cellsAt, hget, htake, hall]
      simp

/-! ### What is left to do -/
def sumR (f : Nat → Nat) : Nat → Nat
  | 0 => 0
  | n + 1 => sumR f n + f n
theorem sumR_congr {f g : Nat → Nat} : ∀ {n : Nat}, (∀ u, u < n → f u = g u) → sumR f n = sumR g n
  | 0, _ => rfl
  | n + 1, h => by simp only [sumR]; rw [sumR_congr fun u hu => h u (by omega), h n (by omega)]
theorem sumR_upd {f g : Nat → Nat} {x : Nat} : ∀ {n : Nat}, x < n → (∀ u, u ≠ x → f u = g u) → sumR f n + g x = sumR g n + f x
  | n + 1, hx, h => by
    simp only [sumR]
    by_cases e : x = n
    · subst e
      rw [sumR_congr (f := f) (g := g) fun u hu => h u (by omega)]; omega
    · have h1 := sumR_upd (f := f) (g := g) (n := n) (by omega) h
      have h2 := h n (fun e2 => e e2.symm)
      omega

def wsum (E : Nat → Nat) (way : List (Nat × Nat)) : Nat := (way.map fun e => E e.1 - e.2 + 1).sum
def phi (n : Nat) (E : Nat → Nat) (met : List Nat) (way : List (Nat × Nat)) : Nat := wsum E way + sumR (fun u => if met.getD u 0 = 0 then E u + 2 else 0) n
theorem wsum_append (E : Nat → Nat) (a b : List (Nat × Nat)) : wsum E (a ++ b) = wsum E a + wsum E b := by simp [wsum]

theorem phi_next {n : Nat} {E : Nat → Nat} {met : List Nat} {w0 : List (Nat × Nat)} {v k : Nat} (hk : k < E v) : phi n E met (w0 ++ [(v, k + 1)]) < phi n E met (w0 ++ [(v, k)]) := by
  unfold phi
  rw [wsum_append, wsum_append]
  simp only [wsum, List.map_cons, List.map_nil, List.sum_cons, List.sum_nil]
  omega
theorem phi_pop {n : Nat} {E : Nat → Nat} {met : List Nat} {w0 : List (Nat × Nat)} {v k : Nat} : phi n E met w0 < phi n E met (w0 ++ [(v, k)]) := by
  unfold phi
  rw [wsum_append]
  simp only [wsum, List.map_cons, List.map_nil, List.sum_cons, List.sum_nil]
  omega
theorem phi_meet {n : Nat} {E : Nat → Nat} {met : List Nat} {way : List (Nat × Nat)} {x number : Nat} (hx : x < n) (hl : met.length = n) (h0 : met.getD x 0 = 0) (hn : number ≠ 0) : phi n E (met.set x number) (way ++ [(x, 0)]) < phi n E met way := by
  unfold phi
  rw [wsum_append]
  have h1 := sumR_upd (f := fun u => if (met.set x number).getD u 0 = 0 then E u + 2 else 0) (g := fun u => if met.getD u 0 = 0 then E u + 2 else 0) hx fun u hu => by
    rw [getD_setN (by omega), if_neg hu]
  have h2 : (if (met.set x number).getD x 0 = 0 then E x + 2 else 0) = 0 := by rw [getD_setN (by omega), if_pos rfl, if_neg hn]
  have h3 : (if met.getD x 0 = 0 then E x + 2 else 0) = E x + 2 := if_pos h0
  have h4 : sumR (fun u => if (met.set x number).getD u 0 = 0 then E u + 2 else 0) n + (if met.getD x 0 = 0 then E x + 2 else 0) = sumR (fun u => if met.getD u 0 = 0 then E u + 2 else 0) n + (if (met.set x number).getD x 0 = 0 then E x + 2 else 0) := h1
  rw [h2, h3] at h4
  simp only [wsum, List.map_cons, List.map_nil, List.sum_cons, List.sum_nil]
  omega
end Go.Y

/- What a node leads to, over rows of whole numbers. -/
namespace Go.Y
open Tar

/-- A row's nodes. -/
def sucI (G : List (List Int)) (u : Nat) : List Nat := (G.getD u []).map Int.toNat

theorem rowOK_mem {n : Nat} : ∀ {p : Option Int} {l : List Int}, rowOK n p l = true → ∀ x ∈ l, 0 ≤ x ∧ x < (n : Nat)
  | _, [], _, x, hx => by cases hx
  | p, y :: r, h, x, hx => by
    simp only [rowOK, Bool.and_eq_true, decide_eq_true_eq] at h
    rcases List.mem_cons.1 hx with rfl | hx
    · exact ⟨h.1.1.1, h.1.1.2⟩
    · exact rowOK_mem h.2 x hx

theorem mayG_row {G : List (List Int)} (hm : mayG G = true) {u : Nat} {r : List Int} (hr : G[u]? = some r) : ∀ x ∈ r, 0 ≤ x ∧ x < (G.length : Nat) :=
  rowOK_mem (List.all_eq_true.1 hm r (List.mem_of_getElem? hr))

theorem sucI_at {G : List (List Int)} {u : Nat} {r : List Int} (hr : G[u]? = some r) : sucI G u = r.map Int.toNat := by
  simp [sucI, List.getD_eq_getElem?_getD, hr]

theorem sucI_lt {G : List (List Int)} (hm : mayG G = true) {u x : Nat} (hx : x ∈ sucI G u) : x < G.length := by
  cases hr : G[u]? with
  | none => simp [sucI, List.getD_eq_getElem?_getD, hr] at hx
  | some r =>
    rw [sucI_at hr] at hx
    obtain ⟨y, hy, rfl⟩ := List.mem_map.1 hx
    have := mayG_row hm hr y hy
    omega

/-- What a node leads to, in order. -/
noncomputable def fromG (G : List (List Int)) (at_ : Int) : List Int :=
  open Classical in if mayG G = true ∧ 0 ≤ at_ ∧ at_ < (G.length : Nat) then ((List.range G.length).filter fun i => decide (Tar.Reach (sucI G) at_.toNat i)).map Int.ofNat else []

/-- The places of what is met, from the i-th on. -/
def metFrom : Nat → List Bool → List Int
  | _, [] => []
  | i, b :: r => if b then (i : Int) :: metFrom (i + 1) r else metFrom (i + 1) r

theorem metFrom_eq (p : Nat → Bool) : ∀ (l : List Bool) (i : Nat), (∀ j, j < l.length → l[j]? = some (p (i + j))) → metFrom i l = ((List.range' i l.length).filter p).map Int.ofNat
  | [], i, _ => rfl
  | b :: r, i, h => by
    have h0 := h 0 (by simp)
    simp only [List.getElem?_cons_zero, Option.some.injEq, Nat.add_zero] at h0
    have ih := metFrom_eq p r (i + 1) fun j hj => by
      have := h (j + 1) (by simpa using hj)
      rw [List.getElem?_cons_succ] at this
      rw [this]; congr 2; omega
    simp only [metFrom, List.length_cons, List.range'_succ, List.filter_cons]
    rw [ih, h0]
    cases p i <;> rfl

/-- Those that are not met. -/
def unB (n : Nat) (on : List Bool) : Nat := sumR (fun u => if on.getD u false then 0 else 1) n
theorem unB_set {n : Nat} {on : List Bool} {x : Nat} (hx : x < n) (hl : on.length = n) (h0 : on.getD x false = false) : unB n (on.set x true) + 1 = unB n on := by
  unfold unB
  have h1 := sumR_upd (f := fun u => if (on.set x true).getD u false then 0 else 1) (g := fun u => if on.getD u false then 0 else 1) hx fun u hu => by
    rw [getD_setB (by omega), if_neg hu]
  have h2 : (if (on.set x true).getD x false then 0 else 1) = 0 := by rw [getD_setB (by omega), if_pos rfl]; rfl
  have h3 : (if on.getD x false then 0 else 1) = 1 := by rw [h0]; rfl
  have h4 : sumR (fun u => if (on.set x true).getD u false then 0 else 1) n + (if on.getD x false then 0 else 1) = sumR (fun u => if on.getD u false then 0 else 1) n + (if (on.set x true).getD x false then 0 else 1) := h1
  rw [h2, h3] at h4
  omega
end Go.Y
