/- What comes in to a law: data of the row, as values of the abstract machine. -/
import Derived.Test.YtfnpgefoikffdaaDoorYFun
import Derived.WalkKit
import Derived.ProofKit
import Derived.OpenShut
import Derived.ChangeOld
import Derived.Below
import Derived.Carry
import Derived.Deep.Slices
namespace Go.Y
open Go.ChangeShapes Go.WideShapes Go.RowKit

/-- The view of a call's start: all is read-only. -/
def inW (w : World) : Vw := { mu := fun _ => (0, 0), sz := fun _ => 0, snap := fun b => w.heap[b]?, lv := fun _ => False, kn := fun _ => False }

theorem inW_dead (w : World) : Le (inW w) (inW w).dead := ⟨fun _ h => h, fun _ h => h.elim, fun _ h => h.elim, fun _ _ h => h, fun _ h => h.elim⟩

/-- Fields, one behind the other. -/
def ShpF (S : TypeId → List V → Prop) : List TypeId → List V → Prop
  | [], vs => vs = []
  | t :: r, vs => ∃ a b, vs = a ++ b ∧ S t a ∧ ShpF S r b

/-- Cells that are a value of a type, as it comes in. -/
def Shp (Y : YP) : Nat → TypeId → List V → Prop
  | 0, _, _ => False
  | n + 1, t, vs => match Y.kd t with
    | some .bool => ∃ b, vs = [.b b]
    | some (.int k) => ∃ i, vs = [.i k i] ∧ (Lit.int k i).wf = true
    | some .str => ∃ s, vs = [.s s] ∧ s.length ≤ maxLen
    | some (.slice e) => ∃ es : List (List V), vs = [.ts es.flatten es.length none] ∧ (∀ x ∈ es, Shp Y n e x) ∧ es.length ≤ maxLen
    | some (.struct fs) => ShpF (Shp Y n) (fs.map (·.2)) vs
    | some (.arr k e) => ∃ es : List (List V), vs = es.flatten ∧ es.length = k ∧ ∀ x ∈ es, Shp Y n e x
    | _ => False

/-- Do the fields lie one behind the other, without a gap, all of them served? -/
def tilesB (Y : YP) : Nat → List (Nat × TypeId) → Nat → Bool
  | off, [], total => off == total
  | off, f :: r, total => match Y.ty f.2 with
    | some tf => f.1 == off && tilesB Y (off + tf.size) r total
    | none => false

/-- Is a type's data served, so many steps down? -/
def servedB (Y : YP) : Nat → TypeId → Bool
  | 0, _ => true
  | n + 1, t => match Y.ty t with
    | some ti => match ti.kd with
      | .bool | .int _ | .str => true
      | .slice e => (match Y.ty e with | some te => te.size != 0 | none => false) && servedB Y n e
      | .struct fs => tilesB Y 0 fs ti.size && fs.all fun f => servedB Y n f.2
      | .arr k e => (match Y.ty e with | some te => ti.size == k * te.size | none => false) && servedB Y n e
      | _ => false
    | none => false

section
variable {Y : YP} {w : World} {H : Type} {enc : TypeId × Value → H} {base : Nat} {spare : Nat → Bool} {held : Bool}

theorem cellsOf_ty (hY : YOK Y) {t : TypeId} {ti : TI} (ht : Y.ty t = some ti) : Y.P.cellsOf t = ti.size := by
  obtain ⟨i, d, z, h⟩ := hY.ty t ti ht
  simp [Program.cellsOf, h.info, h.size]

/-- Elements of a row. -/
theorem each_vr {S : List V → Prop} : ∀ (n : Nat) (f : Nat → List Value), (∀ i, i < n → ∃ vs, VRs (inW w) vs (f i) ∧ S vs) → ∃ es : List (List V), es.length = n ∧ (∀ x ∈ es, S x) ∧ VRs (inW w) es.flatten ((List.range n).flatMap f)
  | 0, _, _ => ⟨[], rfl, by simp, .nil⟩
  | n + 1, f, h => by
    obtain ⟨es, h1, h2, h3⟩ := each_vr n f fun i hi => h i (by omega)
    obtain ⟨vs, h4, h5⟩ := h n (by omega)
    refine ⟨es ++ [vs], by simp [h1], fun x hx => ?_, ?_⟩
    · rw [List.mem_append] at hx
      rcases hx with hx | hx
      · exact h2 x hx
      · simp at hx; subst hx; exact h5
    · rw [List.flatten_append, List.range_succ, List.flatMap_append]
      refine h3.append ?_
      simpa using h4

theorem flatMap_get {f : Nat → List Value} {k : Nat} (hk : ∀ i, (f i).length = k) : ∀ (n j : Nat) (u : Value), ((List.range n).flatMap f)[j]? = some u → ∃ i r, i < n ∧ r < k ∧ j = i * k + r ∧ (f i)[r]? = some u
  | 0, j, u, h => by simp at h
  | n + 1, j, u, h => by
    rw [List.range_succ, List.flatMap_append] at h
    have hl : ∀ n, ((List.range n).flatMap f).length = n * k := by
      intro n
      induction n with
      | zero => simp
      | succ n ih => rw [List.range_succ, List.flatMap_append, List.length_append, ih, Nat.add_mul]; simp [hk]
    by_cases hj : j < n * k
    · rw [List.getElem?_append_left (by rw [hl]; exact hj)] at h
      obtain ⟨i, r, h1, h2⟩ := flatMap_get hk n j u h
      exact ⟨i, r, by omega, h2⟩
    · rw [List.getElem?_append_right (by rw [hl]; omega), hl] at h
      simp only [List.flatMap_cons, List.flatMap_nil, List.append_nil] at h
      have : j - n * k < k := by
        have := (List.getElem?_eq_some_iff.1 h).1
        rwa [hk] at this
      exact ⟨n, j - n * k, by omega, this, by omega, h⟩

theorem trod_vr (hY : YOK Y) : ∀ (fuel : Nat) (t : TypeId) (cs : List Value) (x : DataW H × List MemPlace), servedB Y fuel t = true → DataW.trod enc Y.P w base spare held fuel t cs = some x →
    ∃ vs, VRs (inW w) vs cs ∧ Shp Y fuel t vs
  | 0, _, _, _, _, h => by simp [DataW.trod] at h
  | n + 1, t, cs, x, hs, h => by
    simp only [servedB] at hs
    split at hs
    · rename_i ti hti
      obtain ⟨inf, d, z, hT⟩ := hY.ty t ti hti
      have hkd : Y.kd t = some ti.kd := by simp [YP.kd, hti]
      have hk := hT.kd
      have hu := hT.und
      simp only [Shp, hkd]
      cases hkk : ti.kd with
      | bool =>
        rw [hkk] at hk; cases hk
        obtain ⟨b, rfl, _⟩ := DataW.trod_bool hu h
        exact ⟨_, .cons _ _ _ _ (.b b) .nil, b, rfl⟩
      | int k =>
        rw [hkk] at hk; cases hk
        obtain ⟨i, rfl, _, hw⟩ := DataW.trod_int hu h
        exact ⟨_, .cons _ _ _ _ (.i k i) .nil, i, rfl, hw⟩
      | str =>
        rw [hkk] at hk; cases hk
        obtain ⟨s, rfl, _, hl⟩ := DataW.trod_string hu h
        have e : (⟨s.data.toList.toArray⟩ : ByteArray) = s := by simp
        refine ⟨[.s s.data.toList], .cons _ _ _ _ ?_ .nil, _, rfl, by simpa using hl⟩
        have := VR.s (W := inW w) s.data.toList
        rwa [e] at this
      | slice e =>
        rw [hkk] at hk hs; cases hk
        simp only [Bool.and_eq_true] at hs
        obtain ⟨hs1, hs2⟩ := hs
        split at hs1
        · rename_i te hte
          have hsz : te.size ≠ 0 := by simpa using hs1
          have hce := cellsOf_ty hY hte
          rcases DataW.trod_slice hu h with ⟨rfl, _⟩ | ⟨a, len, cap, elems, rest, m, hm, rfl, _, _, hl, hcap, hlen, hel, _⟩
          · exact ⟨_, .cons _ _ _ _ (.tsz none (fun _ h => by cases h)) .nil, [], rfl, by simp, by simp⟩
          · simp only [Nat.add_right_cancel_iff] at hm
            subst hm
            by_cases h0 : len = 0
            · subst h0
              exact ⟨_, .cons _ _ _ _ (.tsn 0 none a cap (Nat.zero_le _) (fun _ h => by cases h)) .nil, [], rfl, by simp, by simp⟩
            · have hcell : ∀ i, i < len → ∃ cs' y, w.cells? base (a.add (i * te.size)) te.size = some cs' ∧ DataW.trod enc Y.P w base spare held n e cs' = some y := by
                intro i hi
                have h1 := hel i hi
                rw [hce] at h1
                have h2 : elems[i]? = some (elems[i]'(by omega)) := by simp
                rw [h2] at h1
                cases hc : w.cells? base (a.add (i * te.size)) te.size with
                | none => rw [hc] at h1; simp at h1
                | some cs' => rw [hc] at h1; exact ⟨cs', _, rfl, h1⟩
              let f : Nat → List Value := fun i => (w.cells? base (a.add (i * te.size)) te.size).getD (List.replicate te.size default)
              have hf : ∀ i, (f i).length = te.size := by
                intro i
                simp only [f]
                cases hc : w.cells? base (a.add (i * te.size)) te.size with
                | none => simp
                | some cs' => simpa using (World.cells?_some hc).2.1
              obtain ⟨es, g1, g2, g3⟩ := each_vr (w := w) (S := Shp Y n e) len f fun i hi => by
                obtain ⟨cs', y, h1, h2⟩ := hcell i hi
                obtain ⟨vs, h3, h4⟩ := trod_vr hY n e cs' y hs2 h2
                exact ⟨vs, by simpa [f, h1] using h3, h4⟩
              have hat : ∀ i r, i < len → r < te.size → w.cell? (a.add (i * te.size + r)) = (f i)[r]? := by
                intro i r hi hr
                obtain ⟨cs', y, h1, h2⟩ := hcell i hi
                have h3 := (World.cells?_some h1).2.2 r hr
                simp only [f, h1, Option.getD_some]
                rw [← h3]
                rw [Go.Deep.add_add]
              have hfst : ∃ u, w.cell? a = some u := by
                have h1 := hat 0 0 (by omega) (by omega)
                have h2 : (f 0)[0]? = some ((f 0)[0]'(by rw [hf]; omega)) := by simp
                rw [h2] at h1
                rw [show a.add (0 * te.size + 0) = a by simp [Addr.add_zero']] at h1
                exact ⟨_, h1⟩
              obtain ⟨u0, hu0⟩ := hfst
              have hspot := World.cell?_spot hu0
              obtain ⟨blk, off, sp⟩ := a
              simp only at hspot
              subst hspot
              obtain ⟨c, et, fr, hb⟩ : ∃ c et fr, w.heap[blk]? = some (.cells c et fr) := by
                simp only [World.cell?] at hu0
                split at hu0
                · exact ⟨_, _, _, by assumption⟩
                · cases hu0
              refine ⟨_, .cons _ _ _ _ (.ts es.flatten len none cap blk off c et fr ((List.range len).flatMap f) hl (fun _ h => by cases h) hb (fun j u hj => ?_) (g3.mono (inW_dead w))) .nil, es, by rw [g1], g2, by omega⟩
              obtain ⟨i, r, k1, k2, rfl, k3⟩ := flatMap_get hf len j u hj
              have := hat i r k1 k2
              rw [k3, add_at, cell_of hb] at this
              exact this
        · cases hs1
      | struct fs =>
        rw [hkk] at hk hs
        obtain ⟨l, rfl, hfs, _⟩ := hk
        simp only [Bool.and_eq_true, List.all_eq_true] at hs
        obtain ⟨hs1, hs2⟩ := hs
        obtain ⟨xs, m, hm, _, hlen, hxl, hf⟩ := DataW.trod_struct hu h
        simp only [Nat.add_right_cancel_iff] at hm
        subst hm
        rw [cellsOf_ty hY hti] at hlen
        have hf' : ∀ f ∈ fs, ∀ tf, Y.ty f.2 = some tf → ∃ vs, VRs (inW w) vs ((cs.drop f.1).take tf.size) ∧ Shp Y n f.2 vs := by
          intro f hfm tf htf
          rw [hfs] at hfm
          simp only [List.mem_map, Array.mem_toList_iff] at hfm
          obtain ⟨fd, hfd, rfl⟩ := hfm
          obtain ⟨i, hi, rfl⟩ := Array.mem_iff_getElem.1 hfd
          have h1 := hf i l[i] (by simp [hi])
          rw [cellsOf_ty hY htf] at h1
          have h2 : xs[i]? = some (xs[i]'(by omega)) := by simp
          rw [h2] at h1
          exact trod_vr hY n _ _ _ (hs2 (l[i].offset, l[i].type) (by rw [hfs]; exact List.mem_map.2 ⟨l[i], by simp, rfl⟩)) h1
        have key : ∀ (fs : List (Nat × TypeId)) (off : Nat), tilesB Y off fs ti.size = true → off ≤ cs.length → (∀ f ∈ fs, ∀ tf, Y.ty f.2 = some tf → ∃ vs, VRs (inW w) vs ((cs.drop f.1).take tf.size) ∧ Shp Y n f.2 vs) →
            ∃ vs, VRs (inW w) vs (cs.drop off) ∧ ShpF (Shp Y n) (fs.map (·.2)) vs := by
          intro fs
          induction fs with
          | nil =>
            intro off ht _ _
            simp only [tilesB, beq_iff_eq] at ht
            refine ⟨[], ?_, rfl⟩
            rw [List.drop_of_length_le (by omega)]; exact .nil
          | cons f r ih =>
            intro off ht ho hall
            simp only [tilesB] at ht
            split at ht
            · rename_i tf htf
              simp only [Bool.and_eq_true, beq_iff_eq] at ht
              obtain ⟨rfl, ht⟩ := ht
              have hle : f.1 + tf.size ≤ cs.length := by
                rw [hlen]
                clear ih hall
                have : ∀ (r : List (Nat × TypeId)) (o : Nat), tilesB Y o r ti.size = true → o ≤ ti.size := by
                  intro r
                  induction r with
                  | nil => intro o h; simp only [tilesB, beq_iff_eq] at h; omega
                  | cons g r ih =>
                    intro o h
                    simp only [tilesB] at h
                    split at h
                    · simp only [Bool.and_eq_true, beq_iff_eq] at h
                      have := ih _ h.2; omega
                    · cases h
                exact this r _ ht
              have := hall f (by simp) tf htf
              obtain ⟨a, ha1, ha2⟩ := this
              obtain ⟨b, hb1, hb2⟩ := ih (f.1 + tf.size) ht hle fun g hg => hall g (by simp [hg])
              refine ⟨a ++ b, ?_, a, b, rfl, ha2, hb2⟩
              have := ha1.append hb1
              rwa [← List.drop_drop, List.take_append_drop] at this
            · cases ht
        obtain ⟨vs, k1, k2⟩ := key fs 0 hs1 (Nat.zero_le _) hf'
        exact ⟨vs, by simpa using k1, k2⟩
      | arr k e =>
        rw [hkk] at hk hs
        obtain ⟨rfl, _⟩ := hk
        simp only [Bool.and_eq_true] at hs
        obtain ⟨hs1, hs2⟩ := hs
        split at hs1
        · rename_i te hte
          have hsz : ti.size = k * te.size := by simpa using hs1
          obtain ⟨xs, m, hm, _, hlen, hxl, hf⟩ := DataW.trod_array hu h
          simp only [Nat.add_right_cancel_iff] at hm
          subst hm
          rw [cellsOf_ty hY hti] at hlen
          rw [cellsOf_ty hY hte] at hf
          obtain ⟨es, g1, g2, g3⟩ := each_vr (w := w) (S := Shp Y n e) k (fun i => (cs.drop (i * te.size)).take te.size) fun i hi => by
            have h1 := hf i hi
            have h2 : xs[i]? = some (xs[i]'(by omega)) := by simp
            rw [h2] at h1
            exact trod_vr hY n e _ _ hs2 h1
          refine ⟨es.flatten, ?_, es, rfl, g1, g2⟩
          have : (List.range k).flatMap (fun i => (cs.drop (i * te.size)).take te.size) = cs := by
            have aux : ∀ m, m ≤ k → (List.range m).flatMap (fun i => (cs.drop (i * te.size)).take te.size) = cs.take (m * te.size) := by
              intro m
              induction m with
              | zero => intro _; simp
              | succ m ih =>
                intro hm
                rw [List.range_succ, List.flatMap_append, ih (by omega), Nat.add_mul, Nat.one_mul, List.take_add]
                simp
            rw [aux k (Nat.le_refl _), ← hsz, ← hlen, List.take_length]
          rwa [this] at g3
        · cases hs1
      | ptr _ => rw [hkk] at hs; cases hs
      | map _ _ => rw [hkk] at hs; cases hs
      | func => rw [hkk] at hs; cases hs
      | iface => rw [hkk] at hs; cases hs
      | other => rw [hkk] at hs; cases hs
    · cases hs
end

/-- A law that answers true: its call, as the row asks for it. -/
theorem PCon.calls {Y : YP} {f : FuncId} {args : List V} {w : World} {us : List Value} (h : PCon Y f args (· = .b true)) (hg : Tabbed (inW w)) (hv : VRs (inW w) args us) :
    Calls Y.P f us.toArray w fun e w' => e = .returned (.bool true) ∧ Below w.heap.size w w' := by
  refine (h.tr (inW w) w us (fun _ _ h => h) hg hv).mono ?_
  rintro e w' ⟨r, W', u, rfl, rfl, hr, _, _, _, hs, hk, _, st⟩
  cases hr
  exact ⟨rfl, st.os, st.tape, st.output, hs, hk⟩

/-- Fields of one cell each. -/
theorem shp_int {Y : YP} {n : Nat} {t : TypeId} {k : IntKind} (hk : Y.kd t = some (.int k)) {vs : List V} (h : Shp Y n t vs) : ∃ i, vs = [.i k i] ∧ (Lit.int k i).wf = true := by
  cases n with
  | zero => exact h.elim
  | succ n => simpa [Shp, hk] using h
theorem shp_bool {Y : YP} {n : Nat} {t : TypeId} (hk : Y.kd t = some .bool) {vs : List V} (h : Shp Y n t vs) : ∃ b, vs = [.b b] := by
  cases n with
  | zero => exact h.elim
  | succ n => simpa [Shp, hk] using h
theorem shp_str {Y : YP} {n : Nat} {t : TypeId} (hk : Y.kd t = some .str) {vs : List V} (h : Shp Y n t vs) : ∃ s, vs = [.s s] ∧ s.length ≤ maxLen := by
  cases n with
  | zero => exact h.elim
  | succ n => simpa [Shp, hk] using h
theorem shp_slice {Y : YP} {n : Nat} {t e : TypeId} (hk : Y.kd t = some (.slice e)) {vs : List V} (h : Shp Y n t vs) :
    ∃ (m : Nat) (es : List (List V)), n = m + 1 ∧ vs = [.ts es.flatten es.length none] ∧ (∀ x ∈ es, Shp Y m e x) ∧ es.length ≤ maxLen := by
  cases n with
  | zero => exact h.elim
  | succ n => obtain ⟨es, h1, h2⟩ := (by simpa [Shp, hk] using h : ∃ es : List (List V), vs = [.ts es.flatten es.length none] ∧ (∀ x ∈ es, Shp Y n e x) ∧ es.length ≤ maxLen); exact ⟨n, es, rfl, h1, h2⟩
theorem shp_struct {Y : YP} {n : Nat} {t : TypeId} {fs : List (Nat × TypeId)} (hk : Y.kd t = some (.struct fs)) {vs : List V} (h : Shp Y n t vs) :
    ∃ m : Nat, n = m + 1 ∧ ShpF (Shp Y m) (fs.map (·.2)) vs := by
  cases n with
  | zero => exact h.elim
  | succ n => exact ⟨n, rfl, by simpa [Shp, hk] using h⟩

theorem list_of {α : Type} {f : α → List V} : ∀ {es : List (List V)}, (∀ x ∈ es, ∃ a, x = f a) → ∃ l : List α, es.map id = l.map f
  | [], _ => ⟨[], rfl⟩
  | x :: es, h => by
    obtain ⟨a, rfl⟩ := h x (by simp)
    obtain ⟨l, hl⟩ := list_of (f := f) (es := es) fun y hy => h y (by simp [hy])
    exact ⟨a :: l, by simp at hl ⊢; exact hl⟩
end Go.Y
