/- What comes in to a law: data of the row, as values of the abstract machine. -/
import Derived.Test.YteennilbmmlikaaGreatDoorYLoop
import Derived.WalkKit
import Derived.ProofKit
import Derived.OpenShut
import Derived.ChangeOld
import Derived.Below
import Derived.Carry
import Derived.Deep.Slices
namespace Go.Y
open Go.ChangeShapes Go.WideShapes Go.RowKit

def inW (w : World) : Vw := { mu := fun _ => (0, 0), sz := fun _ => 0, snap := fun b => w.heap[b]?, lv := fun _ => False, kn := fun _ => False }

theorem inW_dead (w : World) : Le (inW w) (inW w).dead := ⟨fun _ h => h, fun _ h => h.elim, fun _ h => h.elim, fun _ _ h => h, fun _ h => h.elim⟩

def ShpF (S : TypeId → List V → Prop) : List TypeId → List V → Prop
  | [], vs => vs = []
  | t :: r, vs => ∃ a b, vs = a ++ b ∧ S t a ∧ ShpF S r b

def Shp (Y : YP) : Nat → TypeId → List V → Prop
  | 0, _, _ => False
  | n + 1, t, vs => match Y.kd t with
    | some .bool => ∃ b, vs = [.b b]
    | some (.int k) => ∃ i, vs = [.i k i] ∧ (Lit.int k i).wf = true
    | some .str => ∃ s, vs = [.s s] ∧ s.length ≤ maxLen
    | some (.slice e) => ∃ es : List (List V), vs = [.ts es.flatten es.length none] ∧ (∀ x ∈ es, Shp Y n e x) ∧ es.length ≤ maxLen
    | some (.struct fs) => ShpF (Shp Y n) (fs.map (·.2)) vs
    | some (.arr k e) => ∃ es : List (List V), vs = es.flatten ∧ es.length = k ∧ ∀ x ∈ es, Shp Y n e x
    | _ => False

def tilesB (Y : YP) : Nat → List (Nat × TypeId) → Nat → Bool
  | off, [], total => off == total
  | off, f :: r, total => match Y.ty f.2 with
    | some tf => f.1 == off && tilesB Y (off + tf.size) r total
    | none => false

def servedB (Y : YP) : Nat → TypeId → Bool
  | 0, _ => true
  | n + 1, t => match Y.ty t with
    | some ti => match ti.kd with
      | .bool | .int _ | .str => true
      | .slice e => (match Y.ty e with | some te => te.size != 0 | none => false) && servedB Y n e
      | .struct fs => tilesB Y 0 fs ti.size && fs.all fun f => servedB Y n f.2
      | .arr k e => (match Y.ty e with | some te => ti.size == k * te.size | none => false) && servedB Y n e
      | _ => false
    | none => false

section
variable {Y : YP} {w : World} {H : Type} {enc : TypeId × Value → H} {base : Nat} {spare : Nat → Bool} {held : Bool}

theorem cellsOf_ty (hY : YOK Y) {t : TypeId} {ti : TI} (ht : Y.ty t = some ti) : Y.P.cellsOf t = ti.size := by
  obtain ⟨i, d, z, h⟩ := hY.ty t ti ht
  simp [Program.cellsOf, h.info, h.size]

theorem each_vr {S : List V → Prop} : ∀ (n : Nat) (f : Nat → List Value), (∀ i, i < n → ∃ vs, VRs (inW w) vs (f i) ∧ S vs) → ∃ es : List (List V), es.length = n ∧ (∀ x ∈ es, S x) ∧ VRs (inW w) es.flatten ((List.range n).flatMap f)
  | 0, _, _ => ⟨[], rfl, by simp, .nil⟩
  | n + 1, f, h => by
    obtain ⟨es, h1, h2, h3⟩ := each_vr n f fun i hi => h i (by omega)
    obtain ⟨vs, h4, h5⟩ := h n (by omega)
    refine ⟨es ++ [vs], by simp [h1], fun x hx => ?_, ?_⟩
    · rw [List.mem_append] at hx
      rcases hx with hx | hx
      · exact h2 x hx
      · simp at hx; subst hx; exact h5
    · rw [List.flatten_append, List.range_succ, List.flatMap_append]
      refine h3.append ?_
      simpa using h4

theorem flatMap_get {f : Nat → List Value} {k : Nat} (hk : ∀ i, (f i).length = k) : ∀ (n j : Nat) (u : Value), ((List.range n).flatMap f)[j]? = some u → ∃ i r, i < n ∧ r < k ∧ j = i * k + r ∧ (f i)[r]? = some u
  | 0, j, u, h => by simp at h
  | n + 1, j, u, h => by
    rw [List.range_succ, List.flatMap_append] at h
    have hl : ∀ n, ((List.range n).flatMap f).length = n * k := by
      intro n
      induction n with
      | zero => simp
      | succ n ih => rw [List.range_succ, List.flatMap_append, List.length_append, ih, Nat.add_mul]; simp [hk]
    by_cases hj : j < n * k
    · rw [List.getElem?_append_left (by rw [hl]; exact hj)] at h
      obtain ⟨i, r, h1, h2⟩ := flatMap_get hk n j u h
      exact ⟨i, r, by omega, h2⟩
    · rw [List.getElem?_append_right (by rw [hl]; omega), hl] at h
      simp only [List.flatMap_cons, List.flatMap_nil, List.append_nil] at h
      have : j - n * k < k := by
        have := (List.getElem?_eq_some_iff.1 h).1
        rwa [hk] at this
      exact ⟨n, j - n * k, by omega, this, by omega, h⟩

theorem trod_vr (hY : YOK Y) : ∀ (fuel : Nat) (t : TypeId) (cs : List Value) (x : DataW H × List MemPlace), servedB Y fuel t = true → DataW.trod enc Y.P w base spare held fuel t cs = some x →
    ∃ vs, VRs (inW w) vs cs ∧ Shp Y fuel t vs
  | 0, _, _, _, _, h => by simp [DataW.trod] at h
  | n + 1, t, cs, x, hs, h => by
    simp only [servedB] at hs
    split at hs
    · rename_i ti hti
      obtain ⟨inf, d, z, hT⟩ := hY.ty t ti hti
      have hkd : Y.kd t = some ti.kd := by simp [YP.kd, hti]
      have hk := hT.kd
      have hu := hT.und
      simp only [Shp, hkd]
      cases hkk : ti.kd with
      | bool =>
        rw [hkk] at hk; cases hk
        obtain ⟨b, rfl, _⟩ := DataW.trod_bool hu h
        exact ⟨_, .cons _ _ _ _ (.b b) .nil, b, rfl⟩
      | int k =>
        rw [hkk] at hk; cases hk
        obtain ⟨i, rfl, _, hw⟩ := DataW.trod_int hu h
        exact ⟨_, .cons _ _ _ _ (.i k i) .nil, i, rfl, hw⟩
      | str =>
        rw [hkk] at hk; cases hk
        obtain ⟨s, rfl, _, hl⟩ := DataW.trod_string hu h
        have e : (⟨s.data.toList.toArray⟩ : ByteArray) = s := by simp
        refine ⟨[.s s.data.toList], .cons _ _ _ _ ?_ .nil, _, rfl, by simpa using hl⟩
        have := VR.s (W := inW w) s.data.toList
        rwa [e] at this
      | slice e =>
        rw [hkk] at hk hs; cases hk
        simp only [Bool.and_eq_true] at hs
        obtain ⟨hs1, hs2⟩ := hs
        split at hs1
        · rename_i te hte
          have hsz : te.size ≠ 0 := by simpa using hs1
          have hce := cellsOf_ty hY hte
          rcases DataW.trod_slice hu h with ⟨rfl, _⟩ | ⟨a, len, cap, elems, rest, m, hm, rfl, _, _, hl, hcap, hlen, hel, _⟩
          · exact ⟨_, .cons _ _ _ _ (.tsz none (fun _ h => by cases h)) .nil, [], rfl, by simp, by simp⟩
          · simp only [Nat.add_right_cancel_iff] at hm
            subst hm
            by_cases h0 : len = 0
            · subst h0
              exact ⟨_, .cons _ _ _ _ (.tsn 0 none a cap (Nat.zero_le _) (fun _ h => by cases h)) .nil, [], rfl, by simp, by simp⟩
            · have hcell : ∀ i, i < len → ∃ cs' y, w.cells? base (a.add (i * te.size)) te.size = some cs' ∧ DataW.trod enc Y.P w base spare held n e cs' = some y := by
                intro i hi
                have h1 := hel i hi
                rw [hce] at h1
                have h2 : elems[i]? = some (elems[i]'(by omega)) := by simp
                rw [h2] at h1
                cases hc : w.cells? base (a.add (i * te.size)) te.size with
                | none => rw [hc] at h1; simp at h1
                | some cs' => rw [hc] at h1; exact ⟨cs', _, rfl, h1⟩
              let f : Nat → List Value := fun i => (w.cells? base (a.add (i * te.size)) te.size).getD (List.replicate te.size default)
              have hf : ∀ i, (f i).length = te.size := by
                intro i
                simp only [f]
                cases hc : w.cells? base (a.add (i * te.size)) te.size with
                | none => simp
                | some cs' => simpa using (World.cells?_some hc).2.1
              obtain ⟨es, g1, g2, g3⟩ := each_vr (w := w) (S := Shp Y n e) len f fun i hi => by
                obtain ⟨cs', y, h1, h2⟩ := hcell i hi
                obtain ⟨vs, h3, h4⟩ := trod_vr hY n e cs' y hs2 h2
                exact ⟨vs, by simpa [f, h1] using h3, h4⟩
              have hat : ∀ i r, i < len → r < te.size → w.cell? (a.add (i * te.size + r)) = (f i)[r]? := by
                intro i r hi hr
                obtain ⟨cs', y, h1, h2⟩ := hcell i hi
                have h3 := (World.cells?_some h1).2.2 r hr
                simp only [f, h1, Option.getD_some]
                rw [← h3]
                rw [Go.Deep.add_add]
              have hfst : ∃ u, w.cell? a = some u := by
                have h1 := hat 0 0 (by omega) (by omega)
                have h2 : (f 0)[0]? = some ((f 0)[0]'(by rw [hf]; omega)) := by simp
                rw [h2] at h1
                rw [show a.add (0 * te.size + 0) = a by simp [Addr.add_zero']] at h1
                exact ⟨_, h1⟩
              obtain ⟨u0, hu0⟩ := hfst
              have hspot := World.cell?_spot hu0
              obtain ⟨blk, off, sp⟩ := a
              simp only at hspot
              subst hspot
              obtain ⟨c, et, fr, hb⟩ : ∃ c et fr, w.heap[blk]? = some (.cells c et fr) := by
                simp only [World.cell?] at hu0
                split at hu0
                · exact ⟨_, _, _, by assumption⟩
                · cases hu0
              refine ⟨_, .cons _ _ _ _ (.ts es.flatten len none cap blk off c et fr ((List.range len).flatMap f) hl (fun _ h => by cases h) hb (fun j u hj => ?_) (g3.mono (inW_dead w))) .nil, es, by rw [g1], g2, by omega⟩
              obtain ⟨i, r, k1, k2, rfl, k3⟩ := flatMap_get hf len j u hj
              have := hat i r k1 k2
              rw [k3, add_at, cell_of hb] at this
              exact this
        · cases hs1
      | struct fs =>
        rw [hkk] at hk hs
        obtain ⟨l, rfl, hfs, _⟩ := hk
        simp only [Bool.and_eq_true, List.all_eq_true] at hs
        obtain ⟨hs1, hs2⟩ := hs
        obtain ⟨xs, m, hm, _, hlen, hxl, hf⟩ := DataW.trod_struct hu h
        simp only [Nat.add_right_cancel_iff] at hm
        subst hm
        rw [cellsOf_ty hY hti] at hlen
        have hf' : ∀ f ∈ fs, ∀ tf, Y.ty f.2 = some tf → ∃ vs, VRs (inW w) vs ((cs.drop f.1).take tf.size) ∧ Shp Y n f.2 vs := by
          intro f hfm tf htf
          rw [hfs] at hfm
          simp only [List.mem_map, Array.mem_toList_iff] at hfm
          obtain ⟨fd, hfd, rfl⟩ := hfm
          obtain ⟨i, hi, rfl⟩ := Array.mem_iff_getElem.1 hfd
          have h1 := hf i l[i] (by simp [hi])
          rw [cellsOf_ty hY htf] at h1
          have h2 : xs[i]? = some (xs[i]'(by omega)) := by simp
          rw [h2] at h1
          exact trod_vr hY n _ _ _ (hs2 (l[i].offset, l[i].type) (by rw [hfs]; exact List.mem_map.2 ⟨l[i], by simp, rfl⟩)) h1
        have key : ∀ (fs : List (Nat × TypeId)) (off : Nat), tilesB Y off fs ti.size = true → off ≤ cs.length → (∀ f ∈ fs, ∀ tf, Y.ty f.2 = some tf → ∃ vs, VRs (inW w) vs ((cs.drop f.1).take tf.size) ∧ Shp Y n f.2 vs) →
            ∃ vs, VRs (inW w) vs (cs.drop off) ∧ ShpF (Shp Y n) (fs.map (·.2)) vs := by
          intro fs
          induction fs with
          | nil =>
            intro off ht _ _
            simp only [tilesB, beq_iff_eq] at ht
            refine ⟨[], ?_, rfl⟩
            rw [List.drop_of_length_le (by omega)]; exact .nil
          | cons f r ih =>
            intro off ht ho hall
            simp only [tilesB] at ht
            split at ht
            · rename_i tf htf
              simp only [Bool.and_eq_true, beq_iff_eq] at ht
              obtain ⟨rfl, ht⟩ := ht
              have hle : f.1 + tf.size ≤ cs.length := by
                rw [hlen]
                clear ih hall
                have : ∀ (r : List (Nat × TypeId)) (o : Nat), tilesB Y o r ti.size = true → o ≤ ti.size := by
                  intro r
                  induction r with
                  | nil => intro o h; simp only [tilesB, beq_iff_eq] at h; omega
                  | cons g r ih =>
                    intro o h
                    simp only [tilesB] at h
                    split at h
                    · simp only [Bool.and_eq_true, beq_iff_eq] at h
                      have := ih _ h.2; omega
                    · cases h
                exact this r _ ht
              have := hall f (by simp) tf htf
              obtain ⟨a, ha1, ha2⟩ := this
              obtain ⟨b, hb1, hb2⟩ := ih (f.1 + tf.size) ht hle fun g hg => hall g (by simp [hg])
              refine ⟨a ++ b, ?_, a, b, rfl, ha2, hb2⟩
              have := ha1.append hb1
              rwa [← List.drop_drop, List.take_append_drop] at this
            · cases ht
        obtain ⟨vs, k1, k2⟩ := key fs 0 hs1 (Nat.zero_le _) hf'
        exact ⟨vs, by simpa using k1, k2⟩
      | arr k e =>
        rw [hkk] at hk hs
        obtain ⟨rfl, _⟩ := hk
        simp only [Bool.and_eq_true] at hs
        obtain ⟨hs1, hs2⟩ := hs
        split at hs1
        · rename_i te hte
          have hsz : ti.size = k * te.size := by simpa using hs1
          obtain ⟨xs, m, hm, _, hlen, hxl, hf⟩ := DataW.trod_array hu h
          simp only [Nat.add_right_cancel_iff] at hm
          subst hm
          rw [cellsOf_ty hY hti] at hlen
          rw [cellsOf_ty hY hte] at hf
          obtain ⟨es, g1, g2, g3⟩ := each_vr (w := w) (S := Shp Y n e) k (fun i => (cs.drop (i * te.size)).take te.size) fun i hi => by
            have h1 := hf i hi
            have h2 : xs[i]? = some (xs[i]'(by omega)) := by simp
            rw [h2] at h1
            exact trod_vr hY n e _ _ hs2 h1
          refine ⟨es.flatten, ?_, es, rfl, g1, g2⟩
          have : (List.range k).flatMap (fun i => (cs.drop (i * te.size)).take te.size) = cs := by
            have aux : ∀ m, m ≤ k → (List.range m).flatMap (fun i => (cs.drop (i * te.size)).take te.size) = cs.take (m * te.size) := by
              intro m
              induction m with
              | zero => intro _; simp
              | succ m ih =>
                intro hm
                rw [List.range_succ, List.flatMap_append, ih (by omega), Nat.add_mul, Nat.one_mul, List.take_add]
                simp
            rw [aux k (Nat.le_refl _), ← hsz, ← hlen, List.take_length]
          rwa [this] at g3
        · cases hs1
      | ptr _ => rw [hkk] at hs; cases hs
      | map _ _ => rw [hkk] at hs; cases hs
      | func => rw [hkk] at hs; cases hs
      | iface => rw [hkk] at hs; cases hs
      | other => rw [hkk] at hs; cases hs
    · cases hs
end

theorem PCon.calls {Y : YP} {f : FuncId} {args : List V} {w : World} {us : List Value} (h : PCon Y f args (· = .b true)) (hg : Tabbed (inW w)) (hv : VRs (inW w) args us) :
    Calls Y.P f us.toArray w fun e w' => e = .returned (.bool true) ∧ Below w.heap.size w w' := by
  refine (h.tr (inW w) w us (fun _ _ h => h) hg hv).mono ?_
  rintro e w' ⟨r, W', u, rfl, rfl, hr, _, _, _, hs, hk, _, st⟩
  cases hr
  exact ⟨rfl, st.os, st.tape, st.output, hs, hk⟩

theorem shp_int {Y : YP} {n : Nat} {t : TypeId} {k : IntKind} (hk : Y.kd t = some (.int k)) {vs : List V} (h : Shp Y n t vs) : ∃ i, vs = [.i k i] ∧ (Lit.int k i).wf = true := by
  cases n with
  | zero => exact h.elim
  | succ n => simpa [Shp, hk] using h
theorem shp_bool {Y : YP} {n : Nat} {t : TypeId} (hk : Y.kd t = some .bool) {vs : List V} (h : Shp Y n t vs) : ∃ b, vs = [.b b] := by
  cases n with
  | zero => exact h.elim
  | succ n => simpa [Shp, hk] using h
theorem shp_str {Y : YP} {n : Nat} {t : TypeId} (hk : Y.kd t = some .str) {vs : List V} (h : Shp Y n t vs) : ∃ s, vs = [.s s] ∧ s.length ≤ maxLen := by
  cases n with
  | zero => exact h.elim
  | succ n => simpa [Shp, hk] using h
theorem shp_slice {Y : YP} {n : Nat} {t e : TypeId} (hk : Y.kd t = some (.slice e)) {vs : List V} (h : Shp Y n t vs) :
    ∃ (m : Nat) (es : List (List V)), n = m + 1 ∧ vs = [.ts es.flatten es.length none] ∧ (∀ x ∈ es, Shp Y m e x) ∧ es.length ≤ maxLen := by
  cases n with
  | zero => exact h.elim
  | succ n => obtain ⟨es, h1, h2⟩ := (by simpa [Shp, hk] using h : ∃ es : List (List V), vs = [.ts es.flatten es.length none] ∧ (∀ x ∈ es, Shp Y n e x) ∧ es.length ≤ maxLen); exact ⟨n, es, rfl, h1, h2⟩
theorem shp_struct {Y : YP} {n : Nat} {t : TypeId} {fs : List (Nat × TypeId)} (hk : Y.kd t = some (.struct fs)) {vs : List V} (h : Shp Y n t vs) :
    ∃ m : Nat, n = m + 1 ∧ ShpF (Shp Y m) (fs.map (·.2)) vs := by
  cases n with
  | zero => exact h.elim
  | succ n => exact ⟨n, rfl, by simpa [Shp, hk] using h⟩

theorem list_of {α : Type} {f : α → List V} : ∀ {es : List (List V)}, (∀ x ∈ es, ∃ a, x = f a) → ∃ l : List α, es.map id = l.map f
  | [], _ => ⟨[], rfl⟩
  | x :: es, h => by
    obtain ⟨a, rfl⟩ := h x (by simp)
    obtain ⟨l, hl⟩ := list_of (f := f) (es := es) fun y hy => h y (by simp [hy])
    exact ⟨a :: l, by simp at hl ⊢; exact hl⟩
end Go.Y

/- What a function hands back becomes read-only; slices.Clone. -/
namespace Go.Y

def FrzT (h : Heap) (v v' : V) : Prop := FrzA h v v' ∨ ∃ vs vs', v = .tup vs ∧ v' = .tup vs' ∧ FrzAL h vs vs'

theorem FrzT.vr {W W' : Vw} {h : Heap} {w : World} (z : Fz W h w W') (hle : Le W W') {v v' : V} (f : FrzT h v v') {u : Value} (r : VR W v u) : VR W' v' u := by
  rcases f with f | ⟨vs, vs', rfl, rfl, f⟩
  · exact f.vr z hle r
  · cases r with | tup _ us h1 => exact .tup _ _ (f.vr z hle h1)

def AfterZ (Q : V → Heap → Prop) (v : V) (h : Heap) : Prop := ∃ (D : List Nat) (v' : V), FrzT (takeD h D) v v' ∧ Q v' (killD h D)

theorem AfterZ.now {Q : V → Heap → Prop} {v : V} {h : Heap} (hq : Q v h) : AfterZ Q v h := ⟨[], v, .inl (.same v), hq⟩

theorem Con.freeze {Y : YP} {f : FuncId} {args : List V} {h : Heap} {Q : V → Heap → Prop} (c : Con Y f args h (AfterZ Q)) : Con Y f args h Q :=
  ⟨c.body, fun W w us hr hv => (c.tr W w us hr hv).mono fun e w' ⟨v, h1, W', u, ⟨D, v', hf, hq⟩, he, hh, hvu, hst⟩ => by
    obtain ⟨g1, g2⟩ := hh.frzD D
    exact ⟨v', _, _, u, hq, he, g1, hf.vr (Fz.of hh D) (frzD_le hh D) hvu, hst.trans g2⟩⟩

theorem conz_of {Y : YP} (hY : YOK Y) {f : FuncId} {fn : Func} (hf : Y.P.funcs[f]? = some fn) (hb : fn.body.isSome = true) {args : List V} {h : Heap} {Q : V → Heap → Prop}
    (ht : TriL Y (flat (bodyOf fn)) ⟨args ++ List.replicate (fn.ntmps - args.length) .undef, [], h⟩ (FinS Y fn (AfterZ Q))) : Con Y f args h Q := Con.freeze (con_of hY hf hb ht)

theorem finC {Y : YP} {fn : Func} {slots : List Nat} {Q : V → Heap → Prop} {o : Out} {n : Nat} {vs : List V} {h : Heap} {v : V} (ho : o = .normal ∨ o = .ret) (hv : resV Y fn (slots.zip vs) = some v) (hq : AfterZ Q v h) :
    Fin Y fn slots (AfterZ Q) o n vs h := ⟨ho, v, hv, hq⟩

def cloneV (k : Nat) : List V → Heap → Option (V × Heap)
  | [.sl none 0 _ _], h => some (.sl none 0 (some 0) 0, h)
  | [.ts _ 0 _], h => some (.ts [] 0 (some 0), h)
  | [.ts cs (n + 1) _], h => match takeX ((n + 1) * k) cs with
    | some c => if allCells c = true ∧ n + 1 ≤ 2 ^ 30 then some (.sl (some (h.nx, 0)) (n + 1) none k, h.push (.arr c true)) else none
    | none => none
  | _, _ => none

theorem clone_app0 {Y : YP} {st e : TypeId} {te : TI} (hk : Y.kd st = some (.slice e)) (hte : Y.ty e = some te) (h0 : te.size ≠ 0) (cs : List V) (cap : Option Nat) (h : Heap) :
    appendH Y h st st (.ts [] 0 (some 0)) (.ts cs 0 cap) = some (.ts [] 0 (some 0), h) := by
  simp [appendH, appendY, hk, hte, source, elems, elemsS, takeX, allCells, h0]

theorem clone_app {Y : YP} {st e : TypeId} {te : TI} (hk : Y.kd st = some (.slice e)) (hte : Y.ty e = some te) (h0 : te.size ≠ 0) (hb : te.bytes ≤ 1024) {cs c : List V} {n : Nat} {cap : Option Nat} (hc : takeX ((n + 1) * te.size) cs = some c) (ha : allCells c = true) (hn : n + 1 ≤ 2 ^ 30)
    (h : Heap) : appendH Y h st st (.ts [] 0 (some 0)) (.ts cs (n + 1) cap) = some (.sl (some (h.nx, 0)) (n + 1) none te.size, h.push (.arr c true)) := by
  have hsrc : source Y ⟨[], [], h⟩ te st (.ts cs (n + 1) cap) = some (n + 1, c) := by
    simp only [source, hk, elems, elemsS, hc]; rfl
  have hm : most = 1099511627776 := by decide
  have h1 : (n + 1) * te.bytes ≤ 2 ^ 30 * 1024 := Nat.mul_le_mul hn hb
  have h2 : ¬ ((0 + (n + 1)) * te.bytes > most ∨ 0 + (n + 1) > most) := by rw [Nat.zero_add, hm]; omega
  have h3 : ¬ (0 + (n + 1) ≤ 0) := by omega
  simp only [appendH, appendY, hk, hte, hsrc]
  rw [if_neg (by simp [ha, h0])]
  simp only [Nat.succ_ne_zero, if_false]
  rw [if_neg h2]
  simp [takeX]

theorem clone_con {Y : YP} (hY : YOK Y) {f : FuncId} {fn : Func} (hf : Y.P.funcs[f]? = some fn) (hb : fn.body.isSome = true) {st e : TypeId} {te : TI} {k : Nat} (hk : Y.kd st = some (.slice e)) (hte : Y.ty e = some te) (hk0 : te.size = k) (h0 : k ≠ 0) (hby : te.bytes ≤ 1024)
    (t0 : ∀ (c : Option Nat) (k : Nat) (h : Heap) (K : Out → Nat → List V → Heap → Prop), K .ret 8 [V.sl none 0 (some 0) 0] h → TriL Y (flat (bodyOf fn)) ⟨[V.sl none 0 c k] ++ List.replicate (fn.ntmps - 1) .undef, [], h⟩ (VQ [2] K))
    (t1 : ∀ (cs : List V) (n : Nat) (c : Option Nat) (h : Heap) (K : Out → Nat → List V → Heap → Prop), ((n = 0 → K Out.ret 8 [V.sl none 0 (some 0) 0] h) ∧
      ((∃ (a : Option (Nat × Nat)), ∃ (l : Nat), ∃ (c_1 : Option Nat), ∃ (k : Nat), ∃ (h_1 : Heap), appendH Y h st st (V.ts [] 0 (some 0)) (V.ts cs n c) = some (V.sl a l c_1 k, h_1) ∧ K Out.ret 8 [V.sl a l c_1 k] h_1) ∨
        appendH Y h st st (V.ts [] 0 (some 0)) (V.ts cs n c) = some (V.ts [] 0 (some 0), h) ∧ K Out.ret 8 [V.ts [] 0 (some 0)] h)) → TriL Y (flat (bodyOf fn)) ⟨[V.ts cs n c] ++ List.replicate (fn.ntmps - 1) .undef, [], h⟩ (VQ [2] K))
    (hr : fn.results.toList = [.tmp 2]) {args : List V} {h : Heap} {v : V} {h' : Heap} (hv : cloneV k args h = some (v, h')) : Con Y f args h fun v' k' => v' = v ∧ k' = h' := by
  have hres : ∀ v : V, v.plain = v → v ≠ .undef → resV Y fn ([2].zip [v]) = some v := by
    intro v h1 h2
    simp only [resV, hr, resVs, resV1, List.zip_cons_cons, List.zip_nil_right, lookV, if_true, Option.map_some, h1]
  have view : ∀ {args : List V} {h : Heap} {Q : V → Heap → Prop}, TriL Y (flat (bodyOf fn)) ⟨args ++ List.replicate (fn.ntmps - args.length) .undef, [], h⟩ (VQ [2] (Fin Y fn [2] (AfterZ Q))) → Con Y f args h Q := fun ht =>
    conz_of hY hf hb (TriL.mono ht fun o σ' ho => fin_ok ho σ' rfl rfl rfl)
  unfold cloneV at hv
  split at hv
  · simp only [Option.some.injEq, Prod.mk.injEq] at hv
    obtain ⟨rfl, rfl⟩ := hv
    exact view (t0 _ _ _ _ (finC (.inr rfl) (hres _ rfl (fun e => nomatch e)) (.now ⟨rfl, rfl⟩)))
  · simp only [Option.some.injEq, Prod.mk.injEq] at hv
    obtain ⟨rfl, rfl⟩ := hv
    refine view (t1 _ _ _ _ _ ⟨fun _ => finC (.inr rfl) (hres _ rfl (fun e => nomatch e)) ⟨[], _, .inl (.frz _ _ (.sln _ _ _ fun x hx => by simpa using hx.symm)), rfl, rfl⟩, .inr ⟨?_, finC (.inr rfl) (hres _ rfl (fun e => nomatch e)) (.now ⟨rfl, rfl⟩)⟩⟩)
    exact clone_app0 hk hte (by omega) _ _ _
  · split at hv
    · rename_i c hc
      split at hv
      · rename_i hcond
        simp only [Option.some.injEq, Prod.mk.injEq] at hv
        obtain ⟨rfl, rfl⟩ := hv
        refine view (t1 _ _ _ _ _ ⟨fun hz => absurd hz (by omega), .inl ⟨_, _, _, _, _, clone_app hk hte (by omega) hby (by rw [hk0]; exact hc) hcond.1 hcond.2 _, ?_⟩⟩)
        rw [hk0]
        exact finC (.inr rfl) (hres _ rfl (fun e => nomatch e)) (.now ⟨rfl, rfl⟩)
      · cases hv
    · cases hv
  · cases hv

theorem clone_tame {k : Nat} {args : List V} {h : Heap} {v : V} {h' : Heap} (hv : cloneV k args h = some (v, h')) : Tame h h' := by
  unfold cloneV at hv
  repeat' (split at hv <;> try (cases hv; done))
  all_goals (simp only [Option.some.injEq, Prod.mk.injEq] at hv; obtain ⟨_, rfl⟩ := hv)
  all_goals first
    | exact .refl _
    | exact .push _ _
end Go.Y

/- Helpers for functions by contracts: numbers, objects, frozen lists. -/
namespace Go.Y

theorem wrap_ok {n : Int} (h0 : -2 ^ 62 ≤ n) (h1 : n ≤ 2 ^ 62) : IntKind.i64.wrap n = n := by
  have e : (2 : Int) ^ IntKind.i64.bits = 18446744073709551616 := by decide
  have e2 : (2 : Int) ^ (IntKind.i64.bits - 1) = 9223372036854775808 := by decide
  unfold IntKind.wrap
  simp only [e, e2, IntKind.signed, Bool.true_and]
  by_cases h : 0 ≤ n
  · have : n % 18446744073709551616 = n := Int.emod_eq_of_lt h (by omega)
    rw [this]
    simp; omega
  · have : n % 18446744073709551616 = n + 18446744073709551616 := by omega
    rw [this]
    simp; omega

theorem wrap_succ {i : Nat} (h : i < 2 ^ 61) : IntKind.i64.wrap ((i : Int) + 1) = ((i + 1 : Nat) : Int) := by
  rw [wrap_ok (by omega) (by omega)]; omega

def FrO (h : Heap) (id : Nat) (h' : Heap) : Prop := h.nx ≤ h'.nx ∧ ∀ j, j < h.nx → j ≠ id → h'.get j = h.get j
theorem FrO.refl (h : Heap) (id : Nat) : FrO h id h := ⟨Nat.le_refl _, fun _ _ _ => rfl⟩
theorem FrO.trans {a b c : Heap} {id : Nat} (h : FrO a id b) (g : FrO b id c) : FrO a id c :=
  ⟨Nat.le_trans h.1 g.1, fun j hj hn => by rw [g.2 j (Nat.lt_of_lt_of_le hj h.1) hn, h.2 j hj hn]⟩
theorem FrO.set (h : Heap) (id : Nat) (o : Option YObj) : FrO h id (h.set id o) := ⟨Nat.le_refl _, fun j _ hn => by rw [Heap.get_set, if_neg hn]⟩
theorem FrO.same {h h' : Heap} (hn : h.nx ≤ h'.nx) (hs : ∀ j, j < h.nx → h'.get j = h.get j) (id : Nat) : FrO h id h' := ⟨hn, fun j hj _ => hs j hj⟩

structure Lst {α : Type} (f : α → List V) (k : Nat) (h : Heap) (a : Option (Nat × Nat)) (l : Nat) (c : Option Nat) (kk : Nat) (out : List α) : Prop where
  cells : ∃ cells, IsL h k a l c kk cells ∧ colds1 cells = true ∧ FrzL .empty cells (row f out)
  len : l = out.length

theorem Lst.nil {α : Type} (f : α → List V) (k : Nat) (h : Heap) (c : Option Nat) (kk : Nat) : Lst f k h none 0 c kk ([] : List α) := ⟨⟨[], IsL.nil _ _ _ _, rfl, .nil⟩, rfl⟩

theorem colds1_append : ∀ {l m : List V}, colds1 l = true → colds1 m = true → colds1 (l ++ m) = true
  | [], m, _, h => h
  | v :: l, m, h, g => by
    simp only [colds1, Bool.and_eq_true] at h
    simp only [List.cons_append, colds1, Bool.and_eq_true]
    exact ⟨h.1, colds1_append h.2 g⟩

theorem IsL.fr {h h' : Heap} {k : Nat} {a : Option (Nat × Nat)} {l : Nat} {c : Option Nat} {kk : Nat} {cs : List V} (hl : IsL h k a l c kk cs) (hn : h.nx ≤ h'.nx) (hs : ∀ j, a = some (j, 0) → j < h.nx → h'.get j = h.get j) : IsL h' k a l c kk cs := by
  refine ⟨hl.1, ?_⟩
  rcases hl.2 with h1 | ⟨id, rfl, h2, h3, h4, h5⟩
  · exact .inl h1
  · exact .inr ⟨id, rfl, h2, h3, by omega, by rw [hs id rfl h4, h5]⟩

theorem Lst.fr {α : Type} {f : α → List V} {h h' : Heap} {k : Nat} {a : Option (Nat × Nat)} {l : Nat} {c : Option Nat} {kk : Nat} {out : List α} (hl : Lst f k h a l c kk out) (hn : h.nx ≤ h'.nx) (hs : ∀ j, a = some (j, 0) → j < h.nx → h'.get j = h.get j) : Lst f k h' a l c kk out := by
  obtain ⟨⟨cells, h1, h2, h3⟩, h4⟩ := hl
  exact ⟨⟨cells, h1.fr hn hs, h2, h3⟩, h4⟩

theorem Lst.app {α : Type} {f : α → List V} {Y : YP} {h : Heap} {k : Nat} {a : Option (Nat × Nat)} {l : Nat} {c : Option Nat} {kk : Nat} {out : List α} {new : List V} {st e : TypeId} {te : TI} (xs : List α) {cap : Option Nat}
    (hk : Y.kd st = some (.slice e)) (hte : Y.ty e = some te) (hs : te.size = k) (hk0 : k ≠ 0) (hl : Lst f k h a l c kk out) (hf : FrzL .empty new (row f xs)) (hcold : colds1 new = true) (hm : xs ≠ []) (hn : new.length = xs.length * k) (hc : allCells new = true)
    (hb : (out.length + xs.length) * te.bytes ≤ most) (hb' : out.length + xs.length ≤ most) :
    ∃ a' l' c' k' h', appendH Y h st st (.sl a l c kk) (.ts new xs.length cap) = some (.sl a' l' c' k', h') ∧ Lst f k h' a' l' c' k' (out ++ xs) ∧ Fr h a h' ∧ ∃ j, a' = some (j, 0) ∧ h.nx ≤ j := by
  obtain ⟨⟨cells, h1, h2, h3⟩, h4⟩ := hl
  subst h4
  obtain ⟨a', l', c', k', h', q1, q2, q3, q4, q5⟩ := append_ts (Y := Y) (new := new) (m := xs.length) (cap := cap) hk hte hs hk0 h1 (by simpa using hm) (takeX_len hn.symm) hc hb hb'
  exact ⟨a', l', c', k', h', q1, ⟨⟨cells ++ new, q2, colds1_append h2 hcold, by rw [row_append]; exact h3.append hf⟩, by simp [q4]⟩, q3, q5⟩

theorem Lst.app1 {α : Type} {f : α → List V} {Y : YP} {h : Heap} {k : Nat} {a : Option (Nat × Nat)} {l : Nat} {c : Option Nat} {kk : Nat} {out : List α} {new : List V} {st e : TypeId} {te : TI} (x : α)
    (hk : Y.kd st = some (.slice e)) (hte : Y.ty e = some te) (hs : te.size = k) (hk0 : k ≠ 0) (hl : Lst f k h a l c kk out) (hf : FrzL .empty new (f x)) (hcold : colds1 new = true) (hn : new.length = k) (hc : allCells new = true)
    (hby : te.bytes ≤ 1024) (hb : out.length < 2 ^ 29) :
    ∃ a' l' c' k' h', appendH Y h st st (.sl a l c kk) (.ts new 1 (some 1)) = some (.sl a' l' c' k', h') ∧ Lst f k h' a' l' c' k' (out ++ [x]) ∧ Fr h a h' ∧ ∃ j, a' = some (j, 0) ∧ h.nx ≤ j := by
  have hm : most = 1099511627776 := by decide
  have h1 : (out.length + 1) * te.bytes ≤ 2 ^ 29 * 1024 := Nat.mul_le_mul (by omega) hby
  exact Lst.app [x] hk hte hs hk0 hl (by simpa [row] using hf) hcold (by simp) (by simp [hn]) hc (by simp; omega) (by simp; omega)

theorem colds1_frzl {h1 h2 : Heap} : ∀ {l l' : List V}, colds1 l = true → FrzL h1 l l' → FrzL h2 l l' := colds1_frz

theorem Lst.frz {α : Type} {f : α → List V} {h : Heap} {k : Nat} (hk : k ≠ 0) (hfl : ∀ x, (f x).length = k) {a : Option (Nat × Nat)} {l : Nat} {c : Option Nat} {kk : Nat} {out : List α} (hl : Lst f k h a l c kk out) : Frz h (.sl a l c kk) (lst f out) := by
  obtain ⟨⟨cells, h1, h2, h3⟩, h4⟩ := hl
  subst h4
  rcases h1.2 with ⟨rfl, h0, h5⟩ | ⟨id, rfl, rfl, rfl, h5, h6⟩
  · have : out = [] := List.eq_nil_of_length_eq_zero h0
    subst this
    exact .sln _ _ _ (fun x hx => by cases hx)
  · exact .sl _ _ _ _ _ _ _ _ _ _ h6 (by rw [List.drop_zero, h1.1]; exact takeX_all _) (fun x hx => by cases hx) hk (colds1_frzl h2 h3)

theorem Lst.afterZ {α : Type} {f : α → List V} {h : Heap} {k : Nat} (hk : k ≠ 0) (hfl : ∀ x, (f x).length = k) {a : Option (Nat × Nat)} {l : Nat} {c : Option Nat} {kk : Nat} {out : List α} (hl : Lst f k h a l c kk out) :
    ∃ D : List Nat, Frz (takeD h D) (.sl a l c kk) (lst f out) ∧ (∀ j, j ∈ D → a = some (j, 0)) := by
  obtain ⟨⟨cells, h1, h2, h3⟩, h4⟩ := hl
  subst h4
  rcases h1.2 with ⟨rfl, h0, h5⟩ | ⟨id, rfl, rfl, rfl, h5, h6⟩
  · have : out = [] := List.eq_nil_of_length_eq_zero h0
    subst this
    exact ⟨[], .sln _ _ _ (fun x hx => by cases hx), by simp⟩
  · exact ⟨[id], .sl _ _ _ _ _ cells true cells _ _ (by rw [takeD_get, if_pos (by simp), h6]) (by rw [List.drop_zero, h1.1]; exact takeX_all _) (fun x hx => by cases hx) hk (colds1_frzl h2 h3), by simp⟩

theorem Lst.off {α : Type} {f : α → List V} {h : Heap} {k : Nat} {a : Option (Nat × Nat)} {l : Nat} {c : Option Nat} {kk : Nat} {out : List α} (hl : Lst f k h a l c kk out) {j o : Nat} (ha : a = some (j, o)) : o = 0 := by
  obtain ⟨⟨cells, ⟨_, hx | ⟨id2, hx, _⟩⟩, _⟩, _⟩ := hl
  · rw [hx.1] at ha; cases ha
  · rw [hx] at ha; cases ha; rfl

theorem FrO.app {α : Type} {f : α → List V} {h0 h h' : Heap} {id k : Nat} {a : Option (Nat × Nat)} {l : Nat} {c : Option Nat} {kk : Nat} {out : List α} (g : FrO h0 id h) (hl : Lst f k h a l c kk out) (hnew : ∀ j, a = some (j, 0) → h0.nx ≤ j) (q : Fr h a h') : FrO h0 id h' :=
  ⟨Nat.le_trans g.1 q.1, fun j hj hn => by
    rw [q.2 j (Nat.lt_of_lt_of_le hj g.1) (fun o ho => by
      have h0 := hl.off ho; subst h0
      have := hnew j ho; omega)]
    exact g.2 j hj hn⟩

theorem row_cons {α : Type} {f : α → List V} {k : Nat} (hk : ∀ x, (f x).length = k) (l : List α) {i : Nat} (hi : i < l.length) : (row f l).drop (i * k) = f l[i] ++ row f (l.drop (i + 1)) := by
  rw [row_drop hk, List.drop_eq_getElem_cons hi]; rfl

theorem u8_eq (c d : UInt8) : (((c.toNat : Nat) : Int) == ((d.toNat : Nat) : Int)) = (c == d) := by
  rw [Bool.eq_iff_iff]
  simp only [beq_iff_eq, Int.ofNat_inj]
  exact ⟨fun h => UInt8.toNat_inj.1 h, fun h => by rw [h]⟩
end Go.Y
