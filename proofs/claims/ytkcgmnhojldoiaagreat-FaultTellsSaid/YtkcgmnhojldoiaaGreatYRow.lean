/- What comes in to a law: data of the row, as values of the abstract machine. -/
import Derived.Test.YtkcgmnhojldoiaaGreatYLoop
import Derived.WalkKit
import Derived.ProofKit
import Derived.OpenShut
import Derived.ChangeOld
import Derived.Below
import Derived.Carry
import Derived.Deep.Slices
namespace Go.Y
open Go.ChangeShapes Go.WideShapes Go.RowKit

def inW (w : World) : Vw := { mu := fun _ => (0, 0), sz := fun _ => 0, snap := fun b => w.heap[b]?, lv := fun _ => False, kn := fun _ => False }

theorem Zp4 (w : World) : Le (inW w) (inW w).dead := ⟨fun _ h => h, fun _ h => h.elim, fun _ h => h.elim, fun _ _ h => h, fun _ h => h.elim⟩

def ShpF (S : TypeId → List V → Prop) : List TypeId → List V → Prop
 | [], vs => vs = []
 | t :: r, vs => ∃ a b, vs = a ++ b ∧ S t a ∧ ShpF S r b

def Shp (Y : YP) : Nat → TypeId → List V → Prop
 | 0, _, _ => False
 | n + 1, t, vs => match Y.kd t with
  | some .bool => ∃ b, vs = [.b b]
  | some (.int k) => ∃ i, vs = [.i k i] ∧ (Lit.int k i).wf = true
  | some .str => ∃ s, vs = [.s s] ∧ s.length ≤ maxLen
  | some (.slice e) => ∃ es : List (List V), vs = [.ts es.flatten es.length none] ∧ (∀ x ∈ es, Shp Y n e x) ∧ es.length ≤ maxLen
  | some (.struct fs) => ShpF (Shp Y n) (fs.map (·.2)) vs
  | some (.arr k e) => ∃ es : List (List V), vs = es.flatten ∧ es.length = k ∧ ∀ x ∈ es, Shp Y n e x
  | _ => False

def Zar (Y : YP) : Nat → List (Nat × TypeId) → Nat → Bool
 | off, [], total => off == total
 | off, f :: r, total => match Y.ty f.2 with
  | some tf => f.1 == off && Zar Y (off + tf.size) r total
  | none => false

def Zy (Y : YP) : Nat → TypeId → Bool
 | 0, _ => true
 | n + 1, t => match Y.ty t with
  | some ti => match ti.kd with
   | .bool | .int _ | .str => true
   | .slice e => (match Y.ty e with | some te => te.size != 0 | none => false) && Zy Y n e
   | .struct fs => Zar Y 0 fs ti.size && fs.all fun f => Zy Y n f.2
   | .arr k e => (match Y.ty e with | some te => ti.size == k * te.size | none => false) && Zy Y n e
   | _ => false
  | none => false

section
variable {Y : YP} {w : World} {H : Type} {enc : TypeId × Value → H} {base : Nat} {spare : Nat → Bool} {held : Bool}

theorem JD (hY : YOK Y) {t : TypeId} {ti : TI} (ht : Y.ty t = some ti) : Y.P.cellsOf t = ti.size := by
 obtain ⟨i, d, z, h⟩ := hY.ty t ti ht
 simp [Program.cellsOf, h.info, h.size]

theorem Zia {S : List V → Prop} : ∀ (n : Nat) (f : Nat → List Value), (∀ i, i < n → ∃ vs, VRs (inW w) vs (f i) ∧ S vs) → ∃ es : List (List V), es.length = n ∧ (∀ x ∈ es, S x) ∧ VRs (inW w) es.flatten ((List.range n).flatMap f)
 | 0, _, _ => ⟨[], rfl, by simp, .nil⟩
 | n + 1, f, h => by
  obtain ⟨es, h1, h2, h3⟩ := Zia n f fun i hi => h i (by omega)
  obtain ⟨vs, h4, h5⟩ := h n (by omega)
  refine ⟨es ++ [vs], by simp [h1], fun x hx => ?_, ?_⟩
  ·rw [List.mem_append] at hx
   rcases hx with hx | hx
   ·exact h2 x hx
   ·simp at hx; subst hx; exact h5
  ·rw [List.flatten_append, List.range_succ, List.flatMap_append]
   refine h3.append ?_
   simpa using h4

theorem Zb1 {f : Nat → List Value} {k : Nat} (hk : ∀ i, (f i).length = k) : ∀ (n j : Nat) (u : Value), ((List.range n).flatMap f)[j]? = some u → ∃ i r, i < n ∧ r < k ∧ j = i * k + r ∧ (f i)[r]? = some u
 | 0, j, u, h => by simp at h
 | n + 1, j, u, h => by
  rw [List.range_succ, List.flatMap_append] at h
  have hl : ∀ n, ((List.range n).flatMap f).length = n * k := by
   intro n
   induction n with
   | zero => simp
   | succ n ih => rw [List.range_succ, List.flatMap_append, List.length_append, ih, Nat.add_mul]; simp [hk]
  by_cases hj : j < n * k
  ·rw [List.getElem?_append_left (by rw [hl]; exact hj)] at h
   obtain ⟨i, r, h1, h2⟩ := Zb1 hk n j u h
   exact ⟨i, r, by omega, h2⟩
  ·rw [List.getElem?_append_right (by rw [hl]; omega), hl] at h
   simp only [List.flatMap_cons, List.flatMap_nil, List.append_nil] at h
   have : j - n * k < k := by
    have := (List.getElem?_eq_some_iff.1 h).1
    rwa [hk] at this
   exact ⟨n, j - n * k, by omega, this, by omega, h⟩

theorem Zb2 (hY : YOK Y) : ∀ (fuel : Nat) (t : TypeId) (cs : List Value) (x : DataW H × List MemPlace), Zy Y fuel t = true → DataW.trod enc Y.P w base spare held fuel t cs = some x →
  ∃ vs, VRs (inW w) vs cs ∧ Shp Y fuel t vs
 | 0, _, _, _, _, h => by simp [DataW.trod] at h
 | n + 1, t, cs, x, hs, h => by
  simp only [Zy] at hs
  split at hs
  ·rename_i ti hti
   obtain ⟨inf, d, z, hT⟩ := hY.ty t ti hti
   have hkd : Y.kd t = some ti.kd := by simp [YP.kd, hti]
   have hk := hT.kd
   have hu := hT.und
   simp only [Shp, hkd]
   cases hkk : ti.kd with
   | bool =>
    rw [hkk] at hk; cases hk
    obtain ⟨b, rfl, _⟩ := DataW.trod_bool hu h
    exact ⟨_, .cons _ _ _ _ (.b b) .nil, b, rfl⟩
   | int k =>
    rw [hkk] at hk; cases hk
    obtain ⟨i, rfl, _, hw⟩ := DataW.trod_int hu h
    exact ⟨_, .cons _ _ _ _ (.i k i) .nil, i, rfl, hw⟩
   | str =>
    rw [hkk] at hk; cases hk
    obtain ⟨s, rfl, _, hl⟩ := DataW.trod_string hu h
    have e : (⟨s.data.toList.toArray⟩ : ByteArray) = s := by simp
    refine ⟨[.s s.data.toList], .cons _ _ _ _ ?_ .nil, _, rfl, by simpa using hl⟩
    have := VR.s (W := inW w) s.data.toList
    rwa [e] at this
   | slice e =>
    rw [hkk] at hk hs; cases hk
    simp only [Bool.and_eq_true] at hs
    obtain ⟨hs1, hs2⟩ := hs
    split at hs1
    ·rename_i te hte
     have hsz : te.size ≠ 0 := by simpa using hs1
     have hce := JD hY hte
     rcases DataW.trod_slice hu h with ⟨rfl, _⟩ | ⟨a, len, cap, elems, rest, m, hm, rfl, _, _, hl, hcap, hlen, hel, _⟩
     ·exact ⟨_, .cons _ _ _ _ (.tsz none (fun _ h => by cases h)) .nil, [], rfl, by simp, by simp⟩
     ·simp only [Nat.add_right_cancel_iff] at hm
      subst hm
      by_cases h0 : len = 0
      ·subst h0
       exact ⟨_, .cons _ _ _ _ (.tsn 0 none a cap (Nat.zero_le _) (fun _ h => by cases h)) .nil, [], rfl, by simp, by simp⟩
      ·have hcell : ∀ i, i < len → ∃ cs' y, w.cells? base (a.add (i * te.size)) te.size = some cs' ∧ DataW.trod enc Y.P w base spare held n e cs' = some y := by
        intro i hi
        have h1 := hel i hi
        rw [hce] at h1
        have h2 : elems[i]? = some (elems[i]'(by omega)) := by simp
        rw [h2] at h1
        cases hc : w.cells? base (a.add (i * te.size)) te.size with
        | none => rw [hc] at h1; simp at h1
        | some cs' => rw [hc] at h1; exact ⟨cs', _, rfl, h1⟩
       let f : Nat → List Value := fun i => (w.cells? base (a.add (i * te.size)) te.size).getD (List.replicate te.size default)
       have hf : ∀ i, (f i).length = te.size := by
        intro i
        simp only [f]
        cases hc : w.cells? base (a.add (i * te.size)) te.size with
        | none => simp
        | some cs' => simpa using (World.cells?_some hc).2.1
       obtain ⟨es, g1, g2, g3⟩ := Zia (w := w) (S := Shp Y n e) len f fun i hi => by
        obtain ⟨cs', y, h1, h2⟩ := hcell i hi
        obtain ⟨vs, h3, h4⟩ := Zb2 hY n e cs' y hs2 h2
        exact ⟨vs, by simpa [f, h1] using h3, h4⟩
       have hat : ∀ i r, i < len → r < te.size → w.cell? (a.add (i * te.size + r)) = (f i)[r]? := by
        intro i r hi hr
        obtain ⟨cs', y, h1, h2⟩ := hcell i hi
        have h3 := (World.cells?_some h1).2.2 r hr
        simp only [f, h1, Option.getD_some]
        rw [← h3]
        rw [Go.Deep.add_add]
       have hfst : ∃ u, w.cell? a = some u := by
        have h1 := hat 0 0 (by omega) (by omega)
        have h2 : (f 0)[0]? = some ((f 0)[0]'(by rw [hf]; omega)) := by simp
        rw [h2] at h1
        rw [show a.add (0 * te.size + 0) = a by simp [Addr.add_zero']] at h1
        exact ⟨_, h1⟩
       obtain ⟨u0, hu0⟩ := hfst
       have hspot := World.cell?_spot hu0
       obtain ⟨blk, off, sp⟩ := a
       simp only at hspot
       subst hspot
       obtain ⟨c, et, fr, hb⟩ : ∃ c et fr, w.heap[blk]? = some (.cells c et fr) := by
        simp only [World.cell?] at hu0
        split at hu0
        ·exact ⟨_, _, _, by assumption⟩
        ·cases hu0
       refine ⟨_, .cons _ _ _ _ (.ts es.flatten len none cap blk off c et fr ((List.range len).flatMap f) hl (fun _ h => by cases h) hb (fun j u hj => ?_) (g3.mono (Zp4 w))) .nil, es, by rw [g1], g2, by omega⟩
       obtain ⟨i, r, k1, k2, rfl, k3⟩ := Zb1 hf len j u hj
       have := hat i r k1 k2
       rw [k3, Jt, Zee hb] at this
       exact this
    ·cases hs1
   | struct fs =>
    rw [hkk] at hk hs
    obtain ⟨l, rfl, hfs, _⟩ := hk
    simp only [Bool.and_eq_true, List.all_eq_true] at hs
    obtain ⟨hs1, hs2⟩ := hs
    obtain ⟨xs, m, hm, _, hlen, hxl, hf⟩ := DataW.trod_struct hu h
    simp only [Nat.add_right_cancel_iff] at hm
    subst hm
    rw [JD hY hti] at hlen
    have hf' : ∀ f ∈ fs, ∀ tf, Y.ty f.2 = some tf → ∃ vs, VRs (inW w) vs ((cs.drop f.1).take tf.size) ∧ Shp Y n f.2 vs := by
     intro f hfm tf htf
     rw [hfs] at hfm
     simp only [List.mem_map, Array.mem_toList_iff] at hfm
     obtain ⟨fd, hfd, rfl⟩ := hfm
     obtain ⟨i, hi, rfl⟩ := Array.mem_iff_getElem.1 hfd
     have h1 := hf i l[i] (by simp [hi])
     rw [JD hY htf] at h1
     have h2 : xs[i]? = some (xs[i]'(by omega)) := by simp
     rw [h2] at h1
     exact Zb2 hY n _ _ _ (hs2 (l[i].offset, l[i].type) (by rw [hfs]; exact List.mem_map.2 ⟨l[i], by simp, rfl⟩)) h1
    have key : ∀ (fs : List (Nat × TypeId)) (off : Nat), Zar Y off fs ti.size = true → off ≤ cs.length → (∀ f ∈ fs, ∀ tf, Y.ty f.2 = some tf → ∃ vs, VRs (inW w) vs ((cs.drop f.1).take tf.size) ∧ Shp Y n f.2 vs) →
      ∃ vs, VRs (inW w) vs (cs.drop off) ∧ ShpF (Shp Y n) (fs.map (·.2)) vs := by
     intro fs
     induction fs with
     | nil =>
      intro off ht _ _
      simp only [Zar, beq_iff_eq] at ht
      refine ⟨[], ?_, rfl⟩
      rw [List.drop_of_length_le (by omega)]; exact .nil
     | cons f r ih =>
      intro off ht ho hall
      simp only [Zar] at ht
      split at ht
      ·rename_i tf htf
       simp only [Bool.and_eq_true, beq_iff_eq] at ht
       obtain ⟨rfl, ht⟩ := ht
       have hle : f.1 + tf.size ≤ cs.length := by
        rw [hlen]
        clear ih hall
        have : ∀ (r : List (Nat × TypeId)) (o : Nat), Zar Y o r ti.size = true → o ≤ ti.size := by
         intro r
         induction r with
         | nil => intro o h; simp only [Zar, beq_iff_eq] at h; omega
         | cons g r ih =>
          intro o h
          simp only [Zar] at h
          split at h
          ·simp only [Bool.and_eq_true, beq_iff_eq] at h
           have := ih _ h.2; omega
          ·cases h
        exact this r _ ht
       have := hall f (by simp) tf htf
       obtain ⟨a, ha1, ha2⟩ := this
       obtain ⟨b, hb1, hb2⟩ := ih (f.1 + tf.size) ht hle fun g hg => hall g (by simp [hg])
       refine ⟨a ++ b, ?_, a, b, rfl, ha2, hb2⟩
       have := ha1.append hb1
       rwa [← List.drop_drop, List.take_append_drop] at this
      ·cases ht
    obtain ⟨vs, k1, k2⟩ := key fs 0 hs1 (Nat.zero_le _) hf'
    exact ⟨vs, by simpa using k1, k2⟩
   | arr k e =>
    rw [hkk] at hk hs
    obtain ⟨rfl, _⟩ := hk
    simp only [Bool.and_eq_true] at hs
    obtain ⟨hs1, hs2⟩ := hs
    split at hs1
    ·rename_i te hte
     have hsz : ti.size = k * te.size := by simpa using hs1
     obtain ⟨xs, m, hm, _, hlen, hxl, hf⟩ := DataW.trod_array hu h
     simp only [Nat.add_right_cancel_iff] at hm
     subst hm
     rw [JD hY hti] at hlen
     rw [JD hY hte] at hf
     obtain ⟨es, g1, g2, g3⟩ := Zia (w := w) (S := Shp Y n e) k (fun i => (cs.drop (i * te.size)).take te.size) fun i hi => by
      have h1 := hf i hi
      have h2 : xs[i]? = some (xs[i]'(by omega)) := by simp
      rw [h2] at h1
      exact Zb2 hY n e _ _ hs2 h1
     refine ⟨es.flatten, ?_, es, rfl, g1, g2⟩
     have : (List.range k).flatMap (fun i => (cs.drop (i * te.size)).take te.size) = cs := by
      have aux : ∀ m, m ≤ k → (List.range m).flatMap (fun i => (cs.drop (i * te.size)).take te.size) = cs.take (m * te.size) := by
       intro m
       induction m with
       | zero => intro _; simp
       | succ m ih =>
        intro hm
        rw [List.range_succ, List.flatMap_append, ih (by omega), Nat.add_mul, Nat.one_mul, List.take_add]
        simp
      rw [aux k (Nat.le_refl _), ← hsz, ← hlen, List.take_length]
     rwa [this] at g3
    ·cases hs1
   | ptr _ => rw [hkk] at hs; cases hs
   | map _ _ => rw [hkk] at hs; cases hs
   | func => rw [hkk] at hs; cases hs
   | iface => rw [hkk] at hs; cases hs
   | other => rw [hkk] at hs; cases hs
  ·cases hs
end

theorem PCon.calls {Y : YP} {f : FuncId} {args : List V} {w : World} {us : List Value} (h : PCon Y f args (· = .b true)) (hg : Tabbed (inW w)) (hv : VRs (inW w) args us) :
  Calls Y.P f us.toArray w fun e w' => e = .returned (.bool true) ∧ Below w.heap.size w w' := by
 refine (h.tr (inW w) w us (fun _ _ h => h) hg hv).mono ?_
 rintro e w' ⟨r, W', u, rfl, rfl, hr, _, _, _, hs, hk, _, st⟩
 cases hr
 exact ⟨rfl, st.os, st.tape, st.output, hs, hk⟩

theorem Zib {Y : YP} {n : Nat} {t : TypeId} {k : IntKind} (hk : Y.kd t = some (.int k)) {vs : List V} (h : Shp Y n t vs) : ∃ i, vs = [.i k i] ∧ (Lit.int k i).wf = true := by
 cases n with
 | zero => exact h.elim
 | succ n => simpa [Shp, hk] using h
theorem Zp5 {Y : YP} {n : Nat} {t : TypeId} (hk : Y.kd t = some .bool) {vs : List V} (h : Shp Y n t vs) : ∃ b, vs = [.b b] := by
 cases n with
 | zero => exact h.elim
 | succ n => simpa [Shp, hk] using h
theorem Zsx {Y : YP} {n : Nat} {t : TypeId} (hk : Y.kd t = some .str) {vs : List V} (h : Shp Y n t vs) : ∃ s, vs = [.s s] ∧ s.length ≤ maxLen := by
 cases n with
 | zero => exact h.elim
 | succ n => simpa [Shp, hk] using h
theorem Xt {Y : YP} {n : Nat} {t e : TypeId} (hk : Y.kd t = some (.slice e)) {vs : List V} (h : Shp Y n t vs) :
  ∃ (m : Nat) (es : List (List V)), n = m + 1 ∧ vs = [.ts es.flatten es.length none] ∧ (∀ x ∈ es, Shp Y m e x) ∧ es.length ≤ maxLen := by
 cases n with
 | zero => exact h.elim
 | succ n => obtain ⟨es, h1, h2⟩ := (by simpa [Shp, hk] using h : ∃ es : List (List V), vs = [.ts es.flatten es.length none] ∧ (∀ x ∈ es, Shp Y n e x) ∧ es.length ≤ maxLen); exact ⟨n, es, rfl, h1, h2⟩
theorem ZT {Y : YP} {n : Nat} {t : TypeId} {fs : List (Nat × TypeId)} (hk : Y.kd t = some (.struct fs)) {vs : List V} (h : Shp Y n t vs) :
  ∃ m : Nat, n = m + 1 ∧ ShpF (Shp Y m) (fs.map (·.2)) vs := by
 cases n with
 | zero => exact h.elim
 | succ n => exact ⟨n, rfl, by simpa [Shp, hk] using h⟩

theorem Qt {α : Type} {f : α → List V} : ∀ {es : List (List V)}, (∀ x ∈ es, ∃ a, x = f a) → ∃ l : List α, es.map id = l.map f
 | [], _ => ⟨[], rfl⟩
 | x :: es, h => by
  obtain ⟨a, rfl⟩ := h x (by simp)
  obtain ⟨l, hl⟩ := Qt (f := f) (es := es) fun y hy => h y (by simp [hy])
  exact ⟨a :: l, by simp at hl ⊢; exact hl⟩
end Go.Y
namespace Go.Y
set_option maxRecDepth 1000000
set_option maxHeartbeats 0
def FrzT (h : Heap) (v v' : V) : Prop := FrzA h v v' ∨ ∃ vs vs', v = .tup vs ∧ v' = .tup vs' ∧ FrzAL h vs vs'

theorem FrzT.vr {W W' : Vw} {h : Heap} {w : World} (z : Fz W h w W') (hle : Le W W') {v v' : V} (f : FrzT h v v') {u : Value} (r : VR W v u) : VR W' v' u := by
 rcases f with f | ⟨vs, vs', rfl, rfl, f⟩
 ·exact f.vr z hle r
 ·cases r with | tup _ us h1 => exact .tup _ _ (f.vr z hle h1)

def AfterZ (Q : V → Heap → Prop) (v : V) (h : Heap) : Prop := ∃ (D : List Nat) (v' : V), FrzT (Zf2 h D) v v' ∧ Q v' (WZ h D)

theorem AfterZ.now {Q : V → Heap → Prop} {v : V} {h : Heap} (hq : Q v h) : AfterZ Q v h := ⟨[], v, .inl (.same v), hq⟩

theorem Con.freeze {Y : YP} {f : FuncId} {args : List V} {h : Heap} {Q : V → Heap → Prop} (c : Con Y f args h (AfterZ Q)) : Con Y f args h Q :=
 ⟨c.body, fun W w us hr hv => (c.tr W w us hr hv).mono fun e w' ⟨v, h1, W', u, ⟨D, v', hf, hq⟩, he, hh, hvu, hst⟩ => by
  obtain ⟨g1, g2⟩ := hh.frzD D
  exact ⟨v', _, _, u, hq, he, g1, hf.vr (Fz.of hh D) (Zbm hh D) hvu, hst.trans g2⟩⟩

theorem ZL {Y : YP} (hY : YOK Y) {f : FuncId} {fn : Func} (hf : Y.P.funcs[f]? = some fn) (hb : fn.body.isSome = true) {args : List V} {h : Heap} {Q : V → Heap → Prop}
  (ht : TriL Y (flat (Za fn)) ⟨args ++ List.replicate (fn.ntmps - args.length) .undef, [], h⟩ (FinS Y fn (AfterZ Q))) : Con Y f args h Q := Con.freeze (Zr3 hY hf hb ht)

theorem finC {Y : YP} {fn : Func} {slots : List Nat} {Q : V → Heap → Prop} {o : Out} {n : Nat} {vs : List V} {h : Heap} {v : V} (ho : o = .normal ∨ o = .ret) (hv : resV Y fn (slots.zip vs) = some v) (hq : AfterZ Q v h) :
  Fin Y fn slots (AfterZ Q) o n vs h := ⟨ho, v, hv, hq⟩

/-! ### slices.Clone -/
def ZEx (k : Nat) : List V → Heap → Option (V × Heap)
 | [.sl none 0 _ _], h => some (.sl none 0 (some 0) 0, h)
 | [.ts _ 0 _], h => some (.ts [] 0 (some 0), h)
 | [.ts cs (n + 1) _], h => match Zh ((n + 1) * k) cs with
  | some c => if Zx c = true ∧ n + 1 ≤ 2 ^ 30 then some (.sl (some (h.nx, 0)) (n + 1) none k, h.push (.arr c true)) else none
  | none => none
 | _, _ => none

theorem Zac {Y : YP} {st e : TypeId} {te : TI} (hk : Y.kd st = some (.slice e)) (hte : Y.ty e = some te) (h0 : te.size ≠ 0) (cs : List V) (cap : Option Nat) (h : Heap) :
  Zk Y h st st (.ts [] 0 (some 0)) (.ts cs 0 cap) = some (.ts [] 0 (some 0), h) := by
 simp [Zk, ZP, hk, hte, Qb, elems, Qa, Zh, Zx, h0]

theorem Znd {Y : YP} {st e : TypeId} {te : TI} (hk : Y.kd st = some (.slice e)) (hte : Y.ty e = some te) (h0 : te.size ≠ 0) (hb : te.bytes ≤ 1024) {cs c : List V} {n : Nat} {cap : Option Nat} (hc : Zh ((n + 1) * te.size) cs = some c) (ha : Zx c = true) (hn : n + 1 ≤ 2 ^ 30)
  (h : Heap) : Zk Y h st st (.ts [] 0 (some 0)) (.ts cs (n + 1) cap) = some (.sl (some (h.nx, 0)) (n + 1) none te.size, h.push (.arr c true)) := by
 have hsrc : Qb Y ⟨[], [], h⟩ te st (.ts cs (n + 1) cap) = some (n + 1, c) := by
  simp only [Qb, hk, elems, Qa, hc]; rfl
 have hm : most = 1099511627776 := by decide
 have h1 : (n + 1) * te.bytes ≤ 2 ^ 30 * 1024 := Nat.mul_le_mul hn hb
 have h2 : ¬ ((0 + (n + 1)) * te.bytes > most ∨ 0 + (n + 1) > most) := by rw [Nat.zero_add, hm]; omega
 have h3 : ¬ (0 + (n + 1) ≤ 0) := by omega
 simp only [Zk, ZP, hk, hte, hsrc]
 rw [if_neg (by simp [ha, h0])]
 simp only [Nat.succ_ne_zero, if_false]
 rw [if_neg h2]
 simp [Zh]
theorem Xu {n : Int} (h0 : -2 ^ 62 ≤ n) (h1 : n ≤ 2 ^ 62) : IntKind.i64.wrap n = n := by
 have e : (2 : Int) ^ IntKind.i64.bits = 18446744073709551616 := by decide
 have e2 : (2 : Int) ^ (IntKind.i64.bits - 1) = 9223372036854775808 := by decide
 unfold IntKind.wrap
 simp only [e, e2, IntKind.signed, Bool.true_and]
 by_cases h : 0 ≤ n
 ·have : n % 18446744073709551616 = n := Int.emod_eq_of_lt h (by omega)
  rw [this]
  simp; omega
 ·have : n % 18446744073709551616 = n + 18446744073709551616 := by omega
  rw [this]
  simp; omega

theorem Zf {i : Nat} (h : i < 2 ^ 61) : IntKind.i64.wrap ((i : Int) + 1) = ((i + 1 : Nat) : Int) := by
 rw [Xu (by omega) (by omega)]; omega

def FrO (h : Heap) (id : Nat) (h' : Heap) : Prop := h.nx ≤ h'.nx ∧ ∀ j, j < h.nx → j ≠ id → h'.get j = h.get j
theorem FrO.refl (h : Heap) (id : Nat) : FrO h id h := ⟨Nat.le_refl _, fun _ _ _ => rfl⟩
theorem FrO.trans {a b c : Heap} {id : Nat} (h : FrO a id b) (g : FrO b id c) : FrO a id c :=
 ⟨Nat.le_trans h.1 g.1, fun j hj hn => by rw [g.2 j (Nat.lt_of_lt_of_le hj h.1) hn, h.2 j hj hn]⟩
theorem FrO.set (h : Heap) (id : Nat) (o : Option YObj) : FrO h id (h.set id o) := ⟨Nat.le_refl _, fun j _ hn => by rw [Heap.get_set, if_neg hn]⟩
structure Lst {α : Type} (f : α → List V) (k : Nat) (h : Heap) (a : Option (Nat × Nat)) (l : Nat) (c : Option Nat) (kk : Nat) (out : List α) : Prop where
 cells : ∃ cells, IsL h k a l c kk cells ∧ Xr cells = true ∧ FrzL .empty cells (row f out)
 len : l = out.length

theorem Lst.nil {α : Type} (f : α → List V) (k : Nat) (h : Heap) (c : Option Nat) (kk : Nat) : Lst f k h none 0 c kk ([] : List α) := ⟨⟨[], IsL.nil _ _ _ _, rfl, .nil⟩, rfl⟩

theorem Vz : ∀ {l m : List V}, Xr l = true → Xr m = true → Xr (l ++ m) = true
 | [], m, _, h => h
 | v :: l, m, h, g => by
  simp only [Xr, Bool.and_eq_true] at h
  simp only [List.cons_append, Xr, Bool.and_eq_true]
  exact ⟨h.1, Vz h.2 g⟩

theorem IsL.fr {h h' : Heap} {k : Nat} {a : Option (Nat × Nat)} {l : Nat} {c : Option Nat} {kk : Nat} {cs : List V} (hl : IsL h k a l c kk cs) (hn : h.nx ≤ h'.nx) (hs : ∀ j, a = some (j, 0) → j < h.nx → h'.get j = h.get j) : IsL h' k a l c kk cs := by
 refine ⟨hl.1, ?_⟩
 rcases hl.2 with h1 | ⟨id, rfl, h2, h3, h4, h5⟩
 ·exact .inl h1
 ·exact .inr ⟨id, rfl, h2, h3, by omega, by rw [hs id rfl h4, h5]⟩

theorem Lst.fr {α : Type} {f : α → List V} {h h' : Heap} {k : Nat} {a : Option (Nat × Nat)} {l : Nat} {c : Option Nat} {kk : Nat} {out : List α} (hl : Lst f k h a l c kk out) (hn : h.nx ≤ h'.nx) (hs : ∀ j, a = some (j, 0) → j < h.nx → h'.get j = h.get j) : Lst f k h' a l c kk out := by
 obtain ⟨⟨cells, h1, h2, h3⟩, h4⟩ := hl
 exact ⟨⟨cells, h1.fr hn hs, h2, h3⟩, h4⟩

theorem Lst.app {α : Type} {f : α → List V} {Y : YP} {h : Heap} {k : Nat} {a : Option (Nat × Nat)} {l : Nat} {c : Option Nat} {kk : Nat} {out : List α} {new : List V} {st e : TypeId} {te : TI} (xs : List α) {cap : Option Nat}
  (hk : Y.kd st = some (.slice e)) (hte : Y.ty e = some te) (hs : te.size = k) (hk0 : k ≠ 0) (hl : Lst f k h a l c kk out) (hf : FrzL .empty new (row f xs)) (hcold : Xr new = true) (hm : xs ≠ []) (hn : new.length = xs.length * k) (hc : Zx new = true)
  (hb : (out.length + xs.length) * te.bytes ≤ most) (hb' : out.length + xs.length ≤ most) :
  ∃ a' l' c' k' h', Zk Y h st st (.sl a l c kk) (.ts new xs.length cap) = some (.sl a' l' c' k', h') ∧ Lst f k h' a' l' c' k' (out ++ xs) ∧ Fr h a h' ∧ ∃ j, a' = some (j, 0) ∧ h.nx ≤ j := by
 obtain ⟨⟨cells, h1, h2, h3⟩, h4⟩ := hl
 subst h4
 obtain ⟨a', l', c', k', h', q1, q2, q3, q4, q5⟩ := Znc (Y := Y) (new := new) (m := xs.length) (cap := cap) hk hte hs hk0 h1 (by simpa using hm) (Wq hn.symm) hc hb hb'
 exact ⟨a', l', c', k', h', q1, ⟨⟨cells ++ new, q2, Vz h2 hcold, by rw [QE]; exact h3.append hf⟩, by simp [q4]⟩, q3, q5⟩

theorem Lst.app1 {α : Type} {f : α → List V} {Y : YP} {h : Heap} {k : Nat} {a : Option (Nat × Nat)} {l : Nat} {c : Option Nat} {kk : Nat} {out : List α} {new : List V} {st e : TypeId} {te : TI} (x : α)
  (hk : Y.kd st = some (.slice e)) (hte : Y.ty e = some te) (hs : te.size = k) (hk0 : k ≠ 0) (hl : Lst f k h a l c kk out) (hf : FrzL .empty new (f x)) (hcold : Xr new = true) (hn : new.length = k) (hc : Zx new = true)
  (hby : te.bytes ≤ 1024) (hb : out.length < 2 ^ 29) :
  ∃ a' l' c' k' h', Zk Y h st st (.sl a l c kk) (.ts new 1 (some 1)) = some (.sl a' l' c' k', h') ∧ Lst f k h' a' l' c' k' (out ++ [x]) ∧ Fr h a h' ∧ ∃ j, a' = some (j, 0) ∧ h.nx ≤ j := by
 have hm : most = 1099511627776 := by decide
 have h1 : (out.length + 1) * te.bytes ≤ 2 ^ 29 * 1024 := Nat.mul_le_mul (by omega) hby
 exact Lst.app [x] hk hte hs hk0 hl (by simpa [row] using hf) hcold (by simp) (by simp [hn]) hc (by simp; omega) (by simp; omega)

theorem Zb3 {h1 h2 : Heap} : ∀ {l l' : List V}, Xr l = true → FrzL h1 l l' → FrzL h2 l l' := VU

theorem Lst.frz {α : Type} {f : α → List V} {h : Heap} {k : Nat} (hk : k ≠ 0) (hfl : ∀ x, (f x).length = k) {a : Option (Nat × Nat)} {l : Nat} {c : Option Nat} {kk : Nat} {out : List α} (hl : Lst f k h a l c kk out) : Frz h (.sl a l c kk) (lst f out) := by
 obtain ⟨⟨cells, h1, h2, h3⟩, h4⟩ := hl
 subst h4
 rcases h1.2 with ⟨rfl, h0, h5⟩ | ⟨id, rfl, rfl, rfl, h5, h6⟩
 ·have : out = [] := List.eq_nil_of_length_eq_zero h0
  subst this
  exact .sln _ _ _ (fun x hx => by cases hx)
 ·exact .sl _ _ _ _ _ _ _ _ _ _ h6 (by rw [List.drop_zero, h1.1]; exact Vy _) (fun x hx => by cases hx) hk (Zb3 h2 h3)

theorem Lst.afterZ {α : Type} {f : α → List V} {h : Heap} {k : Nat} (hk : k ≠ 0) (hfl : ∀ x, (f x).length = k) {a : Option (Nat × Nat)} {l : Nat} {c : Option Nat} {kk : Nat} {out : List α} (hl : Lst f k h a l c kk out) :
  ∃ D : List Nat, Frz (Zf2 h D) (.sl a l c kk) (lst f out) ∧ (∀ j, j ∈ D → a = some (j, 0)) := by
 obtain ⟨⟨cells, h1, h2, h3⟩, h4⟩ := hl
 subst h4
 rcases h1.2 with ⟨rfl, h0, h5⟩ | ⟨id, rfl, rfl, rfl, h5, h6⟩
 ·have : out = [] := List.eq_nil_of_length_eq_zero h0
  subst this
  exact ⟨[], .sln _ _ _ (fun x hx => by cases hx), by simp⟩
 ·exact ⟨[id], .sl _ _ _ _ _ cells true cells _ _ (by rw [Vs, if_pos (by simp), h6]) (by rw [List.drop_zero, h1.1]; exact Vy _) (fun x hx => by cases hx) hk (Zb3 h2 h3), by simp⟩

theorem Lst.off {α : Type} {f : α → List V} {h : Heap} {k : Nat} {a : Option (Nat × Nat)} {l : Nat} {c : Option Nat} {kk : Nat} {out : List α} (hl : Lst f k h a l c kk out) {j o : Nat} (ha : a = some (j, o)) : o = 0 := by
 obtain ⟨⟨cells, ⟨_, hx | ⟨id2, hx, _⟩⟩, _⟩, _⟩ := hl
 ·rw [hx.1] at ha; cases ha
 ·rw [hx] at ha; cases ha; rfl

theorem FrO.app {α : Type} {f : α → List V} {h0 h h' : Heap} {id k : Nat} {a : Option (Nat × Nat)} {l : Nat} {c : Option Nat} {kk : Nat} {out : List α} (g : FrO h0 id h) (hl : Lst f k h a l c kk out) (hnew : ∀ j, a = some (j, 0) → h0.nx ≤ j) (q : Fr h a h') : FrO h0 id h' :=
 ⟨Nat.le_trans g.1 q.1, fun j hj hn => by
  rw [q.2 j (Nat.lt_of_lt_of_le hj g.1) (fun o ho => by
   have h0 := hl.off ho; subst h0
   have := hnew j ho; omega)]
  exact g.2 j hj hn⟩

/-! ### Rows -/
theorem Xg {α : Type} {f : α → List V} {k : Nat} (hk : ∀ x, (f x).length = k) (l : List α) {i : Nat} (hi : i < l.length) : (row f l).drop (i * k) = f l[i] ++ row f (l.drop (i + 1)) := by
 rw [Zex hk, List.drop_eq_getElem_cons hi]; rfl

theorem VA {α : Type} {a b : List α} {i : Nat} (h : a.take i = b.take i) (ha : a.length ≤ i) (hb : b.length ≤ i) : a = b := by
 rwa [List.take_of_length_le ha, List.take_of_length_le hb] at h
theorem VB {α : Type} {a b : List α} {i : Nat} (h : a.take i = b.take i) (ha : i < a.length) (hb : i < b.length) (he : a[i] = b[i]) : a.take (i + 1) = b.take (i + 1) := by
 rw [List.take_succ_eq_append_getElem ha, List.take_succ_eq_append_getElem hb, h, he]

/-! ### Bytes -/
theorem Zp6 (c d : UInt8) : (((c.toNat : Nat) : Int) == ((d.toNat : Nat) : Int)) = (c == d) := by
 rw [Bool.eq_iff_iff]
 simp only [beq_iff_eq, Int.ofNat_inj]
 exact ⟨fun h => UInt8.toNat_inj.1 h, fun h => by rw [h]⟩
def pick (so sl : List Nat) (vs : List V) : List V := sl.map fun s => match Zb0 (so.zip vs) s with | some v => v | none => .undef

theorem Zgk {σ : St} : ∀ {so : List Nat} {s : Nat}, s ∈ so → Zb0 (so.zip (so.map fun i => lv i σ)) s = some (lv s σ)
 | x :: r, s, h => by
  simp only [List.map_cons, List.zip_cons_cons, Zb0]
  by_cases hx : x = s
  ·rw [if_pos hx, hx]
  ·rw [if_neg hx]
   exact Zgk (by rcases List.mem_cons.1 h with h | h; exact absurd h.symm hx; exact h)

theorem Wr {σ : St} {so sl : List Nat} (hs : sl.all so.contains = true) {vs : List V} (hv : (so.map fun i => lv i σ) = vs) : (sl.map fun i => lv i σ) = pick so sl vs := by
 subst hv
 unfold pick
 apply List.map_congr_left
 intro s hm
 have := List.all_eq_true.1 hs s hm
 rw [Zgk (by simpa using this)]

section
variable {Y : YP}
theorem Zgl {n : Nat} (sl : List Nat) {σ : St} {l : List Code} {Q : Out → St → Prop} {vs : List V} (hc : l.isEmpty = false) (hn : σ.env.length = n) (hv : (sl.map fun i => lv i σ) = vs) (h : TriL Y l ⟨mk n (sl.zip vs), [], σ.h⟩ Q) : TriL Y l σ Q :=
 JC (fun e => by rw [e] at hc; cases hc) hn hv rfl h

def Xy (Y : YP) (n : Nat) (so sl : List Nat) (I : Nat → List V → Heap → Prop) (m id : Nat) (r : List Code) (Q : Out → St → Prop) (o : Out) (len : Nat) (vs : List V) (h : Heap) : Prop :=
 match o with
 | .normal => len = n ∧ ∃ m', m' < m ∧ I m' (pick so sl vs) h
 | .exit j => if j = id then len = n ∧ ∃ sl' : List Nat, sl'.all so.contains = true ∧ TriL Y r ⟨mk n (sl'.zip (pick so sl' vs)), [], h⟩ Q else AtV so Q (.exit j) len vs h
 | .ret => AtV so Q .ret len vs h

theorem ZK {n : Nat} (sl so : List Nat) {σ : St} {l : List Code} {Q : Out → St → Prop} (hsub : sl.all so.contains = true) (hl : Zm9 l = true) (I : Nat → List V → Heap → Prop) (m0 : Nat) (hn : σ.env.length = n)
  (h0 : I m0 (sl.map fun i => lv i σ) σ.h)
  (round : ∀ m vs h, I m vs h → TriL Y (flat (Zv l)) ⟨mk n (sl.zip vs), [], h⟩ (VQ so (Xy Y n so sl I m (Xi l) (l.drop 1) Q))) : TriL Y l σ Q := by
 obtain ⟨h1, h2⟩ := Zna hl
 rw [h1]
 refine JB (Zi4 (fun m τ => τ.env.length = n ∧ I m (sl.map fun i => lv i τ) τ.h) (n := m0) ⟨hn, h0⟩ ?_)
 rintro m τ ⟨hτ, hI⟩
 have hr := QN (c := Zv l) (r := []) (by rw [List.append_nil]; exact round m _ _ hI)
 refine (Zev hτ rfl rfl hr).mono ?_
 intro o σ' ho
 cases o with
 | normal =>
  obtain ⟨h1, m', h2, h3⟩ := ho
  exact ⟨m', h2, h1, by rw [Wr hsub rfl]; exact h3⟩
 | exit j =>
  have ho : Xy Y n so sl I m (Xi l) (l.drop 1) Q (.exit j) σ'.env.length (so.map fun i => lv i σ') σ'.h := ho
  simp only [Xy] at ho
  by_cases hj : j = Xi l
  ·rw [if_pos hj] at ho
   simp only [if_pos hj]
   obtain ⟨h3, sl', h4, h5⟩ := ho
   exact JC h2 h3 (Wr h4 rfl) rfl h5
  ·rw [if_neg hj] at ho
   simp only [if_neg hj]
   exact ho σ' rfl rfl rfl
 | ret => exact ho σ' rfl rfl rfl

theorem Ze {n : Nat} {so sl : List Nat} {I : Nat → List V → Heap → Prop} {m id j : Nat} {r : List Code} {Q : Out → St → Prop} {len : Nat} {vs : List V} {h : Heap} (sl' : List Nat) (hj : j = id) (hn : len = n) (hs : sl'.all so.contains = true)
  (ht : TriL Y r ⟨mk n (sl'.zip (pick so sl' vs)), [], h⟩ Q) : Xy Y n so sl I m id r Q (.exit j) len vs h := by
 simp only [Xy]
 rw [if_pos hj]
 exact ⟨hn, sl', hs, ht⟩

def Zic : List Code → Bool
 | [.block _ (.loop _)] => true
 | _ => false
theorem Zkt {l : List Code} (h : Zic l = true) : l = [.block (Xi l) (.loop (Zv l))] := by
 unfold Zic at h
 split at h
 ·rfl
 ·cases h

def VC (n : Nat) (so sl : List Nat) (I : Nat → List V → Heap → Prop) (m id : Nat) (Q : Out → St → Prop) (o : Out) (len : Nat) (vs : List V) (h : Heap) : Prop :=
 match o with
 | .normal => len = n ∧ ∃ m', m' < m ∧ I m' (pick so sl vs) h
 | .exit j => if j = id then AtV so Q .normal len vs h else AtV so Q (.exit j) len vs h
 | .ret => AtV so Q .ret len vs h

theorem Zne {n : Nat} (sl so : List Nat) {σ : St} {l : List Code} {Q : Out → St → Prop} (hsub : sl.all so.contains = true) (hl : Zic l = true) (I : Nat → List V → Heap → Prop) (m0 : Nat) (hn : σ.env.length = n)
  (h0 : I m0 (sl.map fun i => lv i σ) σ.h)
  (round : ∀ m vs h, I m vs h → TriL Y (flat (Zv l)) ⟨mk n (sl.zip vs), [], h⟩ (VQ so (VC n so sl I m (Xi l) Q))) : TriL Y l σ Q := by
 rw [Zkt hl]
 refine JB (Zi4 (fun m τ => τ.env.length = n ∧ I m (sl.map fun i => lv i τ) τ.h) (n := m0) ⟨hn, h0⟩ ?_)
 rintro m τ ⟨hτ, hI⟩
 have hr := QN (c := Zv l) (r := []) (by rw [List.append_nil]; exact round m _ _ hI)
 refine (Zev hτ rfl rfl hr).mono ?_
 intro o σ' ho
 cases o with
 | normal =>
  obtain ⟨h1, m', h2, h3⟩ := ho
  exact ⟨m', h2, h1, by rw [Wr hsub rfl]; exact h3⟩
 | exit j =>
  have ho : VC n so sl I m (Xi l) Q (.exit j) σ'.env.length (so.map fun i => lv i σ') σ'.h := ho
  simp only [VC] at ho
  by_cases hj : j = Xi l
  ·rw [if_pos hj] at ho
   simp only [if_pos hj]
   exact ho σ' rfl rfl rfl
  ·rw [if_neg hj] at ho
   simp only [if_neg hj]
   exact ho σ' rfl rfl rfl
 | ret => exact ho σ' rfl rfl rfl

def Zc1 (Y : YP) (n : Nat) (so : List Nat) (id : Nat) (r : List Code) (Q : Out → St → Prop) (o : Out) (len : Nat) (vs : List V) (h : Heap) : Prop :=
 match o with
 | .normal => len = n ∧ ∃ sl' : List Nat, sl'.all so.contains = true ∧ TriL Y r ⟨mk n (sl'.zip (pick so sl' vs)), [], h⟩ Q
 | .exit j => if j = id then len = n ∧ ∃ sl' : List Nat, sl'.all so.contains = true ∧ TriL Y r ⟨mk n (sl'.zip (pick so sl' vs)), [], h⟩ Q else AtV so Q (.exit j) len vs h
 | .ret => AtV so Q .ret len vs h

theorem Zgm {n : Nat} (so : List Nat) {σ : St} {l : List Code} {Q : Out → St → Prop} (hl : Zh9 l = true)
  (h : TriL Y (flat (Xx l)) σ (VQ so (Zc1 Y n so (Qs l) (l.drop 1) Q))) : TriL Y l σ Q := by
 obtain ⟨h1, h2⟩ := Zks hl
 rw [h1]
 have h3 := QN (c := Xx l) (r := []) (by rw [List.append_nil]; exact h)
 refine JB (Tri.mono h3 ?_)
 intro o σ' ho
 cases o with
 | normal => obtain ⟨g1, sl', g2, g3⟩ := ho; exact JC h2 g1 (Wr g2 rfl) rfl g3
 | ret => exact ho σ' rfl rfl rfl
 | exit j =>
  have ho : Zc1 Y n so (Qs l) (l.drop 1) Q (.exit j) _ _ _ := ho
  simp only [Zc1] at ho
  by_cases hj : j = Qs l
  ·rw [if_pos hj] at ho
   simp only [if_pos hj]
   obtain ⟨g1, sl', g2, g3⟩ := ho
   exact JC h2 g1 (Wr g2 rfl) rfl g3
  ·rw [if_neg hj] at ho
   simp only [if_neg hj]
   exact ho σ' rfl rfl rfl

theorem Zdk {n : Nat} {so : List Nat} {id j : Nat} {r : List Code} {Q : Out → St → Prop} {len : Nat} {vs : List V} {h : Heap} (sl' : List Nat) (hj : j = id) (hn : len = n) (hs : sl'.all so.contains = true)
  (ht : TriL Y r ⟨mk n (sl'.zip (pick so sl' vs)), [], h⟩ Q) : Zc1 Y n so id r Q (.exit j) len vs h := by
 simp only [Zc1]
 rw [if_pos hj]
 exact ⟨hn, sl', hs, ht⟩

theorem ZR {n : Nat} {so sl : List Nat} {K : KT} {o : Out} {vs : List V} {h : Heap} (hs : sl.all so.contains = true) (hk : K o n (pick so sl vs) h) : AtV so (VQ sl K) o n vs h := by
 rintro τ rfl h2 rfl
 show K o τ.env.length (sl.map fun i => lv i τ) τ.h
 rw [Wr hs h2]
 exact hk

def Two (so1 : List Nat) (vs1 : List V) (so2 : List Nat) (vs2 : List V) : Prop := ∃ τ : St, (so1.map fun i => lv i τ) = vs1 ∧ (so2.map fun i => lv i τ) = vs2
theorem Zjp {so1 so2 sl : List Nat} {vs1 vs2 : List V} (hc : Two so1 vs1 so2 vs2) (h1 : sl.all so1.contains = true) (h2 : sl.all so2.contains = true) : pick so2 sl vs2 = pick so1 sl vs1 := by
 obtain ⟨τ, e1, e2⟩ := hc
 rw [← Wr h1 e1, ← Wr h2 e2]

theorem Znf (hY : YOK Y) {loc : Nat → Bool} (fuel : Nat) (so1 : List Nat) {so2 : List Nat} {σ : St} {l : List Code} {K : KT} (h : Zc Y loc fuel l σ (VQ so1 fun o n vs h => ∀ vs2, Two so1 vs so2 vs2 → K o n vs2 h)) : TriL Y l σ (VQ so2 K) :=
 (Vx hY _ _ _ _ h).mono fun _ σ' ho => ho _ ⟨σ', rfl, rfl⟩

theorem Zjq {n : Nat} {so1 so2 : List Nat} {K : KT} {o : Out} {vs : List V} {h : Heap} (hk : ∀ vs2, Two so1 vs so2 vs2 → K o n vs2 h) : AtV so1 (VQ so2 K) o n vs h := by
 rintro τ rfl h2 rfl
 exact hk _ ⟨τ, h2, rfl⟩

theorem VD {n : Nat} {so1 so sl : List Nat} {I : Nat → List V → Heap → Prop} {m id : Nat} {r : List Code} {Q : Out → St → Prop} {len : Nat} {vs vs2 : List V} {h : Heap} (ht : Two so1 vs so vs2) (h1 : sl.all so1.contains = true) (h2 : sl.all so.contains = true) (hn : len = n) (m' : Nat) (hm : m' < m)
  (hi : I m' (pick so1 sl vs) h) : Xy Y n so sl I m id r Q .normal len vs2 h := ⟨hn, m', hm, by rw [Zjp ht h1 h2]; exact hi⟩

theorem Jh {n : Nat} {so1 so sl : List Nat} {I : Nat → List V → Heap → Prop} {m id j : Nat} {r : List Code} {Q : Out → St → Prop} {len : Nat} {vs vs2 : List V} {h : Heap} (sl' : List Nat) (h2 : Two so1 vs so vs2) (hj : j = id) (hn : len = n) (hs1 : sl'.all so1.contains = true) (hs : sl'.all so.contains = true)
  (ht : TriL Y r ⟨mk n (sl'.zip (pick so1 sl' vs)), [], h⟩ Q) : Xy Y n so sl I m id r Q (.exit j) len vs2 h :=
 Ze sl' hj hn hs (by rw [Zjp h2 hs1 hs]; exact ht)

end

theorem Zl {Y : YP} {fn : Func} {so : List Nat} {P : V → Heap → Prop} {o : Out} {n : Nat} {vs : List V} {h : Heap} {v : V} (ho : o = .normal ∨ o = .ret) (hv : resV Y fn (so.zip vs) = some v) (hp : P v h) : AtV so (FinS Y fn P) o n vs h :=
 Zm8 ⟨ho, v, hv, hp⟩
def Wk0 (v v' : V) : Prop := v = v' ∨ (∃ c k c', v = .sl none 0 c k ∧ v' = .ts [] 0 c' ∧ ∀ x, c' = some x → x = 0) ∨ ∃ cs n c, v = .ts cs n c ∧ v' = .ts cs n none
inductive WkL : List V → List V → Prop
 | nil : WkL [] []
 | cons (v v' : V) (l l' : List V) (h : Wk0 v v') (hl : WkL l l') : WkL (v :: l) (v' :: l')
def Wk (v v' : V) : Prop := Wk0 v v' ∨ ∃ cs cs', v = .lb cs ∧ v' = .lb cs' ∧ WkL cs cs'

theorem Wk0.refl (v : V) : Wk0 v v := .inl rfl
theorem Wk0.vr {W : Vw} {v v' : V} (h : Wk0 v v') {u : Value} (r : VR W v u) : VR W v' u := by
 rcases h with rfl | ⟨c, k, c', rfl, rfl, hc⟩ | ⟨cs, n, c, rfl, rfl⟩
 ·exact r
 ·cases r; exact .tsz _ hc
 ·cases r with
  | tsn _ _ a cap' hl hc => exact .tsn _ _ a cap' hl (fun c h => by cases h)
  | tsz _ hc => exact .tsz _ (fun c h => by cases h)
  | ts _ _ _ cap' blk off c e fr us hl hcap hs hc hr => exact .ts _ _ _ cap' blk off c e fr us hl (fun c h => by cases h) hs hc hr
theorem WkL.vr {W : Vw} : ∀ {l l' : List V} {us : List Value}, WkL l l' → VRs W l us → VRs W l' us
 | _, _, _, .nil, r => by cases r; exact .nil
 | _, _, _, .cons _ _ _ _ h hl, r => by cases r with | cons _ _ _ _ h1 h2 => exact .cons _ _ _ _ (h.vr h1) (hl.vr h2)

inductive WkA : List V → List V → Prop
 | nil : WkA [] []
 | one (v v' : V) (l l' : List V) (h : Wk0 v v') (hl : WkA l l') : WkA (v :: l) (v' :: l')
 | agg (cs cs' l l' : List V) (h : WkL cs cs') (hl : WkA l l') : WkA (.agg cs :: l) (.agg cs' :: l')
theorem WkA.vr {W : Vw} : ∀ {l l' : List V} {us : List Value}, WkA l l' → VRs W l us → VRs W l' us
 | _, _, _, .nil, r => by cases r; exact .nil
 | _, _, _, .one _ _ _ _ h hl, r => by cases r with | cons _ _ _ _ h1 h2 => exact .cons _ _ _ _ (h.vr h1) (hl.vr h2)
 | _, _, _, .agg _ _ _ _ h hl, r => by cases r with | cons _ _ _ _ h1 h2 => cases h1 with | agg _ _ h1 => exact .cons _ _ _ _ (.agg _ _ (h.vr h1)) (hl.vr h2)
theorem PCon.wk {Y : YP} {f : FuncId} {args args' : List V} {P : V → Prop} (hw : WkA args args') (h : PCon Y f args' P) : PCon Y f args P :=
 ⟨h.body, fun W w us hs hg hv => h.tr W w us hs hg (hw.vr hv)⟩
theorem WkL.refl : ∀ l : List V, WkL l l
 | [] => .nil
 | v :: l => .cons _ _ _ _ (.refl v) (WkL.refl l)

inductive WkE : List V → List V → Prop
 | nil : WkE [] []
 | cons (v v' : V) (l l' : List V) (h : Wk v v') (hl : WkE l l') : WkE (v :: l) (v' :: l')
section
variable {Y : YP}
def ZEy (Y : YP) (n : Nat) (so sl : List Nat) (I : Nat → List V → Heap → Prop) (m id : Nat) (r : List Code) (Q : Out → St → Prop) (o : Out) (len : Nat) (vs : List V) (h : Heap) : Prop :=
 match o with
 | .normal => len = n ∧ ∃ m', m' < m ∧ ∃ vs', WkE (pick so sl vs) vs' ∧ I m' vs' h
 | .exit j => if j = id then len = n ∧ ∃ sl' : List Nat, sl'.all so.contains = true ∧ TriL Y r ⟨mk n (sl'.zip (pick so sl' vs)), [], h⟩ Q else AtV so Q (.exit j) len vs h
 | .ret => AtV so Q .ret len vs h

end
structure Span where
 lo : Int
 hi : Int
 deriving DecidableEq, Inhabited
structure Glob where
 k : Int
 b : Int
 sp : List Span
 deriving DecidableEq, Inhabited

abbrev encS (x : Span) : List V := [.i .u8 x.lo, .i .u8 x.hi]
abbrev encG (x : Glob) : List V := [.i .i64 x.k, .i .u8 x.b, lst encS x.sp]
theorem Za8 (x : Span) : (encS x).length = 2 := rfl
theorem Ji (x : Glob) : (encG x).length = 3 := rfl
def VE (s : List UInt8) (i : Nat) (b : Bool) : Int × Nat × Bool := match s[i]? with
 | some c => (c.toNat, i + 1, b)
 | none => (0, i, true)

def endS (s : List UInt8) (i : Nat) : Except Nat (Int × Nat) := match s[i]? with
 | none => .error i
 | some c => if c = 93 ∨ c = 45 then .error i else if c = 92 then match s[i + 1]? with
   | none => .error (i + 1)
   | some d => .ok (d.toNat, i + 2)
  else .ok (c.toNat, i + 1)

def Jb (s : List UInt8) (i : Nat) : Except Nat (Span × Nat) := match endS s i with
 | .error e => .error e
 | .ok (lo, j) => if s[j]? = some 45 then match endS s (j + 1) with
   | .error e => .error e
   | .ok (hi, k) => if hi < lo then .error (k - 1) else .ok (⟨lo, hi⟩, k)
  else .ok (⟨lo, lo⟩, j)

def setS : Nat → List UInt8 → Nat → List Span → Except Nat (List Span × Nat)
 | 0, _, i, _ => .error i
 | n + 1, s, i, out => if out ≠ [] ∧ s[i]? = some 93 then .ok (out, i + 1) else match Jb s i with
  | .error e => .error e
  | .ok (x, j) => setS n s j (out ++ [x])

def Xb (s : List UInt8) (i : Nat) : Except Nat (Glob × Nat) := match s[i]? with
 | none => .error i
 | some c => if c = 42 then .ok (⟨2, 0, []⟩, i + 1) else if c = 63 then .ok (⟨1, 0, []⟩, i + 1) else
  if c = 91 then match setS (s.length + 1) s (i + 1) [] with
   | .error e => .error e
   | .ok (l, j) => .ok (⟨3, 0, l⟩, j)
  else if c = 92 then match s[i + 1]? with
   | none => .error (i + 1)
   | some d => .ok (⟨0, d.toNat, []⟩, i + 2)
  else .ok (⟨0, c.toNat, []⟩, i + 1)

def Qw : Nat → List UInt8 → Nat → List Glob → Except Nat (List Glob)
 | 0, _, i, _ => .error i
 | n + 1, s, i, out => if i < s.length then match Xb s i with
   | .error e => .error e
   | .ok (x, j) => Qw n s j (out ++ [x])
  else .ok out

theorem Zad {s : List UInt8} {i : Nat} {c : Int} {j : Nat} (h : endS s i = .ok (c, j)) : i < j ∧ j ≤ s.length ∧ j ≤ i + 2 := by
 unfold endS at h
 split at h
 ·cases h
 ·rename_i c1 h1
  have hi := (List.getElem?_eq_some_iff.1 h1).1
  split at h
  ·cases h
  ·split at h
   ·split at h
    ·cases h
    ·rename_i d h2
     have hi2 := (List.getElem?_eq_some_iff.1 h2).1
     cases h
     omega
   ·cases h
    omega

theorem Zez {s : List UInt8} {i : Nat} {x : Span} {j : Nat} (h : Jb s i = .ok (x, j)) : i < j ∧ j ≤ s.length := by
 unfold Jb at h
 split at h
 ·cases h
 ·rename_i lo k h1
  have := Zad h1
  split at h
  ·split at h
   ·cases h
   ·rename_i hi k2 h2
    have := Zad h2
    split at h
    ·cases h
    ·cases h; omega
  ·cases h; omega

theorem Ze0 {s : List UInt8} : ∀ {n i : Nat} {out l : List Span} {j : Nat}, setS n s i out = .ok (l, j) → i < j ∧ j ≤ s.length
 | 0, _, _, _, _, h => by cases h
 | n + 1, i, out, l, j, h => by
  simp only [setS] at h
  split at h
  ·rename_i hc
   have := (List.getElem?_eq_some_iff.1 hc.2).1
   cases h; omega
  ·split at h
   ·cases h
   ·rename_i x k h1
    have g1 := Zez h1
    have g2 := Ze0 h
    omega

theorem Zb4 {s : List UInt8} {i : Nat} {x : Glob} {j : Nat} (h : Xb s i = .ok (x, j)) : i < j ∧ j ≤ s.length := by
 unfold Xb at h
 split at h
 ·cases h
 ·rename_i c h0
  have hi := (List.getElem?_eq_some_iff.1 h0).1
  split at h
  ·cases h; omega
  ·split at h
   ·cases h; omega
   ·split at h
    ·split at h
     ·cases h
     ·rename_i l k h1
      have := Ze0 h1
      cases h; omega
    ·split at h
     ·split at h
      ·cases h
      ·rename_i d h1
       have := (List.getElem?_eq_some_iff.1 h1).1
       cases h; omega
     ·cases h; omega
structure Side where
 on : Bool
 shut : Bool
 eof : Bool
 place : Int
 clock : Int
 typed : List UInt8
 lines : List (List UInt8)
 fly : List UInt8
 ages : List Int
 ready : List UInt8
 buffer : List UInt8

abbrev encI (n : Int) : List V := [.i .i64 n]
abbrev encT (s : List UInt8) : List V := [.s s]
theorem ZV (n : Int) : (encI n).length = 1 := rfl
theorem JR (s : List UInt8) : (encT s).length = 1 := rfl
abbrev Zvd (s : Side) (lines ages : V) : List V := [.b s.on, .b s.shut, .b s.eof, .i .i64 s.place, .i .i64 s.clock, .s s.typed, lines, .s s.fly, ages, .s s.ready, .s s.buffer]
abbrev Zn (s : Side) : List V := Zvd s (lst encT s.lines) (lst encI s.ages)
abbrev Zsy : List V := [.b false, .b false, .b false, .i .i64 0, .i .i64 0, .s [], .sl none 0 (some 0) 0, .s [], .sl none 0 (some 0) 0, .s [], .s []]

theorem Zsz {α : Type} (f : α → V) (l : List α) : row (fun a => [f a]) l = l.map f := by
 induction l with
 | nil => rfl
 | cons a l ih => simp only [row, List.map_cons, List.flatten_cons] at ih ⊢; rw [ih]; rfl
theorem rowI (l : List Int) : row encI l = l.map (.i .i64) := Zsz _ l
theorem XC (l : List Int) : (row encI l).length = l.length := by rw [rowI]; simp
theorem WJ (l : List Int) : Zx (row encI l) = true := by
 rw [rowI]
 induction l with
 | nil => rfl
 | cons a l ih => simp only [List.map_cons, Zx, ih, Bool.and_true]; rfl
theorem Za9 (l : List Int) (h : Heap) : FrzL h (row encI l) (row encI l) := by
 rw [rowI]
 induction l with
 | nil => exact .nil
 | cons a l ih => exact .cons _ _ _ _ (.i _ _) ih


theorem Xj {p : Nat → Bool} {i : Nat} (h : (List.range i).all p = true) (hp : p i = true) : (List.range (i + 1)).all p = true := by
 rw [List.range_succ, List.all_append, h]; simp [hp]

theorem bnd_nat {i n : Nat} (h : i < n) : (0 : Int) ≤ (i : Nat) ∧ ((i : Nat) : Int) < (n : Nat) := ⟨by omega, by omega⟩
end Go.Y
