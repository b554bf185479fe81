/- How long a list is that comes in: as much as the reading allows. -/
import Derived.Test.YtkcgmnhojldoiaaGreatYRow
import Derived.SizedLaws
namespace Go.Y
set_option maxRecDepth 1000000
set_option maxHeartbeats 0
theorem Zj6 {W : Vw} {cs : List V} {n : Nat} {c : Option Nat} {u : Value} (h : VR W (.ts cs n c) u) : ∃ a cap, u = .slice a n cap := by
 cases h
 ·exact ⟨_, _, rfl⟩
 ·exact ⟨_, _, rfl⟩
 ·exact ⟨_, _, rfl⟩
theorem Zo7 {W : Vw} : ∀ {l : List V} {us : List Value}, VRs W l us → ∀ {i : Nat} {v : V}, l[i]? = some v → ∃ u, us[i]? = some u ∧ VR W v u
 | _, _, .nil, i, v, h => by simp at h
 | _, _, .cons _ _ _ _ hv _, 0, v, h => by simp at h; subst h; exact ⟨_, rfl, hv⟩
 | _, _, .cons _ _ _ _ _ hs, i + 1, v, h => by
  obtain ⟨u, h1, h2⟩ := Zo7 hs (i := i) (v := v) (by simpa using h)
  exact ⟨u, by simpa using h1, h2⟩

theorem Zhh {H : Type} {enc : TypeId × Value → H} {P : Program} {w : World} {base : Nat} {spare : Nat → Bool} {held : Bool} {fuel : Nat} {t : TypeId} {cs : List Value} {x : DataW H × List MemPlace} {fs : Array Field}
  (hu : P.underlying t = some (.struct fs)) (h : DataW.trod enc P w base spare held fuel t cs = some x) (hw : ∀ n ∈ x.1.weights P t, n ≤ reachBytes) {i : Nat} {f : Field} (hf : fs[i]? = some f) {e : TypeId}
  (hue : P.underlying f.type = some (.slice e)) (hb : 0 < P.bytesOf e) (hc : P.cellsOf f.type = 1) {a : Option Addr} {len cap : Nat} (hcell : cs[f.offset]? = some (.slice a len cap)) : len ≤ reachBytes := by
 obtain ⟨xs, n, rfl, rfl, hlen, hxl, hf'⟩ := DataW.trod_struct hu h
 have h1 := hf' i f hf
 have hi : i < xs.length := by rw [hxl]; exact (Array.getElem?_eq_some_iff.1 hf).1
 have h2 : xs[i]? = some xs[i] := List.getElem?_eq_getElem hi
 rw [hc, h2] at h1
 have h3 : (cs.drop f.offset).take 1 = [.slice a len cap] := by
  have hlt := (List.getElem?_eq_some_iff.1 hcell).1
  have he := (List.getElem?_eq_some_iff.1 hcell).2
  rw [List.drop_eq_getElem_cons hlt, he]; rfl
 rw [h3] at h1
 generalize hxi : xs[i] = xi at h1 h2
 rcases DataW.trod_slice hue h1 with ⟨e1, _⟩ | ⟨a', len', cap', elems, rest, m, _, e1, e2, _, _, _, hl, _⟩
 ·cases e1; exact Nat.zero_le _
 ·cases e1
  have hm : (elems.length + rest.length) * P.bytesOf e ≤ reachBytes := by
   refine hw _ ?_
   simp only [DataW.weights, hu]
   refine DataW.weights_mem_each (j := i) (t := f.type) (d := xi.1) (by simp; exact ⟨f, by simpa using hf, rfl⟩) (by simp [h2]) _ ?_
   rw [e2]
   simp [DataW.weights, hue]
  have : elems.length ≤ (elems.length + rest.length) * P.bytesOf e := Nat.le_trans (Nat.le_add_right _ _) (Nat.le_mul_of_pos_right _ hb)
  omega
end Go.Y
