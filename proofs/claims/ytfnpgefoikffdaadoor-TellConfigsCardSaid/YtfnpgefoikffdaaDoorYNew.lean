/- New objects, whatever else there is. -/
import Derived.Test.YtfnpgefoikffdaaDoorYExo
namespace Go.Y

/-- One object more, under a number of its own. -/
structure PushH (h h' : Heap) (i : Nat) (o : YObj) : Prop where
  raw : ∀ j, h'.raw j = if j = i then some (some o) else h.raw j
  nx : h.nx ≤ h'.nx ∧ i < h'.nx
  tg : h'.tg = h.tg

section
variable {Y : YP} {W W' : Vw} {σ σ' : St} {a : Act} {w w' : World}

theorem HRel.newRowAt {h h' : Heap} (hr : HRel W h w) {i : Nat} (hi : ¬ W.kn i) {cs : List V} {us : List Value} (hv : VRs W cs us) (e : TypeId) (hp : PushH h h' i (.arr cs true)) :
    HRel (W.push i w.heap.size us.length) h' (w.alloc (.cells us.toArray e)) ∧ Stp W W.own w (W.push i w.heap.size us.length) (W.push i w.heap.size us.length).own (w.alloc (.cells us.toArray e)) := by
  refine hr.pushAt hi (ob := .cells us.toArray e) ⟨rfl, rfl, rfl⟩ (alloc_same _ _) (by simp) (alloc_at _ _) hp.raw hp.nx hp.tg ?_
  have hl := hv.length
  refine ⟨us.toArray, e, (0, 0), by simpa [Vw.push] using alloc_at w (.cells us.toArray e), by simp [Vw.push], by simp [Vw.push]; omega, fun j v hj => ?_, fun j _ _ => by simp⟩
  obtain ⟨u, hu, hr'⟩ := hv.get hj
  exact ⟨u, by simpa [Vw.push] using hu, hr'.mono (W.push_le hi _ _)⟩

theorem newO_ok (hY : YOK Y) (h : Rel W σ a w) {o : Oper} {x : YObj} {vf : Nat → V} (hs : newO Y σ o = some (x, vf)) {i : Nat} (hi : ¬ W.kn i) {h' : Heap} (hp : PushH σ.h h' i x) :
    StepR Y W σ a w o (putV { σ with h := h' } o.dst (vf i)) := by
  unfold newO at hs
  split at hs
  · rename_i t xl xc hop
    split at hs
    · rename_i et kl l kc c hk hl hc
      split at hs
      · rename_i te hte
        split at hs
        · rename_i hin
          simp only [Option.some.injEq, Prod.mk.injEq] at hs
          obtain ⟨rfl, rfl⟩ := hs
          obtain ⟨ti, hti, hk'⟩ := kd_of hk
          obtain ⟨ii, d, z, ht⟩ := hY.ty t ti hti
          have hkd := ht.kd
          rw [hk'] at hkd
          cases hkd
          obtain ⟨ie, de, ze, hee⟩ := hY.ty et te hte
          obtain ⟨i0, i1, i2, i3, i4⟩ := hin
          have hzl := (hee.zr W).length
          have hzl2 := hee.zl
          have hzs : ze.cells.size = te.size := by rw [← Array.length_toList, ← hzl, hzl2]
          have hrow := zero_row (hee.zr W) c.toNat
          obtain ⟨g1, g2⟩ := h.heap.newRowAt hi hrow et hp
          have hul : ((List.range (c.toNat * ze.cells.size)).map fun i => ze.cells[i % ze.cells.size]!).length = c.toNat * te.size := by simp [hzs]
          simp only [hul] at g1 g2
          have hval : VR (W.push i w.heap.size (c.toNat * te.size)) (.sl (some (i, 0)) l.toNat (some c.toNat) te.size) (.slice (some ⟨w.heap.size, 0, none⟩) l.toNat c.toNat) := by
            refine .sls _ _ _ _ _ _ _ (.inr rfl) (by omega) (fun c' hc => by simpa using hc) (fun _ _ => ?_) (fun _ hc => nomatch hc) (fun _ => ?_)
            · simp [Vw.at, Vw.push]
            · simp [Vw.push]
          refine StepR.heap h g1 g2 hval ?_ (.inl rfl)
          have hel := h.ev xl
          have hec := h.ev xc
          rw [hl] at hel
          rw [hc] at hec
          generalize hul2 : a.eval xl = ul at hel
          generalize huc2 : a.eval xc = uc at hec
          cases hel; cases hec
          have hb : (ie.bytes : Int) * c ≤ 281474976710656 := by
            rw [hee.bytes, Int.mul_comm]
            have : (most : Int) ≤ 281474976710656 := by decide
            omega
          have hm63 : c ≤ 9223372036854775807 := by
            have : (most : Int) ≤ 9223372036854775807 := by decide
            omega
          have hrun := run_make (P := Y.P) w t et ie ze ht.und hee.info hee.zero kl kc l c i1 i2 hb hm63
          have hcells : madeCells ze.cells (c.toNat * ie.size) = ((List.range (c.toNat * ze.cells.size)).map fun i => ze.cells[i % ze.cells.size]!).toArray := by
            rw [← range_map, madeCells, hee.size, hzs]
          simp only [execOp, hop, hul2, huc2, Sem.run_bind, hrun, Result.andThen_ok, Sem.run_pure, hcells]
        · cases hs
      · cases hs
    · cases hs
  · rename_i t hop
    simp only [Option.some.injEq, Prod.mk.injEq] at hs
    obtain ⟨rfl, rfl⟩ := hs
    obtain ⟨g1, g2⟩ := h.heap.pushAt (w' := w.alloc (.map #[] 0)) hi (ob := .map #[] 0) (sz := 0) ⟨rfl, rfl, rfl⟩ (alloc_same _ _) (by simp) (alloc_at _ _) hp.raw hp.nx hp.tg
      ⟨#[], 0, by simpa [Vw.push] using alloc_at w (.map #[] 0), .nil, .nil⟩
    refine StepR.heap h g1 g2 (u := .map (some w.heap.size)) (.mps _ _ (.inr rfl) (fun _ => by simp [Vw.push])) ?_ (.inl rfl)
    have e1 : (newObj (.map #[] 0)).run Y.P w = .ok w.heap.size (w.alloc (.map #[] 0)) := rfl
    simp only [execOp, hop, Option.map_none, Instr.makeMap, Sem.run_bind, Sem.run_pure, e1, Result.andThen_ok]
  · cases hs

theorem PushH.push (h : Heap) (o : YObj) : PushH h (h.push o) h.nx o := ⟨fun j => by simp, by simp, rfl⟩
end
end Go.Y
