/- The operations that turn nothing, all of them. -/
import Derived.Test.YtfnpgefoikffdaaDoorYQuiet3
import Derived.Laws.Entries
import Derived.Laws.Slices
namespace Go.Y
section
variable {Y : YP} {W : Vw} {σ : St} {a : Act} {w : World}

theorem unY_ok {op : UnOp} {x v : V} (h : unY op x = some v) {u1 : Value} (hx : VR W x u1) : ∃ u, VR W v u ∧ ∀ w, (Op.unary op u1).run Y.P w = .ok u w := by
  unfold unY at h
  split at h
  · cases hx; simp at h; subst h; exact ⟨_, .b _, fun w => rfl⟩
  · cases hx; simp at h; subst h; exact ⟨_, .i _ _, fun w => by simp [Op.unary, Op.intArith]⟩
  · cases hx; simp only [Option.some.injEq] at h; subst h; exact ⟨_, .i _ _, fun w => rfl⟩
  · cases h

theorem load_ok (hY : YOK Y) (h : Rel W σ a w) {t : TypeId} {x : Operand} {ti : TI} (hti : Y.ty t = some ti) {ad : Ad} (had : addr σ x = some ad) {v : V}
    (hv : (cellsAt σ ti.size ad).bind (ofCells ti.kd.agg) = some v) : ∃ u, VR W v u ∧ ∀ w', Same w w' → (Instr.loadAt t (a.eval x)).run Y.P w' = .ok u w' := by
  obtain ⟨i, d, z, ht⟩ := hY.ty t ti hti
  obtain ⟨y, hy, hr⟩ := addr_ok h had
  obtain ⟨l, hl, hv⟩ := Option.bind_eq_some_iff.1 hv
  obtain ⟨us, h1, h2, h3⟩ := cellsAt_ok h hr hl
  obtain ⟨u, hu, he⟩ := ofCells_ok h1 hv
  refine ⟨u, hu, fun w' hw' => ?_⟩
  rw [hy]
  simp only [Instr.loadAt, Instr.sureAddr, Sem.run_bind, Sem.run_pure, Result.andThen_ok]
  exact run_loadVarY ht.und ht.info w' y us (by rw [h2, ht.size]) (h3.same hw') u (by rw [ht.agg]; exact he)

theorem fieldsOf_ok (hY : YOK Y) {t : TypeId} {fs : List (Nat × TypeId)} (h : fieldsOf Y t = some fs) :
    ∃ l : Array Field, Y.P.underlying t = some (.struct l) ∧ fs = l.toList.map (fun f => (f.offset, f.type)) := by
  unfold fieldsOf at h
  split at h
  · rename_i fs' hk
    simp at h; subst h
    obtain ⟨ti, hti, hk'⟩ := kd_of hk
    obtain ⟨i, d, z, ht⟩ := hY.ty t ti hti
    have hkd := ht.kd
    rw [hk'] at hkd
    obtain ⟨l, rfl, hfs, _⟩ := hkd
    exact ⟨l, ht.und, hfs⟩
  · cases h

theorem fieldA_ok (hY : YOK Y) (h : Rel W σ a w) {t : TypeId} {x : Operand} {f : Nat} {ad : Ad} (hf : fieldA Y σ t x f = some ad) :
    ∃ y, AdR W σ a ad y ∧ ∀ w', Same w w' → (Instr.fieldAt t (a.eval x) f).run Y.P w' = .ok (.pointer (some y)) w' := by
  unfold fieldA at hf
  split at hf
  · rename_i fs hfs
    obtain ⟨l, hl, rfl⟩ := fieldsOf_ok hY hfs
    split at hf
    · rename_i off ft a0 hg ha
      obtain ⟨y, hy, hr⟩ := addr_ok h ha
      split at hf
      · rename_i ti hti
        split at hf
        · rename_i hs
          simp at hf; subst hf
          obtain ⟨i, d, z, ht⟩ := hY.ty ft ti hti
          rw [List.getElem?_map, Option.map_eq_some_iff] at hg
          obtain ⟨fd, hfd, he⟩ := hg
          simp at he
          obtain ⟨rfl, rfl⟩ := he
          refine ⟨_, hr.shift _, fun w' _ => ?_⟩
          have hfd' : l[f]? = some fd := by simpa using hfd
          have hs' : i.size ≠ 0 := by rw [ht.size]; exact hs
          rw [hy]
          simp only [Instr.fieldAt, Sem.run_bind, run_underlying' hl, Result.andThen_ok, hfd', Instr.sureAddr, Sem.run_pure, fieldPlace, run_sizeOf ht.info, Sem.run_ite, hs', if_false]
        · cases hf
      · cases hf
    · cases hf
  · cases hf

theorem indexA_ok (hY : YOK Y) (h : Rel W σ a w) {t : TypeId} {x ix : Operand} {ad : Ad} (hf : indexA Y σ t x (ev σ.env ix) = some ad) :
    ∃ y, AdR W σ a ad y ∧ ∀ w', Same w w' → (Instr.indexAt t (a.eval x) (a.eval ix)).run Y.P w' = .ok (.pointer (some y)) w' := by
  have hix := h.ev ix
  unfold indexA at hf
  split at hf
  · rename_i n e k i hk hi
    rw [hi] at hix
    generalize a.eval ix = ui at hix
    cases hix
    obtain ⟨ti, hti, hk'⟩ := kd_of hk
    obtain ⟨inf, d, z, ht⟩ := hY.ty t ti hti
    have hkd := ht.kd
    rw [hk'] at hkd
    obtain ⟨rfl, _⟩ := hkd
    split at hf
    · rename_i te a0 hte ha
      split at hf
      · rename_i hc
        simp at hf; subst hf
        obtain ⟨ie, de, ze, hte'⟩ := hY.ty e te hte
        obtain ⟨y, hy, hr⟩ := addr_ok h ha
        refine ⟨_, hr.shift _, fun w' _ => ?_⟩
        rw [hy]
        simp only [Instr.indexAt, asIntOf, Sem.run_bind, run_underlying' ht.und, Result.andThen_ok, Instr.sureAddr, Sem.run_pure, Sem.run_ite]
        rw [if_pos ⟨hc.1, hc.2.1⟩]
        simp only [run_sizeOf hte'.info, Result.andThen_ok, hte'.size]
      · cases hf
    · cases hf
  · rename_i e k i hk hi
    rw [hi] at hix
    generalize a.eval ix = ui at hix
    cases hix
    obtain ⟨ti, hti, hk'⟩ := kd_of hk
    obtain ⟨inf, d, z, ht⟩ := hY.ty t ti hti
    have hkd := ht.kd
    rw [hk'] at hkd
    cases hkd
    have hx := h.ev x
    split at hf
    · rename_i te id o len cap k' hte hxv
      rw [hxv] at hx
      generalize a.eval x = ux at hx
      split at hf
      · rename_i hc
        obtain ⟨h0, h1, h2, rfl⟩ := hc
        simp at hf; subst hf
        obtain ⟨ie, de, ze, hte'⟩ := hY.ty e te hte
        cases hx with
        | sls _ _ _ _ _ y cap' hid hl _ ha _ _ =>
          refine ⟨y.add (i.toNat * te.size), ⟨hid, fun hv => ?_⟩, fun w' _ => ?_⟩
          · rw [ha hv (by omega)]; unfold Vw.at; rw [add_at, Nat.add_assoc]
          · simp only [Instr.indexAt, asIntOf, Sem.run_bind, run_underlying' ht.und, Result.andThen_ok, Sem.run_pure, Sem.run_ite]
            rw [if_pos ⟨h0, h1⟩]
            simp only [run_sizeOf hte'.info, Result.andThen_ok, hte'.size]
      · cases hf
    · rename_i te cs len cap hte hxv
      rw [hxv] at hx
      generalize a.eval x = ux at hx
      split at hf
      · rename_i hc
        obtain ⟨h0, h1, h2⟩ := hc
        simp at hf; subst hf
        obtain ⟨ie, de, ze, hte'⟩ := hY.ty e te hte
        have run : ∀ (y : Addr) (cap' : Nat) w', (Instr.indexAt t (.slice (some y) len cap') (.int k i)).run Y.P w' = .ok (.pointer (some (y.add (i.toNat * te.size)))) w' := by
          intro y cap' w'
          simp only [Instr.indexAt, asIntOf, Sem.run_bind, run_underlying' ht.und, Result.andThen_ok, Sem.run_pure, Sem.run_ite]
          rw [if_pos ⟨h0, h1⟩]
          simp only [run_sizeOf hte'.info, Result.andThen_ok, hte'.size]
        cases hx with
        | tsn _ _ y cap' => exact ⟨_, .inl (by simp), fun w' _ => run y cap' w'⟩
        | tsz => omega
        | ts _ _ _ cap' blk off c et fr us hl hcap hs hcc hr =>
          have hr' : AdR W σ a (.ro cs) ⟨blk, off, none⟩ := .inr ⟨blk, off, c, et, fr, us, rfl, hs, hcc, hr⟩
          exact ⟨_, hr'.shift _, fun w' _ => run _ cap' w'⟩
      · cases hf
    · cases hf
  · cases hf

theorem cells_ok {v : V} {u : Value} (h : VR W v u) (hc : allCells v.cells = true) : VRs W v.cells u.cells.toList := by
  cases h with
  | agg cs us h => simpa [V.cells, Value.cells] using h
  | undef u => simp [V.cells, allCells, V.cellOK] at hc
  | tup cs us h => simp [V.cells, allCells, V.cellOK] at hc
  | b x => exact .cons _ _ _ _ (.b x) .nil
  | i k n => exact .cons _ _ _ _ (.i k n) .nil
  | s l => exact .cons _ _ _ _ (.s l) .nil
  | pn => exact .cons _ _ _ _ .pn .nil
  | ps id off a hid ha => exact .cons _ _ _ _ (.ps id off a hid ha) .nil
  | tpn a => exact .cons _ _ _ _ (.tpn a) .nil
  | tp cs blk off c e fr us hs hc' hr => exact .cons _ _ _ _ (.tp cs blk off c e fr us hs hc' hr) .nil
  | sln c k => exact .cons _ _ _ _ (.sln c k) .nil
  | sls id off len cap k a cap' hid hl hc' ha hn hk => exact .cons _ _ _ _ (.sls id off len cap k a cap' hid hl hc' ha hn hk) .nil
  | tsn len cap a cap' hl hc' => exact .cons _ _ _ _ (.tsn len cap a cap' hl hc') .nil
  | tsz cap hc' => exact .cons _ _ _ _ (.tsz cap hc') .nil
  | ts cs len cap cap' blk off c e fr us hl hcap hs hc' hr => exact .cons _ _ _ _ (.ts cs len cap cap' blk off c e fr us hl hcap hs hc' hr) .nil
  | mpn => exact .cons _ _ _ _ .mpn .nil
  | mps id r hid hr => exact .cons _ _ _ _ (.mps id r hid hr) .nil
  | fn f a c ua uc ha hc' => exact .cons _ _ _ _ (.fn f a c ua uc ha hc') .nil
  | nilfn => exact .cons _ _ _ _ .nilfn .nil
  | ifc t v u h => exact .cons _ _ _ _ (.ifc t v u h) .nil
  | nilifc => exact .cons _ _ _ _ .nilifc .nil
  | yl id l hid hl => exact .cons _ _ _ _ (.yl id l hid hl) .nil

theorem oneCells_ok : ∀ {cs : List V} {us : List Value}, VRs W cs us → allCells cs = true → ∀ u ∈ us, u.oneCell' = true
  | _, _, .nil, _, u, hu => by simp at hu
  | _, _, .cons v u' l m h hs, hc, u, hu => by
    simp only [allCells, Bool.and_eq_true] at hc
    rcases List.mem_cons.1 hu with rfl | hu
    · cases h <;> first | rfl | (simp [V.cellOK] at hc)
    · exact oneCells_ok hs hc.2 u hu

/-- 'fill' of the model, by lists. -/
theorem foldl_set (n : Nat) : ∀ (vs : List Value) (k : Nat) (cs : Array Value), n + k + vs.length ≤ cs.size →
    ((vs.zipIdx k).foldl (fun cs (p : Value × Nat) => cs.setIfInBounds (n + p.2) p.1) cs).toList = splice cs.toList (n + k) vs
  | [], k, cs, h => by
    apply List.ext_getElem?
    intro j
    rw [splice_get _ _ _ _ (by simpa using h)]
    simp only [List.zipIdx_nil, List.foldl_nil]
    split
    · rename_i hj; simp at hj; omega
    · rfl
  | v :: vs, k, cs, h => by
    simp only [List.length_cons] at h
    simp only [List.zipIdx_cons, List.foldl_cons]
    rw [foldl_set n vs (k + 1) _ (by simp; omega)]
    apply List.ext_getElem?
    intro j
    rw [splice_get _ _ _ _ (by simp; omega), splice_get _ _ _ _ (by simp; omega)]
    simp only [List.length_cons, Array.getElem?_toList, Array.getElem?_setIfInBounds]
    by_cases hj : j = n + k
    · subst hj
      rw [if_neg (by omega), if_pos (by omega)]
      simp; omega
    · by_cases hc : n + (k + 1) ≤ j ∧ j < n + (k + 1) + vs.length
      · rw [if_pos hc, if_pos (by omega)]
        obtain ⟨q, hq⟩ : ∃ q, j = n + k + (q + 1) := ⟨j - (n + k + 1), by omega⟩
        subst hq
        rw [show n + k + (q + 1) - (n + (k + 1)) = q by omega, show n + k + (q + 1) - (n + k) = q + 1 by omega]
        simp
      · rw [if_neg hc, if_neg (by omega : ¬ (n + k ≤ j ∧ j < n + k + (vs.length + 1))), if_neg (fun e : n + k = j => hj e.symm)]

theorem fill_ok (h : Rel W σ a w) {place : Nat → Option (Nat × Nat)} : ∀ (parts : List (Nat × Operand)) (cs r : List V) (us : List Value), VRs W cs us →
    fillY (ev σ.env) place parts cs = some r → ∃ us', VRs W r us' ∧ Instr.fill place us.toArray (parts.map fun p => (p.1, a.eval p.2)) = some us'.toArray
  | [], cs, r, us, hr, hf => by simp [fillY] at hf; subst hf; exact ⟨us, hr, by simp [Instr.fill]⟩
  | p :: rest, cs, r, us, hr, hf => by
    simp only [fillY] at hf
    split at hf
    · rename_i off size hp
      split at hf
      · rename_i hc
        obtain ⟨h1, h2, h3⟩ := hc
        have hv := cells_ok (h.ev p.2) h3
        have hl := hv.length
        have hl2 := hr.length
        have hsp := hr.splice hv off h2
        obtain ⟨us', h4, h5⟩ := fill_ok h rest _ r _ hsp hf
        refine ⟨us', h4, ?_⟩
        simp only [List.map_cons, Instr.fill, hp]
        have e1 : (a.eval p.2).cells.size = size := by rw [← Array.length_toList, ← hl, h1]
        have e2 : ¬ ((a.eval p.2).cells.size ≠ size ∨ off + (a.eval p.2).cells.size > us.toArray.size) := by
          rw [e1]; simp; omega
        rw [if_neg (by simpa using e2)]
        rw [← h5]
        congr 1
        have hz : (a.eval p.2).cells.zipIdx.foldl (fun cs x => cs.setIfInBounds (off + x.2) x.1) us.toArray = (splice us off (a.eval p.2).cells.toList).toArray := by
          apply Array.ext'
          rw [← Array.foldl_toList, Array.toList_zipIdx]
          rw [foldl_set off _ 0 _ (by simp; omega)]
          simp
        exact hz
      · cases hf
    · cases hf
end
end Go.Y
