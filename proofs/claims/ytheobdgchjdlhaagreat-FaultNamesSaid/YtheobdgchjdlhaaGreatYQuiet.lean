/- The operations that turn nothing: what the abstract machine says of them holds in the model. -/
import Derived.Test.YtheobdgchjdlhaaGreatYMem
import Derived.Laws.StructEq
namespace Go.Y

def KdOK (Y : YP) (t : TypeId) : Kd → TypeDesc → Prop
  | .bool, d => d = .bool
  | .int k, d => d = .int k
  | .str, d => d = .string
  | .slice e, d => d = .slice e
  | .arr n e, d => d = .array n e ∧ Y.P.eqGuardType Y.P.depth t = false
  | .struct fs, d => ∃ l : Array Field, d = .struct l ∧ fs = l.toList.map (fun f => (f.offset, f.type)) ∧ (∀ f ∈ l, f.name ≠ "_") ∧ Y.P.stoodInHeld t = false ∧ Y.P.eqGuardType Y.P.depth t = false
  | .ptr e, d => d = .pointer e
  | .map k e, d => d = .map k e
  | .func, d => ∃ a b c, d = .func a b c
  | .iface, d => ∃ ms, d = .interface ms
  | .other, _ => False

structure TIOK (Y : YP) (t : TypeId) (ti : TI) (i : TypeInfo) (d : TypeDesc) (z : Value) : Prop where
  info : Y.P.info? t = some i
  und : Y.P.underlying t = some d
  zero : i.zero = some z
  size : i.size = ti.size
  bytes : i.bytes = ti.bytes
  zr : ∀ W, VRs W ti.zero z.cells.toList
  zl : ti.zero.length = ti.size
  zc : allCells ti.zero = true
  kd : KdOK Y t ti.kd d
  agg : aggD d = ti.kd.agg
  one : ti.kd.agg = false → ti.size = 1

/-- Functions without a body are what they are taken for. -/
def extE : Nat → Array Value → Sem Value
  | 1 => Extern.AbiNoEscape.same
  | _ => Extern.BytealgIndexByte.indexByte
def ExtOK (Y : YP) : Prop := ∀ p ∈ Y.ext, ∃ fn, Y.P.funcs[p.1]? = some fn ∧ fn.body.isNone = true ∧ Extern.findNext fn = none ∧ Extern.find fn = some (extE p.2)

structure YOK (Y : YP) : Prop where
  ty : ∀ t ti, Y.ty t = some ti → ∃ i d z, TIOK Y t ti i d z
  mixed : Y.P.follows .mixedOrders = true
  name : ∀ (f : FuncId) (fn : Func), Y.P.funcs[f]? = some fn → (fn.name == "runtime.NumGoroutine") = false
  ext : ExtOK Y

/-- An address, abstract and in the model. -/
def AdR (W : Vw) (σ : St) (a : Act) : Ad → Addr → Prop
  | .lb s o, x => ∃ b, boxAt σ a s b ∧ x = ⟨b, o, none⟩
  | .hp id o, x => id < W.nx ∧ (W.lv id → x = W.at id o)
  | .ro cs, x => cs = [] ∨ ∃ (blk off : Nat) (c : Array Value) (e : TypeId) (fr : Nat × Nat) (us : List Value), x = ⟨blk, off, none⟩ ∧ W.snap blk = some (.cells c e fr) ∧
      (∀ j u, us[j]? = some u → c[off + j]? = some u) ∧ VRs W.dead cs us

theorem takeX_eq : ∀ (n : Nat) (l r : List V), takeX n l = some r → r = l.take n ∧ r.length = n
  | 0, l, r, h => by simp [takeX] at h; subst h; simp
  | n + 1, [], r, h => by simp [takeX] at h
  | n + 1, v :: l, r, h => by
    simp only [takeX, Option.map_eq_some_iff] at h
    obtain ⟨r', h1, rfl⟩ := h
    obtain ⟨h2, h3⟩ := takeX_eq n l r' h1
    exact ⟨by simp [← h2], by simp [h3]⟩

theorem lookRef_mem : ∀ {l : List (Nat × Nat × Nat)} {t s o : Nat}, lookRef l t = some (s, o) → (t, s, o) ∈ l
  | (d, s', o') :: l, t, s, o, h => by
    simp only [lookRef] at h
    split at h
    · rename_i hd; simp at h; simp [hd, h]
    · simp [lookRef_mem h]

section
variable {Y : YP} {W : Vw} {σ : St} {a : Act} {w : World}

theorem Rel.boxOf (h : Rel W σ a w) {t : Nat} {cs : List V} (ht : σ.env[t]? = some (.lb cs)) : ∃ b, boxAt σ a t b := by
  obtain ⟨u, h1, h2⟩ := h.env t _ ht
  obtain ⟨b, c, e, hu, _⟩ := h2
  exact ⟨b, ⟨cs, ht⟩, by rw [h1, hu]⟩

theorem Rel.boxCells (h : Rel W σ a w) {t b : Nat} {cs : List V} (ht : σ.env[t]? = some (.lb cs)) (hb : boxAt σ a t b) :
    ∃ (c : Array Value) (e : TypeId), w.heap[b]? = some (.cells c e (0, 0)) ∧ VRs W cs c.toList ∧ W.snap b = none ∧ ¬ W.own b := by
  obtain ⟨u, h1, h2⟩ := h.env t _ ht
  obtain ⟨b', c, e, hu, hc, h3⟩ := h2
  have h4 := hb.2
  rw [h1, hu] at h4
  simp at h4
  subst h4
  exact ⟨c, e, hc, h3⟩

theorem addr_ok (h : Rel W σ a w) {x : Operand} {ad : Ad} (hx : addr σ x = some ad) : ∃ y : Addr, a.eval x = .pointer (some y) ∧ AdR W σ a ad y := by
  cases x with
  | tmp t =>
    simp only [addr] at hx
    cases ht : σ.env[t]? with
    | none => simp [List.getD, ht] at hx
    | some v =>
      obtain ⟨u, h1, h2⟩ := h.env t v ht
      have he : a.eval (.tmp t) = u := by simp [Act.eval, h1]
      simp only [List.getD, ht, Option.getD_some] at hx
      rw [he]
      cases v with
      | lb cs =>
        simp at hx; subst hx
        obtain ⟨b, hb⟩ := h.boxOf ht
        have := hb.2
        rw [h1] at this; simp at this
        exact ⟨⟨b, 0, none⟩, this, b, hb, rfl⟩
      | p o =>
        cases o with
        | none => simp at hx
        | some p =>
          obtain ⟨i, o⟩ := p
          simp at hx; subst hx
          cases h2 with
          | ps _ _ y hid ha => exact ⟨y, rfl, hid, ha⟩
      | tp cs =>
        simp at hx; subst hx
        cases h2 with
        | tpn y => exact ⟨y, rfl, .inl rfl⟩
        | tp _ blk off c e fr us hs hc hr => exact ⟨_, rfl, .inr ⟨blk, off, c, e, fr, us, rfl, hs, hc, hr⟩⟩
      | rf =>
        cases hl : lookRef σ.refs t with
        | none => simp [hl] at hx
        | some so =>
          obtain ⟨s, o⟩ := so
          simp only [hl] at hx
          have hm := lookRef_mem hl
          cases hs : σ.env[s]? with
          | none => simp [hs] at hx
          | some vs =>
            cases vs with
            | lb cs =>
              simp [hs] at hx; subst hx
              obtain ⟨b, hb⟩ := h.boxOf hs
              have h3 := h.refs t s o hm ht b hb
              rw [h1] at h3; simp at h3
              exact ⟨⟨b, o, none⟩, h3, b, hb, rfl⟩
            | _ => simp [hs] at hx
      | _ => simp at hx
  | const v => simp [addr] at hx
  | global g => simp [addr] at hx
  | func f => simp [addr] at hx

theorem cellsAt_ok (h : Rel W σ a w) {ad : Ad} {y : Addr} (hy : AdR W σ a ad y) {n : Nat} {l : List V} (hl : cellsAt σ n ad = some l) :
    ∃ us, VRs W l us ∧ us.length = n ∧ CellsW w y us := by
  cases ad with
  | lb s o =>
    obtain ⟨b, hb, rfl⟩ := hy
    simp only [cellsAt] at hl
    cases hs : σ.env[s]? with
    | none => simp [List.getD, hs] at hl
    | some vs =>
      cases vs with
      | lb cs =>
        simp [List.getD, hs] at hl
        obtain ⟨h1, h2⟩ := takeX_eq _ _ _ hl
        obtain ⟨c, e, hc, hr, _⟩ := h.boxCells hs hb
        have hv := (hr.drop o).take n
        rw [← h1] at hv
        refine ⟨_, hv, by rw [← hv.length, h2], CellsW.of_block hc fun j u hj => ?_⟩
        rw [List.getElem?_take] at hj
        split at hj
        · rw [List.getElem?_drop] at hj; simpa using hj
        · cases hj
      | _ => simp [List.getD, hs] at hl
  | hp id o =>
    obtain ⟨hid, ha⟩ := hy
    simp only [cellsAt] at hl
    cases ho : σ.h.get id with
    | none => simp [ho] at hl
    | some ob =>
      cases ob with
      | arr cs wr =>
        simp only [ho] at hl
        have hlv : W.lv id := (h.heap.lv id).2 (by simp [ho])
        obtain ⟨h1, h2⟩ := takeX_eq _ _ _ hl
        obtain ⟨c, e, fr, hc, h3, h4, h5, _⟩ := h.heap.obj id _ ho
        have hcs : VRs W cs ((c.toList.drop (W.mu id).2).take cs.length) := by
          refine VRs.of_get (by simp; omega) fun j v u hv hu => ?_
          obtain ⟨u', hu', hr⟩ := h5 j v hv
          rw [List.getElem?_take] at hu
          split at hu
          · rw [List.getElem?_drop] at hu
            simp at hu
            rw [hu'] at hu; simp at hu; subst hu; exact hr
          · cases hu
        have hv := (hcs.drop o).take n
        rw [← h1] at hv
        rw [ha hlv]
        refine ⟨_, hv, by rw [← hv.length, h2], CellsW.of_block hc fun j u hj => ?_⟩
        rw [List.getElem?_take] at hj
        split at hj
        · rw [List.getElem?_drop, List.getElem?_take] at hj
          split at hj
          · rw [List.getElem?_drop] at hj; simpa [Nat.add_assoc] using hj
          · cases hj
        · cases hj
      | _ => simp [ho] at hl
  | ro cs =>
    simp only [cellsAt] at hl
    obtain ⟨h1, h2⟩ := takeX_eq _ _ _ hl
    rcases hy with rfl | ⟨blk, off, c, e, fr, us, rfl, hs, hc, hr⟩
    · simp at h1; subst h1; simp at h2; subst h2
      exact ⟨[], .nil, rfl, fun j u hj => by simp at hj⟩
    · have hv := hr.take n
      rw [← h1] at hv
      refine ⟨_, hv.mono (dead_le W), by rw [← hv.length, h2], CellsW.of_block (h.heap.snap _ _ hs) fun j u hj => ?_⟩
      rw [List.getElem?_take] at hj
      split at hj
      · exact hc j u hj
      · cases hj

theorem AdR.shift {ad : Ad} {y : Addr} (hy : AdR W σ a ad y) (n : Nat) : AdR W σ a (ad.shift n) (y.add n) := by
  cases ad with
  | lb s o =>
    obtain ⟨b, hb, rfl⟩ := hy
    exact ⟨b, hb, by rw [add_at]⟩
  | hp id o =>
    obtain ⟨hid, ha⟩ := hy
    exact ⟨hid, fun hl => by rw [ha hl]; unfold Vw.at; rw [add_at, Nat.add_assoc]⟩
  | ro cs =>
    rcases hy with rfl | ⟨blk, off, c, e, fr, us, rfl, hs, hc, hr⟩
    · exact .inl (by simp)
    · refine .inr ⟨blk, off + n, c, e, fr, us.drop n, by rw [add_at], hs, fun j u hj => ?_, hr.drop n⟩
      rw [List.getElem?_drop] at hj
      rw [Nat.add_assoc]
      exact hc _ _ hj

theorem AdR.of_q {ad : Ad} {y : Addr} (hy : AdR W σ a ad y) : match ad.q with
    | .val v => VR W v (.pointer (some y))
    | .ref s o => ∃ b, boxAt σ a s b ∧ Value.pointer (some y) = .pointer (some ⟨b, o, none⟩) := by
  cases ad with
  | lb s o => obtain ⟨b, hb, rfl⟩ := hy; exact ⟨b, hb, rfl⟩
  | hp id o => exact .ps id o y hy.1 hy.2
  | ro cs =>
    rcases hy with rfl | ⟨blk, off, c, e, fr, us, rfl, hs, hc, hr⟩
    · exact .tpn y
    · exact .tp cs blk off c e fr us hs hc hr

theorem ofCells_ok {ag : Bool} {l : List V} {us : List Value} {v : V} (h : VRs W l us) (hv : ofCells ag l = some v) :
    ∃ u, VR W v u ∧ (if ag then u = .agg us.toArray else us = [u]) := by
  cases ag
  · simp only [ofCells, Bool.false_eq_true, if_false] at hv ⊢
    cases h with
    | nil => simp at hv
    | cons v' u l m h1 h2 =>
      cases h2 with
      | nil => simp at hv; subst hv; exact ⟨u, h1, rfl⟩
      | cons _ _ _ _ _ _ => simp at hv
  · simp [ofCells] at hv; subst hv
    exact ⟨_, .agg _ _ h, by simp⟩
end

end Go.Y
