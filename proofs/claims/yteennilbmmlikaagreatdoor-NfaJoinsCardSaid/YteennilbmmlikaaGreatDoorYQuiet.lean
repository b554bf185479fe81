/- The operations that turn nothing: what the abstract machine says of them holds in the model. -/
import Derived.Test.YteennilbmmlikaaGreatDoorYRel
import Derived.Laws.StructEq
namespace Go.Y

def KdOK (Y : YP) (t : TypeId) : Kd → TypeDesc → Prop
  | .bool, d => d = .bool
  | .int k, d => d = .int k
  | .str, d => d = .string
  | .slice e, d => d = .slice e
  | .arr n e, d => d = .array n e ∧ Y.P.eqGuardType Y.P.depth t = false
  | .struct fs, d => ∃ l : Array Field, d = .struct l ∧ fs = l.toList.map (fun f => (f.offset, f.type)) ∧ (∀ f ∈ l, f.name ≠ "_") ∧ Y.P.stoodInHeld t = false ∧ Y.P.eqGuardType Y.P.depth t = false
  | .ptr e, d => d = .pointer e
  | .map k e, d => d = .map k e
  | .func, d => ∃ a b c, d = .func a b c
  | .iface, d => ∃ ms, d = .interface ms
  | .other, _ => False

structure TIOK (Y : YP) (t : TypeId) (ti : TI) (i : TypeInfo) (d : TypeDesc) (z : Value) : Prop where
  info : Y.P.info? t = some i
  und : Y.P.underlying t = some d
  zero : i.zero = some z
  size : i.size = ti.size
  bytes : i.bytes = ti.bytes
  zr : ∀ W, VRs W ti.zero z.cells.toList
  zl : ti.zero.length = ti.size
  zc : allCells ti.zero = true
  kd : KdOK Y t ti.kd d
  agg : aggD d = ti.kd.agg
  one : ti.kd.agg = false → ti.size = 1

def extE : Nat → Array Value → Sem Value
  | 1 => Extern.AbiNoEscape.same
  | _ => Extern.BytealgIndexByte.indexByte
def ExtOK (Y : YP) : Prop := ∀ p ∈ Y.ext, ∃ fn, Y.P.funcs[p.1]? = some fn ∧ fn.body.isNone = true ∧ Extern.findNext fn = none ∧ Extern.find fn = some (extE p.2)

structure YOK (Y : YP) : Prop where
  ty : ∀ t ti, Y.ty t = some ti → ∃ i d z, TIOK Y t ti i d z
  mixed : Y.P.follows .mixedOrders = true
  name : ∀ (f : FuncId) (fn : Func), Y.P.funcs[f]? = some fn → (fn.name == "runtime.NumGoroutine") = false
  ext : ExtOK Y

def AdR (W : Vw) (σ : St) (a : Act) : Ad → Addr → Prop
  | .lb s o, x => ∃ b, boxAt σ a s b ∧ x = ⟨b, o, none⟩
  | .hp id o, x => W.kn id ∧ (W.lv id → x = W.at id o)
  | .ro cs, x => cs = [] ∨ ∃ (blk off : Nat) (c : Array Value) (e : TypeId) (fr : Nat × Nat) (us : List Value), x = ⟨blk, off, none⟩ ∧ W.snap blk = some (.cells c e fr) ∧
      (∀ j u, us[j]? = some u → c[off + j]? = some u) ∧ VRs W.dead cs us

theorem takeX_eq : ∀ (n : Nat) (l r : List V), takeX n l = some r → r = l.take n ∧ r.length = n
  | 0, l, r, h => by simp [takeX] at h; subst h; simp
  | n + 1, [], r, h => by simp [takeX] at h
  | n + 1, v :: l, r, h => by
    simp only [takeX, Option.map_eq_some_iff] at h
    obtain ⟨r', h1, rfl⟩ := h
    obtain ⟨h2, h3⟩ := takeX_eq n l r' h1
    exact ⟨by simp [← h2], by simp [h3]⟩

theorem lookRef_mem : ∀ {l : List (Nat × Nat × Nat)} {t s o : Nat}, lookRef l t = some (s, o) → (t, s, o) ∈ l
  | (d, s', o') :: l, t, s, o, h => by
    simp only [lookRef] at h
    split at h
    · rename_i hd; simp at h; simp [hd, h]
    · simp [lookRef_mem h]

section
variable {Y : YP} {W : Vw} {σ : St} {a : Act} {w : World}

theorem Rel.boxOf (h : Rel W σ a w) {t : Nat} {cs : List V} (ht : σ.env[t]? = some (.lb cs)) : ∃ b, boxAt σ a t b := by
  obtain ⟨u, h1, h2⟩ := h.env t _ ht
  obtain ⟨b, c, e, hu, _⟩ := h2
  exact ⟨b, ⟨cs, ht⟩, by rw [h1, hu]⟩

theorem Rel.boxCells (h : Rel W σ a w) {t b : Nat} {cs : List V} (ht : σ.env[t]? = some (.lb cs)) (hb : boxAt σ a t b) :
    ∃ (c : Array Value) (e : TypeId), w.heap[b]? = some (.cells c e (0, 0)) ∧ VRs W cs c.toList ∧ W.snap b = none ∧ ¬ W.own b := by
  obtain ⟨u, h1, h2⟩ := h.env t _ ht
  obtain ⟨b', c, e, hu, hc, h3⟩ := h2
  have h4 := hb.2
  rw [h1, hu] at h4
  simp at h4
  subst h4
  exact ⟨c, e, hc, h3⟩

theorem addr_ok (h : Rel W σ a w) {x : Operand} {ad : Ad} (hx : addr σ x = some ad) : ∃ y : Addr, a.eval x = .pointer (some y) ∧ AdR W σ a ad y := by
  cases x with
  | tmp t =>
    simp only [addr] at hx
    cases ht : σ.env[t]? with
    | none => simp [List.getD, ht] at hx
    | some v =>
      obtain ⟨u, h1, h2⟩ := h.env t v ht
      have he : a.eval (.tmp t) = u := by simp [Act.eval, h1]
      simp only [List.getD, ht, Option.getD_some] at hx
      rw [he]
      cases v with
      | lb cs =>
        simp at hx; subst hx
        obtain ⟨b, hb⟩ := h.boxOf ht
        have := hb.2
        rw [h1] at this; simp at this
        exact ⟨⟨b, 0, none⟩, this, b, hb, rfl⟩
      | p o =>
        cases o with
        | none => simp at hx
        | some p =>
          obtain ⟨i, o⟩ := p
          simp at hx; subst hx
          cases h2 with
          | ps _ _ y hid ha => exact ⟨y, rfl, hid, ha⟩
      | tp cs =>
        simp at hx; subst hx
        cases h2 with
        | tpn y => exact ⟨y, rfl, .inl rfl⟩
        | tp _ blk off c e fr us hs hc hr => exact ⟨_, rfl, .inr ⟨blk, off, c, e, fr, us, rfl, hs, hc, hr⟩⟩
      | rf =>
        cases hl : lookRef σ.refs t with
        | none => simp [hl] at hx
        | some so =>
          obtain ⟨s, o⟩ := so
          simp only [hl] at hx
          have hm := lookRef_mem hl
          cases hs : σ.env[s]? with
          | none => simp [hs] at hx
          | some vs =>
            cases vs with
            | lb cs =>
              simp [hs] at hx; subst hx
              obtain ⟨b, hb⟩ := h.boxOf hs
              have h3 := h.refs t s o hm ht b hb
              rw [h1] at h3; simp at h3
              exact ⟨⟨b, o, none⟩, h3, b, hb, rfl⟩
            | _ => simp [hs] at hx
      | _ => simp at hx
  | const v => simp [addr] at hx
  | global g =>
    simp only [addr, Option.map_eq_some_iff] at hx
    obtain ⟨cs, hg, he⟩ := hx
    subst he
    have ht := h.heap.tab hg
    show ∃ y : Addr, Value.pointer (some ⟨g, 0, none⟩) = .pointer (some y) ∧ AdR W σ a (.ro cs) y
    cases ht with
    | tpn => exact ⟨_, rfl, .inl rfl⟩
    | tp _ blk off c e fr us hs hc hr => exact ⟨_, rfl, .inr ⟨_, _, c, e, fr, us, rfl, hs, hc, hr⟩⟩
  | func f => simp [addr] at hx

theorem cellsAt_ok (h : Rel W σ a w) {ad : Ad} {y : Addr} (hy : AdR W σ a ad y) {n : Nat} {l : List V} (hl : cellsAt σ n ad = some l) :
    ∃ us, VRs W l us ∧ us.length = n ∧ CellsW w y us := by
  cases ad with
  | lb s o =>
    obtain ⟨b, hb, rfl⟩ := hy
    simp only [cellsAt] at hl
    cases hs : σ.env[s]? with
    | none => simp [List.getD, hs] at hl
    | some vs =>
      cases vs with
      | lb cs =>
        simp [List.getD, hs] at hl
        obtain ⟨h1, h2⟩ := takeX_eq _ _ _ hl
        obtain ⟨c, e, hc, hr, _⟩ := h.boxCells hs hb
        have hv := (hr.drop o).take n
        rw [← h1] at hv
        refine ⟨_, hv, by rw [← hv.length, h2], CellsW.of_block hc fun j u hj => ?_⟩
        rw [List.getElem?_take] at hj
        split at hj
        · rw [List.getElem?_drop] at hj; simpa using hj
        · cases hj
      | _ => simp [List.getD, hs] at hl
  | hp id o =>
    obtain ⟨hid, ha⟩ := hy
    simp only [cellsAt] at hl
    cases ho : σ.h.get id with
    | none => simp [ho] at hl
    | some ob =>
      cases ob with
      | arr cs wr =>
        simp only [ho] at hl
        have hlv : W.lv id := (h.heap.lv id).2 (by simp [ho])
        obtain ⟨h1, h2⟩ := takeX_eq _ _ _ hl
        obtain ⟨c, e, fr, hc, h3, h4, h5, _⟩ := h.heap.obj id _ ho
        have hcs : VRs W cs ((c.toList.drop (W.mu id).2).take cs.length) := by
          refine VRs.of_get (by simp; omega) fun j v u hv hu => ?_
          obtain ⟨u', hu', hr⟩ := h5 j v hv
          rw [List.getElem?_take] at hu
          split at hu
          · rw [List.getElem?_drop] at hu
            simp at hu
            rw [hu'] at hu; simp at hu; subst hu; exact hr
          · cases hu
        have hv := (hcs.drop o).take n
        rw [← h1] at hv
        rw [ha hlv]
        refine ⟨_, hv, by rw [← hv.length, h2], CellsW.of_block hc fun j u hj => ?_⟩
        rw [List.getElem?_take] at hj
        split at hj
        · rw [List.getElem?_drop, List.getElem?_take] at hj
          split at hj
          · rw [List.getElem?_drop] at hj; simpa [Nat.add_assoc] using hj
          · cases hj
        · cases hj
      | _ => simp [ho] at hl
  | ro cs =>
    simp only [cellsAt] at hl
    obtain ⟨h1, h2⟩ := takeX_eq _ _ _ hl
    rcases hy with rfl | ⟨blk, off, c, e, fr, us, rfl, hs, hc, hr⟩
    · simp at h1; subst h1; simp at h2; subst h2
      exact ⟨[], .nil, rfl, fun j u hj => by simp at hj⟩
    · have hv := hr.take n
      rw [← h1] at hv
      refine ⟨_, hv.mono (dead_le W), by rw [← hv.length, h2], CellsW.of_block (h.heap.snap _ _ hs) fun j u hj => ?_⟩
      rw [List.getElem?_take] at hj
      split at hj
      · exact hc j u hj
      · cases hj

theorem AdR.shift {ad : Ad} {y : Addr} (hy : AdR W σ a ad y) (n : Nat) : AdR W σ a (ad.shift n) (y.add n) := by
  cases ad with
  | lb s o =>
    obtain ⟨b, hb, rfl⟩ := hy
    exact ⟨b, hb, by rw [add_at]⟩
  | hp id o =>
    obtain ⟨hid, ha⟩ := hy
    exact ⟨hid, fun hl => by rw [ha hl]; unfold Vw.at; rw [add_at, Nat.add_assoc]⟩
  | ro cs =>
    rcases hy with rfl | ⟨blk, off, c, e, fr, us, rfl, hs, hc, hr⟩
    · exact .inl (by simp)
    · refine .inr ⟨blk, off + n, c, e, fr, us.drop n, by rw [add_at], hs, fun j u hj => ?_, hr.drop n⟩
      rw [List.getElem?_drop] at hj
      rw [Nat.add_assoc]
      exact hc _ _ hj

theorem AdR.of_q {ad : Ad} {y : Addr} (hy : AdR W σ a ad y) : match ad.q with
    | .val v => VR W v (.pointer (some y))
    | .ref s o => ∃ b, boxAt σ a s b ∧ Value.pointer (some y) = .pointer (some ⟨b, o, none⟩) := by
  cases ad with
  | lb s o => obtain ⟨b, hb, rfl⟩ := hy; exact ⟨b, hb, rfl⟩
  | hp id o => exact .ps id o y hy.1 hy.2
  | ro cs =>
    rcases hy with rfl | ⟨blk, off, c, e, fr, us, rfl, hs, hc, hr⟩
    · exact .tpn y
    · exact .tp cs blk off c e fr us hs hc hr

theorem ofCells_ok {ag : Bool} {l : List V} {us : List Value} {v : V} (h : VRs W l us) (hv : ofCells ag l = some v) :
    ∃ u, VR W v u ∧ (if ag then u = .agg us.toArray else us = [u]) := by
  cases ag
  · simp only [ofCells, Bool.false_eq_true, if_false] at hv ⊢
    cases h with
    | nil => simp at hv
    | cons v' u l m h1 h2 =>
      cases h2 with
      | nil => simp at hv; subst hv; exact ⟨u, h1, rfl⟩
      | cons _ _ _ _ _ _ => simp at hv
  · simp [ofCells] at hv; subst hv
    exact ⟨_, .agg _ _ h, by simp⟩
end

end Go.Y

/- The operations that turn nothing, one by one. -/
namespace Go.Y
section
variable {Y : YP} {W : Vw} {σ : St} {a : Act} {w : World}

def QR (W : Vw) (σ : St) (a : Act) : Q → Value → Prop
  | .val v, u => VR W v u
  | .ref s o, u => ∃ b, boxAt σ a s b ∧ u = .pointer (some ⟨b, o, none⟩)

theorem AdR.qr {ad : Ad} {y : Addr} (hy : AdR W σ a ad y) : QR W σ a ad.q (.pointer (some y)) := by
  have := hy.of_q
  cases hq : ad.q <;> rw [hq] at this <;> exact this

def QOK (Y : YP) (W : Vw) (σ : St) (a : Act) (w : World) (q : Q) (s : Sem Value) : Prop :=
  ∃ u, QR W σ a q u ∧ ∀ w', Same w w' → s.run Y.P w' = .ok u w'

theorem kd_of {Y : YP} {t : TypeId} {kd : Kd} (h : Y.kd t = some kd) : ∃ ti, Y.ty t = some ti ∧ ti.kd = kd := by
  simpa [YP.kd] using h

theorem intBin_ok {op : BinOp} {k : IntKind} {x y : Int} {v : V} (h : intBin op k x y = some v) (t : TypeId) :
    ∃ u, VR W v u ∧ ∀ w, (binOp op t (.int k x) (.int k y)).run Y.P w = .ok u w := by
  cases op <;> simp only [intBin] at h
  case quo =>
    split at h
    · cases h
    · rename_i hy; simp at h; subst h; exact ⟨_, .i _ _, fun w => by simp [binOp, Op.intDiv, hy]⟩
  case rem =>
    split at h
    · cases h
    · rename_i hy; simp at h; subst h; exact ⟨_, .i _ _, fun w => by simp [binOp, Op.intDiv, hy]⟩
  case eql => simp at h; subst h; exact ⟨_, .b _, fun w => by simp [binOp, Op.intCmp]⟩
  case neq => simp at h; subst h; exact ⟨_, .b _, fun w => by simp [binOp, Op.intCmp, bne]⟩
  case lss => simp at h; subst h; exact ⟨_, .b _, fun w => by simp [binOp, Op.intCmp, ltI]⟩
  case leq => simp at h; subst h; exact ⟨_, .b _, fun w => by simp [binOp, Op.intCmp, leI]⟩
  case gtr => simp at h; subst h; exact ⟨_, .b _, fun w => by simp [binOp, Op.intCmp, ltI]⟩
  case geq => simp at h; subst h; exact ⟨_, .b _, fun w => by simp [binOp, Op.intCmp, leI]⟩
  case and => simp only [Option.some.injEq] at h; subst h; exact ⟨_, .i _ _, fun w => by rw [binOp_and]; rfl⟩
  case or => simp only [Option.some.injEq] at h; subst h; exact ⟨_, .i _ _, fun w => by rw [binOp_or]; rfl⟩
  case xor => simp only [Option.some.injEq] at h; subst h; exact ⟨_, .i _ _, fun w => by rw [binOp_xor]; rfl⟩
  case andNot => simp only [Option.some.injEq] at h; subst h; exact ⟨_, .i _ _, fun w => by rw [binOp_andNot]; rfl⟩
  all_goals first
    | (simp at h; done)
    | (simp at h; subst h; exact ⟨_, .i _ _, fun w => by simp [binOp, Op.intArith]⟩)

theorem strBin_ok {op : BinOp} {x y : List UInt8} {v : V} (h : strBin op x y = some v) (t : TypeId) :
    ∃ u, VR W v u ∧ ∀ w, (binOp op t (.string ⟨x.toArray⟩) (.string ⟨y.toArray⟩)).run Y.P w = .ok u w := by
  have hx : (⟨x.toArray⟩ : ByteArray).toList = x := by rw [ByteArray.toList_eq]
  have hy : (⟨y.toArray⟩ : ByteArray).toList = y := by rw [ByteArray.toList_eq]
  cases op <;> simp only [strBin] at h
  case add =>
    split at h
    · rename_i hl
      simp at h; subst h
      refine ⟨_, .s _, fun w => ?_⟩
      have hs : ¬ (9223372036854775807 < (((⟨x.toArray⟩ : ByteArray).size : Int) + ((⟨y.toArray⟩ : ByteArray).size : Int))) := by
        have e1 : (⟨x.toArray⟩ : ByteArray).size = x.length := rfl
        have e2 : (⟨y.toArray⟩ : ByteArray).size = y.length := rfl
        rw [e1, e2]; omega
      simp [binOp, Op.stringOp, hs]
      apply ByteArray.ext
      simp
    · cases h
  all_goals first
    | (simp at h; done)
    | (simp at h; subst h; exact ⟨_, .b _, fun w => by simp [binOp, Op.stringOp, hx, hy]⟩)

theorem part_ok {ti : TI} {t : TypeId} {i : TypeInfo} {d : TypeDesc} {z : Value} (ht : TIOK Y t ti i d z) {xs l : List V} {us : List Value} (hr : VRs W xs us) {off : Nat}
    (hl : takeX ti.size (xs.drop off) = some l) : ∃ us' u, VRs W l us' ∧ (∀ w, (part t us.toArray off).run Y.P w = .ok u w) ∧ (if ti.kd.agg then u = .agg us'.toArray else us' = [u]) := by
  obtain ⟨h1, h2⟩ := takeX_eq _ _ _ hl
  have hv := (hr.drop off).take ti.size
  rw [← h1] at hv
  have hlen := hv.length
  rw [h2] at hlen
  simp only [part, Sem.run_bind, run_isAgg ht.und, Result.andThen_ok, ht.agg]
  cases hag : ti.kd.agg
  · have h1' := ht.one hag
    rw [h1'] at hlen hv
    simp only [Bool.false_eq_true, if_false]
    obtain ⟨u, hu⟩ : ∃ u, us[off]? = some u := by
      cases hc : us[off]? with
      | some u => exact ⟨u, rfl⟩
      | none =>
        rw [List.getElem?_eq_none_iff] at hc
        simp at hlen; omega
    have e : (us.drop off).take 1 = [u] := by
      apply List.ext_getElem?
      intro j
      rw [List.getElem?_take, List.getElem?_drop]
      cases j with
      | zero => simp [hu]
      | succ j => simp
    rw [e] at hv
    exact ⟨[u], u, hv, fun w => by simp [hu], rfl⟩
  · simp only [if_true, Sem.run_bind, run_sizeOf ht.info, Result.andThen_ok, Sem.run_pure, ht.size]
    exact ⟨_, _, hv, fun w => rfl, by simp⟩

theorem eqCellK_ok {ti : TI} {t : TypeId} {i : TypeInfo} {d : TypeDesc} {z : Value} (ht : TIOK Y t ti i d z) {x y : V} {r : Bool} (h : eqCellK ti.kd x y = some r) {u v : Value}
    (hx : VR W x u) (hy : VR W y v) (n : Nat) (w : World) : (Op.equalIn (n + 1) t u v).run Y.P w = .ok r w := by
  have hd := ht.und
  have hk := ht.kd
  generalize ti.kd = kd at h hk
  cases kd <;> cases x <;> cases y <;> simp only [eqCellK] at h <;> first | (cases h; done) | skip
  · cases hx; cases hy; cases hk
    simp at h
    rw [run_equalIn_bool' w n t _ _ hd, ← h]
  · cases hx; cases hy; cases hk
    split at h
    · rename_i hj; subst hj; simp at h; rw [run_equalIn_int w n t _ _ _ _ hd, ← h]
    · cases h
  · cases hx; cases hy; cases hk
    simp at h
    rw [run_equalIn_string w n t _ _ hd, ByteArray.toList_eq, ByteArray.toList_eq, ← h]

def eqElems (d : Nat) (e : TypeId) (n : Nat) (xs ys : Array Value) : List Nat → Sem Bool
  | [] => pure true
  | i :: l => do
    let a ← part e xs (i * n)
    let b ← part e ys (i * n)
    let r ← Op.equalIn d e a b
    if (!r) = true then pure false else eqElems d e n xs ys l

theorem run_equalIn_array (d : Nat) (t e : TypeId) (len : Nat) {i : TypeInfo} (xs ys : Array Value) (ht : Y.P.underlying t = some (.array len e)) (hi : Y.P.info? e = some i) (w : World) :
    (Op.equalIn (d + 1) t (.agg xs) (.agg ys)).run Y.P w = (eqElems d e i.size xs ys (List.range len)).run Y.P w := by
  simp only [Op.equalIn, Sem.run_bind, run_underlying' ht, Result.andThen_ok, run_sizeOf hi, Std.Legacy.Range.forIn_eq_forIn_range', Std.Legacy.Range.size, Nat.sub_zero, Nat.add_sub_cancel, Nat.div_one, List.range_eq_range']
  generalize List.range' 0 len = l
  induction l generalizing w with
  | nil => simp [eqElems]
  | cons k l ih =>
    simp only [List.forIn_cons, eqElems, Sem.run_bind, Sem.run_ite]
    generalize (part e xs (k * i.size)).run Y.P w = r1
    cases r1 with
    | ok a w1 =>
      simp only [Result.andThen_ok]
      generalize (part e ys (k * i.size)).run Y.P w1 = r2
      cases r2 with
      | ok b w2 =>
        simp only [Result.andThen_ok]
        generalize (Op.equalIn d e a b).run Y.P w2 = r3
        cases r3 with
        | ok r w3 =>
          cases r
          · simp only [Result.andThen_ok, Bool.not_false, if_true, Sem.run_pure]
          · simp only [Result.andThen_ok, Bool.not_true, Bool.false_eq_true, if_false, Sem.run_pure]
            exact ih w3
        | halt x w3 => simp [Result.andThen]
      | halt x w2 => simp [Result.andThen]
    | halt x w1 => simp [Result.andThen]

theorem eqTy_ok (hY : YOK Y) : ∀ (n : Nat) (t : TypeId) (xs ys : List V) (r : Bool), eqTy Y n t xs ys = some r → ∀ (us vs : List Value), VRs W xs us → VRs W ys vs →
    ∀ ti, Y.ty t = some ti → ∀ (u v : Value), (if ti.kd.agg then u = .agg us.toArray else us = [u]) → (if ti.kd.agg then v = .agg vs.toArray else vs = [v]) →
    ∀ (d : Nat) (w : World), n ≤ d → (Op.equalIn d t u v).run Y.P w = .ok r w
  | 0, _, _, _, _, h => by simp [eqTy] at h
  | n + 1, t, xs, ys, r, h => by
    intro us vs hx hy ti hti u v hu hv d w hd
    obtain ⟨i, de, z, ht⟩ := hY.ty t ti hti
    obtain ⟨d, rfl⟩ : ∃ d', d = d' + 1 := ⟨d - 1, by omega⟩
    simp only [eqTy, YP.kd, hti, Option.map_some] at h
    split at h
    · rename_i fs hk
      simp only [Option.some.injEq] at hk
      have hkd := ht.kd
      rw [hk] at hkd
      obtain ⟨l, rfl, hfs, hnm, hsi, _⟩ := hkd
      simp only [hk, Kd.agg, if_true] at hu hv
      subst hu hv
      have hfo : Y.P.fieldsOf t = l := by simp [Program.fieldsOf, ht.und]
      rw [run_equalIn_struct w d t _ _ (by rw [hfo]; exact ht.und) hsi, hfo]
      clear hfo hk
      have hnm' : ∀ f ∈ l.toList, f.name ≠ "_" := fun f hf => hnm f (by simpa using hf)
      subst hfs
      generalize l.toList = fl at h hnm'
      clear hnm ht
      induction fl generalizing r with
      | nil => simp at h; subst h; simp [Op.eqFields]
      | cons f fl ih =>
        simp only [List.map_cons, List.foldr_cons] at h
        split at h
        · rename_i tf htf
          split at h
          · rename_i a b ha hb
            split at h
            · rename_i p q hp hq
              simp at h
              obtain ⟨fi, fd, fz, hft⟩ := hY.ty _ tf htf
              obtain ⟨ua, u', h1, h2, h3⟩ := part_ok hft hx ha
              obtain ⟨ub, v', h4, h5, h6⟩ := part_ok hft hy hb
              have he := eqTy_ok hY n f.type a b p hp _ _ h1 h4 tf htf u' v' h3 h6 d w (by omega)
              simp only [Op.eqFields]
              rw [if_pos (hnm' f (by simp))]
              simp only [Sem.run_bind, h2, h5, he, Result.andThen_ok, Sem.run_ite]
              cases p
              · simp at h; subst h; simp
              · simp at h; subst h; simpa using ih q hq (fun g hg => hnm' g (by simp [hg]))
            · cases h
          · cases h
        · cases h
    · rename_i len e hk
      simp only [Option.some.injEq] at hk
      have hkd := ht.kd
      rw [hk] at hkd
      obtain ⟨rfl, _⟩ := hkd
      simp only [hk, Kd.agg, if_true] at hu hv
      subst hu hv
      split at h
      · rename_i te hte
        obtain ⟨ei, ed, ez, het⟩ := hY.ty e te hte
        rw [run_equalIn_array d t e len _ _ ht.und het.info w, het.size]
        generalize List.range len = il at h
        induction il generalizing r with
        | nil => simp at h; subst h; simp [eqElems]
        | cons k il ih =>
          simp only [List.foldr_cons] at h
          split at h
          · rename_i a b ha hb
            split at h
            · rename_i p q hp hq
              simp at h
              obtain ⟨ua, u', h1, h2, h3⟩ := part_ok het hx ha
              obtain ⟨ub, v', h4, h5, h6⟩ := part_ok het hy hb
              have he := eqTy_ok hY n e a b p hp _ _ h1 h4 te hte u' v' h3 h6 d w (by omega)
              simp only [eqElems, Sem.run_bind, h2, h5, he, Result.andThen_ok, Sem.run_ite]
              cases p
              · simp at h; subst h; simp
              · simp at h; subst h; simpa using ih q hq
            · cases h
          · cases h
      · cases h
    · rename_i kd hks hka hk
      simp only [Option.some.injEq] at hk
      split at h
      · rename_i x y
        rw [← hk] at h
        have hag : ti.kd.agg = false := by
          rw [hk]
          cases kd <;> first | rfl | (exact absurd rfl (hks _)) | (exact absurd rfl (hka _ _))
        simp only [hag, Bool.false_eq_true, if_false] at hu hv
        subst hu hv
        cases hx with
        | cons _ _ _ _ hxu _ =>
          cases hy with
          | cons _ _ _ _ hyv _ => exact eqCellK_ok ht h hxu hyv d w
      · cases h
    · cases h
end
end Go.Y
