/- The operations that turn nothing: what the abstract machine says of them holds in the model. -/
import Derived.Test.YtlnpmefmmiacaaaGreatDoorYMem
import Derived.Laws.StructEq
import Derived.Laws.Entries
import Derived.Laws.Slices
import Derived.Laws.BytesString
namespace Go.Y

def KdOK (Y : YP) (t : TypeId) : Kd → TypeDesc → Prop
  | .bool, d => d = .bool
  | .int k, d => d = .int k
  | .str, d => d = .string
  | .slice e, d => d = .slice e
  | .arr n e, d => d = .array n e ∧ Y.P.eqGuardType Y.P.depth t = false
  | .struct fs, d => ∃ l : Array Field, d = .struct l ∧ fs = l.toList.map (fun f => (f.offset, f.type)) ∧ (∀ f ∈ l, f.name ≠ "_") ∧ Y.P.stoodInHeld t = false ∧ Y.P.eqGuardType Y.P.depth t = false
  | .ptr e, d => d = .pointer e
  | .map k e, d => d = .map k e
  | .func, d => ∃ a b c, d = .func a b c
  | .iface, d => ∃ ms, d = .interface ms
  | .other, _ => False

structure TIOK (Y : YP) (t : TypeId) (ti : TI) (i : TypeInfo) (d : TypeDesc) (z : Value) : Prop where
  info : Y.P.info? t = some i
  und : Y.P.underlying t = some d
  zero : i.zero = some z
  size : i.size = ti.size
  bytes : i.bytes = ti.bytes
  zr : ∀ W, VRs W ti.zero z.cells.toList
  zl : ti.zero.length = ti.size
  zc : allCells ti.zero = true
  kd : KdOK Y t ti.kd d
  agg : aggD d = ti.kd.agg
  one : ti.kd.agg = false → ti.size = 1

/-- Functions without a body are what they are taken for. -/
def extE : Nat → Array Value → Sem Value
  | 1 => Extern.AbiNoEscape.same
  | _ => Extern.BytealgIndexByte.indexByte
def ExtOK (Y : YP) : Prop := ∀ p ∈ Y.ext, ∃ fn, Y.P.funcs[p.1]? = some fn ∧ fn.body.isNone = true ∧ Extern.findNext fn = none ∧ Extern.find fn = some (extE p.2)

structure YOK (Y : YP) : Prop where
  ty : ∀ t ti, Y.ty t = some ti → ∃ i d z, TIOK Y t ti i d z
  mixed : Y.P.follows .mixedOrders = true
  name : ∀ (f : FuncId) (fn : Func), Y.P.funcs[f]? = some fn → (fn.name == "runtime.NumGoroutine") = false
  ext : ExtOK Y

/-- An address, abstract and in the model. -/
def AdR (W : Vw) (σ : St) (a : Act) : Ad → Addr → Prop
  | .lb s o, x => ∃ b, boxAt σ a s b ∧ x = ⟨b, o, none⟩
  | .hp id o, x => id < W.nx ∧ (W.lv id → x = W.at id o)
  | .ro cs, x => cs = [] ∨ ∃ (blk off : Nat) (c : Array Value) (e : TypeId) (fr : Nat × Nat) (us : List Value), x = ⟨blk, off, none⟩ ∧ W.snap blk = some (.cells c e fr) ∧
      (∀ j u, us[j]? = some u → c[off + j]? = some u) ∧ VRs W.dead cs us

theorem takeX_eq : ∀ (n : Nat) (l r : List V), takeX n l = some r → r = l.take n ∧ r.length = n
  | 0, l, r, h => by simp [takeX] at h; subst h; simp
  | n + 1, [], r, h => by simp [takeX] at h
  | n + 1, v :: l, r, h => by
    simp only [takeX, Option.map_eq_some_iff] at h
    obtain ⟨r', h1, rfl⟩ := h
    obtain ⟨h2, h3⟩ := takeX_eq n l r' h1
    exact ⟨by simp [← h2], by simp [h3]⟩

theorem lookRef_mem : ∀ {l : List (Nat × Nat × Nat)} {t s o : Nat}, lookRef l t = some (s, o) → (t, s, o) ∈ l
  | (d, s', o') :: l, t, s, o, h => by
    simp only [lookRef] at h
    split at h
    · rename_i hd; simp at h; simp [hd, h]
    · simp [lookRef_mem h]

section
variable {Y : YP} {W : Vw} {σ : St} {a : Act} {w : World}

theorem Rel.boxOf (h : Rel W σ a w) {t : Nat} {cs : List V} (ht : σ.env[t]? = some (.lb cs)) : ∃ b, boxAt σ a t b := by
  obtain ⟨u, h1, h2⟩ := h.env t _ ht
  obtain ⟨b, c, e, hu, _⟩ := h2
  exact ⟨b, ⟨cs, ht⟩, by rw [h1, hu]⟩

theorem Rel.boxCells (h : Rel W σ a w) {t b : Nat} {cs : List V} (ht : σ.env[t]? = some (.lb cs)) (hb : boxAt σ a t b) :
    ∃ (c : Array Value) (e : TypeId), w.heap[b]? = some (.cells c e (0, 0)) ∧ VRs W cs c.toList ∧ W.snap b = none ∧ ¬ W.own b := by
  obtain ⟨u, h1, h2⟩ := h.env t _ ht
  obtain ⟨b', c, e, hu, hc, h3⟩ := h2
  have h4 := hb.2
  rw [h1, hu] at h4
  simp at h4
  subst h4
  exact ⟨c, e, hc, h3⟩

theorem addr_ok (h : Rel W σ a w) {x : Operand} {ad : Ad} (hx : addr σ x = some ad) : ∃ y : Addr, a.eval x = .pointer (some y) ∧ AdR W σ a ad y := by
  cases x with
  | tmp t =>
    simp only [addr] at hx
    cases ht : σ.env[t]? with
    | none => simp [List.getD, ht] at hx
    | some v =>
      obtain ⟨u, h1, h2⟩ := h.env t v ht
      have he : a.eval (.tmp t) = u := by simp [Act.eval, h1]
      simp only [List.getD, ht, Option.getD_some] at hx
      rw [he]
      cases v with
      | lb cs =>
        simp at hx; subst hx
        obtain ⟨b, hb⟩ := h.boxOf ht
        have := hb.2
        rw [h1] at this; simp at this
        exact ⟨⟨b, 0, none⟩, this, b, hb, rfl⟩
      | p o =>
        cases o with
        | none => simp at hx
        | some p =>
          obtain ⟨i, o⟩ := p
          simp at hx; subst hx
          cases h2 with
          | ps _ _ y hid ha => exact ⟨y, rfl, hid, ha⟩
      | tp cs =>
        simp at hx; subst hx
        cases h2 with
        | tpn y => exact ⟨y, rfl, .inl rfl⟩
        | tp _ blk off c e fr us hs hc hr => exact ⟨_, rfl, .inr ⟨blk, off, c, e, fr, us, rfl, hs, hc, hr⟩⟩
      | rf =>
        cases hl : lookRef σ.refs t with
        | none => simp [hl] at hx
        | some so =>
          obtain ⟨s, o⟩ := so
          simp only [hl] at hx
          have hm := lookRef_mem hl
          cases hs : σ.env[s]? with
          | none => simp [hs] at hx
          | some vs =>
            cases vs with
            | lb cs =>
              simp [hs] at hx; subst hx
              obtain ⟨b, hb⟩ := h.boxOf hs
              have h3 := h.refs t s o hm ht b hb
              rw [h1] at h3; simp at h3
              exact ⟨⟨b, o, none⟩, h3, b, hb, rfl⟩
            | _ => simp [hs] at hx
      | _ => simp at hx
  | const v => simp [addr] at hx
  | global g => simp [addr] at hx
  | func f => simp [addr] at hx

theorem cellsAt_ok (h : Rel W σ a w) {ad : Ad} {y : Addr} (hy : AdR W σ a ad y) {n : Nat} {l : List V} (hl : cellsAt σ n ad = some l) :
    ∃ us, VRs W l us ∧ us.length = n ∧ CellsW w y us := by
  cases ad with
  | lb s o =>
    obtain ⟨b, hb, rfl⟩ := hy
    simp only [cellsAt] at hl
    cases hs : σ.env[s]? with
    | none => simp [List.getD, hs] at hl
    | some vs =>
      cases vs with
      | lb cs =>
        simp [List.getD, hs] at hl
        obtain ⟨h1, h2⟩ := takeX_eq _ _ _ hl
        obtain ⟨c, e, hc, hr, _⟩ := h.boxCells hs hb
        have hv := (hr.drop o).take n
        rw [← h1] at hv
        refine ⟨_, hv, by rw [← hv.length, h2], CellsW.of_block hc fun j u hj => ?_⟩
        rw [List.getElem?_take] at hj
        split at hj
        · rw [List.getElem?_drop] at hj; simpa using hj
        · cases hj
      | _ => simp [List.getD, hs] at hl
  | hp id o =>
    obtain ⟨hid, ha⟩ := hy
    simp only [cellsAt] at hl
    cases ho : σ.h.get id with
    | none => simp [ho] at hl
    | some ob =>
      cases ob with
      | arr cs wr =>
        simp only [ho] at hl
        have hlv : W.lv id := (h.heap.lv id).2 (by simp [ho])
        obtain ⟨h1, h2⟩ := takeX_eq _ _ _ hl
        obtain ⟨c, e, fr, hc, h3, h4, h5, _⟩ := h.heap.obj id _ ho
        have hcs : VRs W cs ((c.toList.drop (W.mu id).2).take cs.length) := by
          refine VRs.of_get (by simp; omega) fun j v u hv hu => ?_
          obtain ⟨u', hu', hr⟩ := h5 j v hv
          rw [List.getElem?_take] at hu
          split at hu
          · rw [List.getElem?_drop] at hu
            simp at hu
            rw [hu'] at hu; simp at hu; subst hu; exact hr
          · cases hu
        have hv := (hcs.drop o).take n
        rw [← h1] at hv
        rw [ha hlv]
        refine ⟨_, hv, by rw [← hv.length, h2], CellsW.of_block hc fun j u hj => ?_⟩
        rw [List.getElem?_take] at hj
        split at hj
        · rw [List.getElem?_drop, List.getElem?_take] at hj
          split at hj
          · rw [List.getElem?_drop] at hj; simpa [Nat.add_assoc] using hj
          · cases hj
        · cases hj
      | _ => simp [ho] at hl
  | ro cs =>
    simp only [cellsAt] at hl
    obtain ⟨h1, h2⟩ := takeX_eq _ _ _ hl
    rcases hy with rfl | ⟨blk, off, c, e, fr, us, rfl, hs, hc, hr⟩
    · simp at h1; subst h1; simp at h2; subst h2
      exact ⟨[], .nil, rfl, fun j u hj => by simp at hj⟩
    · have hv := hr.take n
      rw [← h1] at hv
      refine ⟨_, hv.mono (dead_le W), by rw [← hv.length, h2], CellsW.of_block (h.heap.snap _ _ hs) fun j u hj => ?_⟩
      rw [List.getElem?_take] at hj
      split at hj
      · exact hc j u hj
      · cases hj

theorem AdR.shift {ad : Ad} {y : Addr} (hy : AdR W σ a ad y) (n : Nat) : AdR W σ a (ad.shift n) (y.add n) := by
  cases ad with
  | lb s o =>
    obtain ⟨b, hb, rfl⟩ := hy
    exact ⟨b, hb, by rw [add_at]⟩
  | hp id o =>
    obtain ⟨hid, ha⟩ := hy
    exact ⟨hid, fun hl => by rw [ha hl]; unfold Vw.at; rw [add_at, Nat.add_assoc]⟩
  | ro cs =>
    rcases hy with rfl | ⟨blk, off, c, e, fr, us, rfl, hs, hc, hr⟩
    · exact .inl (by simp)
    · refine .inr ⟨blk, off + n, c, e, fr, us.drop n, by rw [add_at], hs, fun j u hj => ?_, hr.drop n⟩
      rw [List.getElem?_drop] at hj
      rw [Nat.add_assoc]
      exact hc _ _ hj

theorem AdR.of_q {ad : Ad} {y : Addr} (hy : AdR W σ a ad y) : match ad.q with
    | .val v => VR W v (.pointer (some y))
    | .ref s o => ∃ b, boxAt σ a s b ∧ Value.pointer (some y) = .pointer (some ⟨b, o, none⟩) := by
  cases ad with
  | lb s o => obtain ⟨b, hb, rfl⟩ := hy; exact ⟨b, hb, rfl⟩
  | hp id o => exact .ps id o y hy.1 hy.2
  | ro cs =>
    rcases hy with rfl | ⟨blk, off, c, e, fr, us, rfl, hs, hc, hr⟩
    · exact .tpn y
    · exact .tp cs blk off c e fr us hs hc hr

theorem ofCells_ok {ag : Bool} {l : List V} {us : List Value} {v : V} (h : VRs W l us) (hv : ofCells ag l = some v) :
    ∃ u, VR W v u ∧ (if ag then u = .agg us.toArray else us = [u]) := by
  cases ag
  · simp only [ofCells, Bool.false_eq_true, if_false] at hv ⊢
    cases h with
    | nil => simp at hv
    | cons v' u l m h1 h2 =>
      cases h2 with
      | nil => simp at hv; subst hv; exact ⟨u, h1, rfl⟩
      | cons _ _ _ _ _ _ => simp at hv
  · simp [ofCells] at hv; subst hv
    exact ⟨_, .agg _ _ h, by simp⟩
end

end Go.Y

/- The operations that turn nothing, one by one. -/
namespace Go.Y
section
variable {Y : YP} {W : Vw} {σ : St} {a : Act} {w : World}

/-- A result of an operation that turns nothing. -/
def QR (W : Vw) (σ : St) (a : Act) : Q → Value → Prop
  | .val v, u => VR W v u
  | .ref s o, u => ∃ b, boxAt σ a s b ∧ u = .pointer (some ⟨b, o, none⟩)

theorem AdR.qr {ad : Ad} {y : Addr} (hy : AdR W σ a ad y) : QR W σ a ad.q (.pointer (some y)) := by
  have := hy.of_q
  cases hq : ad.q <;> rw [hq] at this <;> exact this

/-- In the world and in every later one it comes to this value and turns nothing. -/
def QOK (Y : YP) (W : Vw) (σ : St) (a : Act) (w : World) (q : Q) (s : Sem Value) : Prop :=
  ∃ u, QR W σ a q u ∧ ∀ w', Same w w' → s.run Y.P w' = .ok u w'

theorem kd_of {Y : YP} {t : TypeId} {kd : Kd} (h : Y.kd t = some kd) : ∃ ti, Y.ty t = some ti ∧ ti.kd = kd := by
  simpa [YP.kd] using h

/-! ### whole numbers, strings -/
theorem intBin_ok {op : BinOp} {k : IntKind} {x y : Int} {v : V} (h : intBin op k x y = some v) (t : TypeId) :
    ∃ u, VR W v u ∧ ∀ w, (binOp op t (.int k x) (.int k y)).run Y.P w = .ok u w := by
  cases op <;> simp only [intBin] at h
  case quo =>
    split at h
    · cases h
    · rename_i hy; simp at h; subst h; exact ⟨_, .i _ _, fun w => by simp [binOp, Op.intDiv, hy]⟩
  case rem =>
    split at h
    · cases h
    · rename_i hy; simp at h; subst h; exact ⟨_, .i _ _, fun w => by simp [binOp, Op.intDiv, hy]⟩
  case eql => simp at h; subst h; exact ⟨_, .b _, fun w => by simp [binOp, Op.intCmp]⟩
  case neq => simp at h; subst h; exact ⟨_, .b _, fun w => by simp [binOp, Op.intCmp, bne]⟩
  case lss => simp at h; subst h; exact ⟨_, .b _, fun w => by simp [binOp, Op.intCmp, ltI]⟩
  case leq => simp at h; subst h; exact ⟨_, .b _, fun w => by simp [binOp, Op.intCmp, leI]⟩
  case gtr => simp at h; subst h; exact ⟨_, .b _, fun w => by simp [binOp, Op.intCmp, ltI]⟩
  case geq => simp at h; subst h; exact ⟨_, .b _, fun w => by simp [binOp, Op.intCmp, leI]⟩
  case and => simp only [Option.some.injEq] at h; subst h; exact ⟨_, .i _ _, fun w => by rw [binOp_and]; rfl⟩
  case or => simp only [Option.some.injEq] at h; subst h; exact ⟨_, .i _ _, fun w => by rw [binOp_or]; rfl⟩
  case xor => simp only [Option.some.injEq] at h; subst h; exact ⟨_, .i _ _, fun w => by rw [binOp_xor]; rfl⟩
  case andNot => simp only [Option.some.injEq] at h; subst h; exact ⟨_, .i _ _, fun w => by rw [binOp_andNot]; rfl⟩
  all_goals first
    | (simp at h; done)
    | (simp at h; subst h; exact ⟨_, .i _ _, fun w => by simp [binOp, Op.intArith]⟩)

theorem strBin_ok {op : BinOp} {x y : List UInt8} {v : V} (h : strBin op x y = some v) (t : TypeId) :
    ∃ u, VR W v u ∧ ∀ w, (binOp op t (.string ⟨x.toArray⟩) (.string ⟨y.toArray⟩)).run Y.P w = .ok u w := by
  have hx : (⟨x.toArray⟩ : ByteArray).toList = x := by rw [ByteArray.toList_eq]
  have hy : (⟨y.toArray⟩ : ByteArray).toList = y := by rw [ByteArray.toList_eq]
  cases op <;> simp only [strBin] at h
  case add =>
    split at h
    · rename_i hl
      simp at h; subst h
      refine ⟨_, .s _, fun w => ?_⟩
      have hs : ¬ (9223372036854775807 < (((⟨x.toArray⟩ : ByteArray).size : Int) + ((⟨y.toArray⟩ : ByteArray).size : Int))) := by
        have e1 : (⟨x.toArray⟩ : ByteArray).size = x.length := rfl
        have e2 : (⟨y.toArray⟩ : ByteArray).size = y.length := rfl
        rw [e1, e2]; omega
      simp [binOp, Op.stringOp, hs]
      apply ByteArray.ext
      simp
    · cases h
  all_goals first
    | (simp at h; done)
    | (simp at h; subst h; exact ⟨_, .b _, fun w => by simp [binOp, Op.stringOp, hx, hy]⟩)

/-! ### '==' by type -/
theorem part_ok {ti : TI} {t : TypeId} {i : TypeInfo} {d : TypeDesc} {z : Value} (ht : TIOK Y t ti i d z) {xs l : List V} {us : List Value} (hr : VRs W xs us) {off : Nat}
    (hl : takeX ti.size (xs.drop off) = some l) : ∃ us' u, VRs W l us' ∧ (∀ w, (part t us.toArray off).run Y.P w = .ok u w) ∧ (if ti.kd.agg then u = .agg us'.toArray else us' = [u]) := by
  obtain ⟨h1, h2⟩ := takeX_eq _ _ _ hl
  have hv := (hr.drop off).take ti.size
  rw [← h1] at hv
  have hlen := hv.length
  rw [h2] at hlen
  simp only [part, Sem.run_bind, run_isAgg ht.und, Result.andThen_ok, ht.agg]
  cases hag : ti.kd.agg
  · have h1' := ht.one hag
    rw [h1'] at hlen hv
    simp only [Bool.false_eq_true, if_false]
    obtain ⟨u, hu⟩ : ∃ u, us[off]? = some u := by
      cases hc : us[off]? with
      | some u => exact ⟨u, rfl⟩
      | none =>
        rw [List.getElem?_eq_none_iff] at hc
        simp at hlen; omega
    have e : (us.drop off).take 1 = [u] := by
      apply List.ext_getElem?
      intro j
      rw [List.getElem?_take, List.getElem?_drop]
      cases j with
      | zero => simp [hu]
      | succ j => simp
    rw [e] at hv
    exact ⟨[u], u, hv, fun w => by simp [hu], rfl⟩
  · simp only [if_true, Sem.run_bind, run_sizeOf ht.info, Result.andThen_ok, Sem.run_pure, ht.size]
    exact ⟨_, _, hv, fun w => rfl, by simp⟩

theorem eqCellK_ok {ti : TI} {t : TypeId} {i : TypeInfo} {d : TypeDesc} {z : Value} (ht : TIOK Y t ti i d z) {x y : V} {r : Bool} (h : eqCellK ti.kd x y = some r) {u v : Value}
    (hx : VR W x u) (hy : VR W y v) (n : Nat) (w : World) : (Op.equalIn (n + 1) t u v).run Y.P w = .ok r w := by
  have hd := ht.und
  have hk := ht.kd
  generalize ti.kd = kd at h hk
  cases kd <;> cases x <;> cases y <;> simp only [eqCellK] at h <;> first | (cases h; done) | skip
  · cases hx; cases hy; cases hk
    simp at h
    rw [run_equalIn_bool' w n t _ _ hd, ← h]
  · cases hx; cases hy; cases hk
    split at h
    · rename_i hj; subst hj; simp at h; rw [run_equalIn_int w n t _ _ _ _ hd, ← h]
    · cases h
  · cases hx; cases hy; cases hk
    simp at h
    rw [run_equalIn_string w n t _ _ hd, ByteArray.toList_eq, ByteArray.toList_eq, ← h]

/-- What an array's comparison does, element by element. -/
def eqElems (d : Nat) (e : TypeId) (n : Nat) (xs ys : Array Value) : List Nat → Sem Bool
  | [] => pure true
  | i :: l => do
    let a ← part e xs (i * n)
    let b ← part e ys (i * n)
    let r ← Op.equalIn d e a b
    if (!r) = true then pure false else eqElems d e n xs ys l

theorem run_equalIn_array (d : Nat) (t e : TypeId) (len : Nat) {i : TypeInfo} (xs ys : Array Value) (ht : Y.P.underlying t = some (.array len e)) (hi : Y.P.info? e = some i) (w : World) :
    (Op.equalIn (d + 1) t (.agg xs) (.agg ys)).run Y.P w = (eqElems d e i.size xs ys (List.range len)).run Y.P w := by
  simp only [Op.equalIn, Sem.run_bind, run_underlying' ht, Result.andThen_ok, run_sizeOf hi, Std.Legacy.Range.forIn_eq_forIn_range', Std.Legacy.Range.size, Nat.sub_zero, Nat.add_sub_cancel, Nat.div_one, List.range_eq_range']
  generalize List.range' 0 len = l
  induction l generalizing w with
  | nil => simp [eqElems]
  | cons k l ih =>
    simp only [List.forIn_cons, eqElems, Sem.run_bind, Sem.run_ite]
    generalize (part e xs (k * i.size)).run Y.P w = r1
    cases r1 with
    | ok a w1 =>
      simp only [Result.andThen_ok]
      generalize (part e ys (k * i.size)).run Y.P w1 = r2
      cases r2 with
      | ok b w2 =>
        simp only [Result.andThen_ok]
        generalize (Op.equalIn d e a b).run Y.P w2 = r3
        cases r3 with
        | ok r w3 =>
          cases r
          · simp only [Result.andThen_ok, Bool.not_false, if_true, Sem.run_pure]
          · simp only [Result.andThen_ok, Bool.not_true, Bool.false_eq_true, if_false, Sem.run_pure]
            exact ih w3
        | halt x w3 => simp [Result.andThen]
      | halt x w2 => simp [Result.andThen]
    | halt x w1 => simp [Result.andThen]

theorem eqTy_ok (hY : YOK Y) : ∀ (n : Nat) (t : TypeId) (xs ys : List V) (r : Bool), eqTy Y n t xs ys = some r → ∀ (us vs : List Value), VRs W xs us → VRs W ys vs →
    ∀ ti, Y.ty t = some ti → ∀ (u v : Value), (if ti.kd.agg then u = .agg us.toArray else us = [u]) → (if ti.kd.agg then v = .agg vs.toArray else vs = [v]) →
    ∀ (d : Nat) (w : World), n ≤ d → (Op.equalIn d t u v).run Y.P w = .ok r w
  | 0, _, _, _, _, h => by simp [eqTy] at h
  | n + 1, t, xs, ys, r, h => by
    intro us vs hx hy ti hti u v hu hv d w hd
    obtain ⟨i, de, z, ht⟩ := hY.ty t ti hti
    obtain ⟨d, rfl⟩ : ∃ d', d = d' + 1 := ⟨d - 1, by omega⟩
    simp only [eqTy, YP.kd, hti, Option.map_some] at h
    split at h
    · rename_i fs hk
      simp only [Option.some.injEq] at hk
      have hkd := ht.kd
      rw [hk] at hkd
      obtain ⟨l, rfl, hfs, hnm, hsi, _⟩ := hkd
      simp only [hk, Kd.agg, if_true] at hu hv
      subst hu hv
      have hfo : Y.P.fieldsOf t = l := by simp [Program.fieldsOf, ht.und]
      rw [run_equalIn_struct w d t _ _ (by rw [hfo]; exact ht.und) hsi, hfo]
      clear hfo hk
      have hnm' : ∀ f ∈ l.toList, f.name ≠ "_" := fun f hf => hnm f (by simpa using hf)
      subst hfs
      generalize l.toList = fl at h hnm'
      clear hnm ht
      induction fl generalizing r with
      | nil => simp at h; subst h; simp [Op.eqFields]
      | cons f fl ih =>
        simp only [List.map_cons, List.foldr_cons] at h
        split at h
        · rename_i tf htf
          split at h
          · rename_i a b ha hb
            split at h
            · rename_i p q hp hq
              simp at h
              obtain ⟨fi, fd, fz, hft⟩ := hY.ty _ tf htf
              obtain ⟨ua, u', h1, h2, h3⟩ := part_ok hft hx ha
              obtain ⟨ub, v', h4, h5, h6⟩ := part_ok hft hy hb
              have he := eqTy_ok hY n f.type a b p hp _ _ h1 h4 tf htf u' v' h3 h6 d w (by omega)
              simp only [Op.eqFields]
              rw [if_pos (hnm' f (by simp))]
              simp only [Sem.run_bind, h2, h5, he, Result.andThen_ok, Sem.run_ite]
              cases p
              · simp at h; subst h; simp
              · simp at h; subst h; simpa using ih q hq (fun g hg => hnm' g (by simp [hg]))
            · cases h
          · cases h
        · cases h
    · rename_i len e hk
      simp only [Option.some.injEq] at hk
      have hkd := ht.kd
      rw [hk] at hkd
      obtain ⟨rfl, _⟩ := hkd
      simp only [hk, Kd.agg, if_true] at hu hv
      subst hu hv
      split at h
      · rename_i te hte
        obtain ⟨ei, ed, ez, het⟩ := hY.ty e te hte
        rw [run_equalIn_array d t e len _ _ ht.und het.info w, het.size]
        generalize List.range len = il at h
        induction il generalizing r with
        | nil => simp at h; subst h; simp [eqElems]
        | cons k il ih =>
          simp only [List.foldr_cons] at h
          split at h
          · rename_i a b ha hb
            split at h
            · rename_i p q hp hq
              simp at h
              obtain ⟨ua, u', h1, h2, h3⟩ := part_ok het hx ha
              obtain ⟨ub, v', h4, h5, h6⟩ := part_ok het hy hb
              have he := eqTy_ok hY n e a b p hp _ _ h1 h4 te hte u' v' h3 h6 d w (by omega)
              simp only [eqElems, Sem.run_bind, h2, h5, he, Result.andThen_ok, Sem.run_ite]
              cases p
              · simp at h; subst h; simp
              · simp at h; subst h; simpa using ih q hq
            · cases h
          · cases h
      · cases h
    · rename_i kd hks hka hk
      simp only [Option.some.injEq] at hk
      split at h
      · rename_i x y
        rw [← hk] at h
        have hag : ti.kd.agg = false := by
          rw [hk]
          cases kd <;> first | rfl | (exact absurd rfl (hks _)) | (exact absurd rfl (hka _ _))
        simp only [hag, Bool.false_eq_true, if_false] at hu hv
        subst hu hv
        cases hx with
        | cons _ _ _ _ hxu _ =>
          cases hy with
          | cons _ _ _ _ hyv _ => exact eqCellK_ok ht h hxu hyv d w
      · cases h
    · cases h
end
end Go.Y

/- The operations that turn nothing: operators, slices, conversions. -/
namespace Go.Y
section
variable {Y : YP} {W : Vw} {σ : St} {a : Act} {w : World}

theorem eqIn_bool {t : TypeId} (hd : Y.P.underlying t = some .bool) {x y : Bool} {u v : Value} (hx : VR W (.b x) u) (hy : VR W (.b y) v) (n : Nat) (w : World) :
    (Op.equalIn (n + 1) t u v).run Y.P w = .ok (x == y) w := by
  cases hx; cases hy; exact run_equalIn_bool' w n t _ _ hd
theorem eqIn_ptr0 {t : TypeId} {e : TypeId} (hd : Y.P.underlying t = some (.pointer e))   {u v : Value} (hx : VR W (.p none) u) (hy : VR W (.p none) v) (n : Nat) (w : World) :
    (Op.equalIn (n + 1) t u v).run Y.P w = .ok true w := by
  cases hx <;> cases hy <;> simp only [Op.equalIn, Sem.run_bind, run_underlying' hd, Result.andThen_ok, Sem.run_pure] <;> rfl
theorem eqIn_ptr1 {t : TypeId} {e : TypeId} (hd : Y.P.underlying t = some (.pointer e))  {q : Nat × Nat} {u v : Value} (hx : VR W (.p none) u) (hy : VR W (.p (some q)) v) (n : Nat) (w : World) :
    (Op.equalIn (n + 1) t u v).run Y.P w = .ok false w := by
  cases hx <;> cases hy <;> simp only [Op.equalIn, Sem.run_bind, run_underlying' hd, Result.andThen_ok, Sem.run_pure] <;> rfl
theorem eqIn_ptr2 {t : TypeId} {e : TypeId} (hd : Y.P.underlying t = some (.pointer e)) {q : Nat × Nat}  {u v : Value} (hx : VR W (.p (some q)) u) (hy : VR W (.p none) v) (n : Nat) (w : World) :
    (Op.equalIn (n + 1) t u v).run Y.P w = .ok false w := by
  cases hx <;> cases hy <;> simp only [Op.equalIn, Sem.run_bind, run_underlying' hd, Result.andThen_ok, Sem.run_pure] <;> rfl
theorem eqIn_ptr3 {t : TypeId} {e : TypeId} (hd : Y.P.underlying t = some (.pointer e))  {cs : List V} {u v : Value} (hx : VR W (.p none) u) (hy : VR W (.tp cs) v) (n : Nat) (w : World) :
    (Op.equalIn (n + 1) t u v).run Y.P w = .ok false w := by
  cases hx <;> cases hy <;> simp only [Op.equalIn, Sem.run_bind, run_underlying' hd, Result.andThen_ok, Sem.run_pure] <;> rfl
theorem eqIn_ptr4 {t : TypeId} {e : TypeId} (hd : Y.P.underlying t = some (.pointer e)) {cs : List V}  {u v : Value} (hx : VR W (.tp cs) u) (hy : VR W (.p none) v) (n : Nat) (w : World) :
    (Op.equalIn (n + 1) t u v).run Y.P w = .ok false w := by
  cases hx <;> cases hy <;> simp only [Op.equalIn, Sem.run_bind, run_underlying' hd, Result.andThen_ok, Sem.run_pure] <;> rfl
theorem eqIn_slice0 {t : TypeId} {e : TypeId} (hd : Y.P.underlying t = some (.slice e)) {l : Nat} {c : Option Nat} {k : Nat} {l' : Nat} {c' : Option Nat} {k' : Nat} {u v : Value} (hx : VR W (.sl none l c k) u) (hy : VR W (.sl none l' c' k') v) (n : Nat) (w : World) :
    (Op.equalIn (n + 1) t u v).run Y.P w = .ok true w := by
  cases hx <;> cases hy <;> simp only [Op.equalIn, Sem.run_bind, run_underlying' hd, Result.andThen_ok, Sem.run_pure] <;> rfl
theorem eqIn_slice1 {t : TypeId} {e : TypeId} (hd : Y.P.underlying t = some (.slice e)) {l : Nat} {c : Option Nat} {k : Nat} {q : Nat × Nat} {l' : Nat} {c' : Option Nat} {k' : Nat} {u v : Value} (hx : VR W (.sl none l c k) u) (hy : VR W (.sl (some q) l' c' k') v) (n : Nat) (w : World) :
    (Op.equalIn (n + 1) t u v).run Y.P w = .ok false w := by
  cases hx <;> cases hy <;> simp only [Op.equalIn, Sem.run_bind, run_underlying' hd, Result.andThen_ok, Sem.run_pure] <;> rfl
theorem eqIn_slice2 {t : TypeId} {e : TypeId} (hd : Y.P.underlying t = some (.slice e)) {q : Nat × Nat} {l : Nat} {c : Option Nat} {k : Nat} {l' : Nat} {c' : Option Nat} {k' : Nat} {u v : Value} (hx : VR W (.sl (some q) l c k) u) (hy : VR W (.sl none l' c' k') v) (n : Nat) (w : World) :
    (Op.equalIn (n + 1) t u v).run Y.P w = .ok false w := by
  cases hx <;> cases hy <;> simp only [Op.equalIn, Sem.run_bind, run_underlying' hd, Result.andThen_ok, Sem.run_pure] <;> rfl
theorem eqIn_slice3 {t : TypeId} {e : TypeId} (hd : Y.P.underlying t = some (.slice e)) {l : Nat} {c : Option Nat} {k : Nat} {cs : List V} {l' : Nat} {c' : Option Nat} {u v : Value} (hx : VR W (.sl none l c k) u) (hy : VR W (.ts cs l' c') v) (h0 : l' ≠ 0) (n : Nat) (w : World) :
    (Op.equalIn (n + 1) t u v).run Y.P w = .ok false w := by
  cases hx <;> cases hy <;> first | exact absurd rfl h0 | (simp only [Op.equalIn, Sem.run_bind, run_underlying' hd, Result.andThen_ok, Sem.run_pure] <;> rfl)
theorem eqIn_slice4 {t : TypeId} {e : TypeId} (hd : Y.P.underlying t = some (.slice e)) {cs : List V} {l : Nat} {c : Option Nat} {l' : Nat} {c' : Option Nat} {k' : Nat} {u v : Value} (hx : VR W (.ts cs l c) u) (hy : VR W (.sl none l' c' k') v) (h0 : l ≠ 0) (n : Nat) (w : World) :
    (Op.equalIn (n + 1) t u v).run Y.P w = .ok false w := by
  cases hx <;> cases hy <;> first | exact absurd rfl h0 | (simp only [Op.equalIn, Sem.run_bind, run_underlying' hd, Result.andThen_ok, Sem.run_pure] <;> rfl)
theorem eqIn_map0 {t : TypeId} {k e : TypeId} (hd : Y.P.underlying t = some (.map k e))   {u v : Value} (hx : VR W (.mp none) u) (hy : VR W (.mp none) v) (n : Nat) (w : World) :
    (Op.equalIn (n + 1) t u v).run Y.P w = .ok true w := by
  cases hx <;> cases hy <;> simp only [Op.equalIn, Sem.run_bind, run_underlying' hd, Result.andThen_ok, Sem.run_pure] <;> rfl
theorem eqIn_map1 {t : TypeId} {k e : TypeId} (hd : Y.P.underlying t = some (.map k e))  {q : Nat} {u v : Value} (hx : VR W (.mp none) u) (hy : VR W (.mp (some q)) v) (n : Nat) (w : World) :
    (Op.equalIn (n + 1) t u v).run Y.P w = .ok false w := by
  cases hx <;> cases hy <;> simp only [Op.equalIn, Sem.run_bind, run_underlying' hd, Result.andThen_ok, Sem.run_pure] <;> rfl
theorem eqIn_map2 {t : TypeId} {k e : TypeId} (hd : Y.P.underlying t = some (.map k e)) {q : Nat}  {u v : Value} (hx : VR W (.mp (some q)) u) (hy : VR W (.mp none) v) (n : Nat) (w : World) :
    (Op.equalIn (n + 1) t u v).run Y.P w = .ok false w := by
  cases hx <;> cases hy <;> simp only [Op.equalIn, Sem.run_bind, run_underlying' hd, Result.andThen_ok, Sem.run_pure] <;> rfl
theorem eqIn_func0 {t : TypeId} {ps rs : Array TypeId} {b : Bool} (hd : Y.P.underlying t = some (.func ps rs b))   {u v : Value} (hx : VR W (.nilfn) u) (hy : VR W (.nilfn) v) (n : Nat) (w : World) :
    (Op.equalIn (n + 1) t u v).run Y.P w = .ok true w := by
  cases hx <;> cases hy <;> simp only [Op.equalIn, Sem.run_bind, run_underlying' hd, Result.andThen_ok, Sem.run_pure] <;> rfl
theorem eqIn_func1 {t : TypeId} {ps rs : Array TypeId} {b : Bool} (hd : Y.P.underlying t = some (.func ps rs b))  {f : Fn} {a c : List V} {u v : Value} (hx : VR W (.nilfn) u) (hy : VR W (.fn f a c) v) (n : Nat) (w : World) :
    (Op.equalIn (n + 1) t u v).run Y.P w = .ok false w := by
  cases hx <;> cases hy <;> simp only [Op.equalIn, Sem.run_bind, run_underlying' hd, Result.andThen_ok, Sem.run_pure] <;> rfl
theorem eqIn_func2 {t : TypeId} {ps rs : Array TypeId} {b : Bool} (hd : Y.P.underlying t = some (.func ps rs b)) {f : Fn} {a c : List V}  {u v : Value} (hx : VR W (.fn f a c) u) (hy : VR W (.nilfn) v) (n : Nat) (w : World) :
    (Op.equalIn (n + 1) t u v).run Y.P w = .ok false w := by
  cases hx <;> cases hy <;> simp only [Op.equalIn, Sem.run_bind, run_underlying' hd, Result.andThen_ok, Sem.run_pure] <;> rfl
theorem eqIn_iface0 {t : TypeId} {ms : Array (String × TypeId)} (hd : Y.P.underlying t = some (.interface ms))  {e : TypeId} {x : V} {u v : Value} (hx : VR W (.nilifc) u) (hy : VR W (.ifc e x) v) (n : Nat) (w : World) :
    (Op.equalIn (n + 1) t u v).run Y.P w = .ok false w := by
  cases hx <;> cases hy <;> simp only [Op.equalIn, Sem.run_bind, run_underlying' hd, Result.andThen_ok, Sem.run_pure] <;> rfl
theorem eqIn_iface1 {t : TypeId} {ms : Array (String × TypeId)} (hd : Y.P.underlying t = some (.interface ms)) {e : TypeId} {x : V}  {u v : Value} (hx : VR W (.ifc e x) u) (hy : VR W (.nilifc) v) (n : Nat) (w : World) :
    (Op.equalIn (n + 1) t u v).run Y.P w = .ok false w := by
  cases hx <;> cases hy <;> simp only [Op.equalIn, Sem.run_bind, run_underlying' hd, Result.andThen_ok, Sem.run_pure] <;> rfl
theorem eqV_in {t : TypeId} {ti : TI} {i : TypeInfo} {d : TypeDesc} {z : Value} (ht : TIOK Y t ti i d z) {x y : V} {r : Bool} (h : eqV ti.kd x y = some r) {u v : Value}
    (hx : VR W x u) (hy : VR W y v) (n : Nat) (w : World) : (Op.equalIn (n + 1) t u v).run Y.P w = .ok r w := by
  have hd := ht.und
  have hk := ht.kd
  generalize ti.kd = kd at h hk
  unfold eqV at h
  split at h <;> (try split at h) <;> simp only [Option.some.injEq, reduceCtorEq] at h <;> simp only [KdOK] at hk <;> subst h
  case h_1 => subst hk; exact eqIn_bool hd hx hy n w
  case h_2 => subst hk; exact eqIn_ptr0 hd hx hy n w
  case h_3 => subst hk; exact eqIn_ptr1 hd hx hy n w
  case h_4 => subst hk; exact eqIn_ptr2 hd hx hy n w
  case h_5 => subst hk; exact eqIn_ptr3 hd hx hy n w
  case h_6 => subst hk; exact eqIn_ptr4 hd hx hy n w
  case h_7 => subst hk; exact eqIn_slice0 hd hx hy n w
  case h_8 => subst hk; exact eqIn_slice1 hd hx hy n w
  case h_9 => subst hk; exact eqIn_slice2 hd hx hy n w
  case h_10 => subst hk; exact eqIn_slice3 hd hx hy (by assumption) n w
  case h_11 => subst hk; exact eqIn_slice4 hd hx hy (by assumption) n w
  case h_12 => subst hk; exact eqIn_map0 hd hx hy n w
  case h_13 => subst hk; exact eqIn_map1 hd hx hy n w
  case h_14 => subst hk; exact eqIn_map2 hd hx hy n w
  case h_15 => obtain ⟨_, _, _, rfl⟩ := hk; exact eqIn_func0 hd hx hy n w
  case h_16 => obtain ⟨_, _, _, rfl⟩ := hk; exact eqIn_func1 hd hx hy n w
  case h_17 => obtain ⟨_, _, _, rfl⟩ := hk; exact eqIn_func2 hd hx hy n w
  case h_18 => obtain ⟨_, rfl⟩ := hk; exact eqIn_iface0 hd hx hy n w
  case h_19 => obtain ⟨_, rfl⟩ := hk; exact eqIn_iface1 hd hx hy n w

theorem eqV_ok {t : TypeId} {ti : TI} {i : TypeInfo} {d : TypeDesc} {z : Value} (ht : TIOK Y t ti i d z) {x y : V} {r : Bool} (h : eqV ti.kd x y = some r) {u v : Value}
    (hx : VR W x u) (hy : VR W y v) (w : World) :
    (binOp .eql t u v).run Y.P w = .ok (.bool r) w ∧ (binOp .neq t u v).run Y.P w = .ok (.bool (!r)) w ∧ ∀ op xo yo, eqGuard op t xo yo u v = pure () := by
  have he : (Op.equal t u v).run Y.P w = .ok r w := eqV_in ht h hx hy 9999 w
  unfold eqV at h
  split at h <;> (try split at h) <;> first | (cases h; done) | skip
  all_goals cases hx <;> cases hy
  all_goals first | (exfalso; contradiction) | skip
  all_goals exact ⟨by simp only [binOp, Sem.run_bind, he, Result.andThen_ok, Sem.run_pure], by simp only [binOp, Sem.run_bind, he, Result.andThen_ok, Sem.run_pure], fun op _ _ => by cases op <;> rfl⟩

theorem binY_ok (hY : YOK Y) {op : BinOp} {t : TypeId} {xo yo : Operand} {x y v : V} (h : binY Y op t xo yo x y = some v) {u1 u2 : Value} (hx : VR W x u1) (hy : VR W y u2) :
    ∃ u, VR W v u ∧ ∀ w, (do eqGuard op t xo yo u1 u2; binOp op t u1 u2 : Sem Value).run Y.P w = .ok u w := by
  unfold binY at h
  split at h
  · rename_i k m k' n
    cases hx; cases hy
    have hg : ∀ w, (eqGuard op t xo yo (.int k m) (.int k' n)).run Y.P w = .ok () w := fun w => by cases op <;> rfl
    split at h
    · split at h
      · cases h
      · rename_i hn
        simp at h; subst h
        exact ⟨_, .i _ _, fun w => by simp only [Sem.run_bind, hg, Result.andThen_ok]; simp [binOp, Op.shift, hn]⟩
    · split at h
      · cases h
      · rename_i hn
        simp at h; subst h
        exact ⟨_, .i _ _, fun w => by simp only [Sem.run_bind, hg, Result.andThen_ok]; simp [binOp, Op.shift, hn]⟩
    · split at h
      · rename_i hk
        subst hk
        obtain ⟨u, hu, he⟩ := intBin_ok (Y := Y) (W := W) h t
        exact ⟨u, hu, fun w => by simp only [Sem.run_bind, hg, Result.andThen_ok, he]⟩
      · cases h
  · rename_i l m
    cases hx; cases hy
    have hg : ∀ w, (eqGuard op t xo yo (.string ⟨l.toArray⟩) (.string ⟨m.toArray⟩)).run Y.P w = .ok () w := fun w => by cases op <;> rfl
    obtain ⟨u, hu, he⟩ := strBin_ok (Y := Y) (W := W) h t
    exact ⟨u, hu, fun w => by simp only [Sem.run_bind, hg, Result.andThen_ok, he]⟩
  · cases hx; cases hy
    have hg : (isConst xo || isConst yo) = true → ∀ w, (eqGuard op t xo yo .nilIface .nilIface).run Y.P w = .ok () w := by
      intro hc w
      cases xo <;> cases yo <;> simp [isConst] at hc <;> cases op <;> rfl
    have he : ∀ ms, Y.P.underlying t = some (.interface ms) → ∀ w, (Op.equal t .nilIface .nilIface).run Y.P w = .ok true w := fun ms hd w => by
      show (Op.equalIn (9999 + 1) t .nilIface .nilIface).run Y.P w = .ok true w
      generalize 9999 = n
      simp only [Op.equalIn, Sem.run_bind, run_underlying' hd, Result.andThen_ok, Sem.run_pure]
    split at h
    · rename_i hk
      obtain ⟨ti, hti, hk'⟩ := kd_of hk
      obtain ⟨i, d, z, ht⟩ := hY.ty t ti hti
      have hkd := ht.kd
      rw [hk'] at hkd
      obtain ⟨ms, rfl⟩ := hkd
      split at h
      · rename_i hc
        simp at h; subst h
        exact ⟨_, .b _, fun w => by simp only [Sem.run_bind, hg hc, Result.andThen_ok, binOp, he ms ht.und, Sem.run_pure]⟩
      · cases h
    · rename_i hk
      obtain ⟨ti, hti, hk'⟩ := kd_of hk
      obtain ⟨i, d, z, ht⟩ := hY.ty t ti hti
      have hkd := ht.kd
      rw [hk'] at hkd
      obtain ⟨ms, rfl⟩ := hkd
      split at h
      · rename_i hc
        simp at h; subst h
        exact ⟨_, .b _, fun w => by simp only [Sem.run_bind, hg hc, Result.andThen_ok, binOp, he ms ht.und, Sem.run_pure, Bool.not_true]⟩
      · cases h
    · cases h
  · rename_i xs ys
    cases hx with
    | agg _ us hxs =>
      cases hy with
      | agg _ vs hys =>
        cases hk : Y.kd t with
        | none => simp [hk] at h
        | some kd =>
        simp only [hk] at h
        obtain ⟨ti, hti, hk'⟩ := kd_of hk
        obtain ⟨i, d, z, ht⟩ := hY.ty t ti hti
        have hkd := ht.kd
        rw [hk'] at hkd
        split at h
        case isFalse => cases h
        rename_i hag
        have hgt : Y.P.eqGuardType Y.P.depth t = false := by
          cases kd <;> simp [Kd.agg] at hag
          · exact hkd.2
          · obtain ⟨_, _, _, _, _, hg⟩ := hkd; exact hg
        rw [← hk'] at hag
        have key : ∀ r, eqTy Y 8 t xs ys = some r → (∀ w, (Op.equal t (.agg us.toArray) (.agg vs.toArray)).run Y.P w = .ok r w) ∧ ∀ op w, (eqGuard op t xo yo (.agg us.toArray) (.agg vs.toArray)).run Y.P w = .ok () w := by
          intro r hr
          refine ⟨fun w => ?_, fun op w => run_eqGuard_agg w op t xo yo _ _ hgt⟩
          exact eqTy_ok hY 8 t xs ys r hr us vs hxs hys ti hti _ _ (by simp [hag]) (by simp [hag]) 10000 w (by omega)
        split at h
        · rename_i r hr
          simp at h; subst h
          obtain ⟨h1, h2⟩ := key r hr
          exact ⟨_, .b _, fun w => by simp only [Sem.run_bind, h2, Result.andThen_ok, binOp, h1, Sem.run_pure]⟩
        · rename_i r hr
          simp at h; subst h
          obtain ⟨h1, h2⟩ := key r hr
          exact ⟨_, .b _, fun w => by simp only [Sem.run_bind, h2, Result.andThen_ok, binOp, h1, Sem.run_pure]⟩
        · cases h
  · split at h
    · rename_i kd hk
      obtain ⟨ti, hti, hk'⟩ := kd_of hk
      obtain ⟨i, d, z, ht⟩ := hY.ty t ti hti
      subst hk'
      split at h
      · rename_i r hr
        simp at h; subst h
        exact ⟨_, .b _, fun w => by
          obtain ⟨h1, h2, h3⟩ := eqV_ok ht hr hx hy w
          simp only [Sem.run_bind, h3, Sem.run_pure, Result.andThen_ok, h1]⟩
      · rename_i r hr
        simp at h; subst h
        exact ⟨_, .b _, fun w => by
          obtain ⟨h1, h2, h3⟩ := eqV_ok ht hr hx hy w
          simp only [Sem.run_bind, h3, Sem.run_pure, Result.andThen_ok, h2]⟩
      · cases h
    · cases h
end
end Go.Y

/- The operations that turn nothing, all of them. -/
namespace Go.Y
section
variable {Y : YP} {W : Vw} {σ : St} {a : Act} {w : World}

theorem unY_ok {op : UnOp} {x v : V} (h : unY op x = some v) {u1 : Value} (hx : VR W x u1) : ∃ u, VR W v u ∧ ∀ w, (Op.unary op u1).run Y.P w = .ok u w := by
  unfold unY at h
  split at h
  · cases hx; simp at h; subst h; exact ⟨_, .b _, fun w => rfl⟩
  · cases hx; simp at h; subst h; exact ⟨_, .i _ _, fun w => by simp [Op.unary, Op.intArith]⟩
  · cases hx; simp only [Option.some.injEq] at h; subst h; exact ⟨_, .i _ _, fun w => rfl⟩
  · cases h

theorem load_ok (hY : YOK Y) (h : Rel W σ a w) {t : TypeId} {x : Operand} {ti : TI} (hti : Y.ty t = some ti) {ad : Ad} (had : addr σ x = some ad) {v : V}
    (hv : (cellsAt σ ti.size ad).bind (ofCells ti.kd.agg) = some v) : ∃ u, VR W v u ∧ ∀ w', Same w w' → (Instr.loadAt t (a.eval x)).run Y.P w' = .ok u w' := by
  obtain ⟨i, d, z, ht⟩ := hY.ty t ti hti
  obtain ⟨y, hy, hr⟩ := addr_ok h had
  obtain ⟨l, hl, hv⟩ := Option.bind_eq_some_iff.1 hv
  obtain ⟨us, h1, h2, h3⟩ := cellsAt_ok h hr hl
  obtain ⟨u, hu, he⟩ := ofCells_ok h1 hv
  refine ⟨u, hu, fun w' hw' => ?_⟩
  rw [hy]
  simp only [Instr.loadAt, Instr.sureAddr, Sem.run_bind, Sem.run_pure, Result.andThen_ok]
  exact run_loadVarY ht.und ht.info w' y us (by rw [h2, ht.size]) (h3.same hw') u (by rw [ht.agg]; exact he)

theorem fieldsOf_ok (hY : YOK Y) {t : TypeId} {fs : List (Nat × TypeId)} (h : fieldsOf Y t = some fs) :
    ∃ l : Array Field, Y.P.underlying t = some (.struct l) ∧ fs = l.toList.map (fun f => (f.offset, f.type)) := by
  unfold fieldsOf at h
  split at h
  · rename_i fs' hk
    simp at h; subst h
    obtain ⟨ti, hti, hk'⟩ := kd_of hk
    obtain ⟨i, d, z, ht⟩ := hY.ty t ti hti
    have hkd := ht.kd
    rw [hk'] at hkd
    obtain ⟨l, rfl, hfs, _⟩ := hkd
    exact ⟨l, ht.und, hfs⟩
  · cases h

theorem fieldA_ok (hY : YOK Y) (h : Rel W σ a w) {t : TypeId} {x : Operand} {f : Nat} {ad : Ad} (hf : fieldA Y σ t x f = some ad) :
    ∃ y, AdR W σ a ad y ∧ ∀ w', Same w w' → (Instr.fieldAt t (a.eval x) f).run Y.P w' = .ok (.pointer (some y)) w' := by
  unfold fieldA at hf
  split at hf
  · rename_i fs hfs
    obtain ⟨l, hl, rfl⟩ := fieldsOf_ok hY hfs
    split at hf
    · rename_i off ft a0 hg ha
      obtain ⟨y, hy, hr⟩ := addr_ok h ha
      split at hf
      · rename_i ti hti
        split at hf
        · rename_i hs
          simp at hf; subst hf
          obtain ⟨i, d, z, ht⟩ := hY.ty ft ti hti
          rw [List.getElem?_map, Option.map_eq_some_iff] at hg
          obtain ⟨fd, hfd, he⟩ := hg
          simp at he
          obtain ⟨rfl, rfl⟩ := he
          refine ⟨_, hr.shift _, fun w' _ => ?_⟩
          have hfd' : l[f]? = some fd := by simpa using hfd
          have hs' : i.size ≠ 0 := by rw [ht.size]; exact hs
          rw [hy]
          simp only [Instr.fieldAt, Sem.run_bind, run_underlying' hl, Result.andThen_ok, hfd', Instr.sureAddr, Sem.run_pure, fieldPlace, run_sizeOf ht.info, Sem.run_ite, hs', if_false]
        · cases hf
      · cases hf
    · cases hf
  · cases hf

theorem indexA_ok (hY : YOK Y) (h : Rel W σ a w) {t : TypeId} {x ix : Operand} {ad : Ad} (hf : indexA Y σ t x (ev σ.env ix) = some ad) :
    ∃ y, AdR W σ a ad y ∧ ∀ w', Same w w' → (Instr.indexAt t (a.eval x) (a.eval ix)).run Y.P w' = .ok (.pointer (some y)) w' := by
  have hix := h.ev ix
  unfold indexA at hf
  split at hf
  · rename_i n e k i hk hi
    rw [hi] at hix
    generalize a.eval ix = ui at hix
    cases hix
    obtain ⟨ti, hti, hk'⟩ := kd_of hk
    obtain ⟨inf, d, z, ht⟩ := hY.ty t ti hti
    have hkd := ht.kd
    rw [hk'] at hkd
    obtain ⟨rfl, _⟩ := hkd
    split at hf
    · rename_i te a0 hte ha
      split at hf
      · rename_i hc
        simp at hf; subst hf
        obtain ⟨ie, de, ze, hte'⟩ := hY.ty e te hte
        obtain ⟨y, hy, hr⟩ := addr_ok h ha
        refine ⟨_, hr.shift _, fun w' _ => ?_⟩
        rw [hy]
        simp only [Instr.indexAt, asIntOf, Sem.run_bind, run_underlying' ht.und, Result.andThen_ok, Instr.sureAddr, Sem.run_pure, Sem.run_ite]
        rw [if_pos ⟨hc.1, hc.2.1⟩]
        simp only [run_sizeOf hte'.info, Result.andThen_ok, hte'.size]
      · cases hf
    · cases hf
  · rename_i e k i hk hi
    rw [hi] at hix
    generalize a.eval ix = ui at hix
    cases hix
    obtain ⟨ti, hti, hk'⟩ := kd_of hk
    obtain ⟨inf, d, z, ht⟩ := hY.ty t ti hti
    have hkd := ht.kd
    rw [hk'] at hkd
    cases hkd
    have hx := h.ev x
    split at hf
    · rename_i te id o len cap k' hte hxv
      rw [hxv] at hx
      generalize a.eval x = ux at hx
      split at hf
      · rename_i hc
        obtain ⟨h0, h1, h2, rfl⟩ := hc
        simp at hf; subst hf
        obtain ⟨ie, de, ze, hte'⟩ := hY.ty e te hte
        cases hx with
        | sls _ _ _ _ _ y cap' hid hl _ ha _ _ =>
          refine ⟨y.add (i.toNat * te.size), ⟨hid, fun hv => ?_⟩, fun w' _ => ?_⟩
          · rw [ha hv (by omega)]; unfold Vw.at; rw [add_at, Nat.add_assoc]
          · simp only [Instr.indexAt, asIntOf, Sem.run_bind, run_underlying' ht.und, Result.andThen_ok, Sem.run_pure, Sem.run_ite]
            rw [if_pos ⟨h0, h1⟩]
            simp only [run_sizeOf hte'.info, Result.andThen_ok, hte'.size]
      · cases hf
    · rename_i te cs len cap hte hxv
      rw [hxv] at hx
      generalize a.eval x = ux at hx
      split at hf
      · rename_i hc
        obtain ⟨h0, h1, h2⟩ := hc
        simp at hf; subst hf
        obtain ⟨ie, de, ze, hte'⟩ := hY.ty e te hte
        have run : ∀ (y : Addr) (cap' : Nat) w', (Instr.indexAt t (.slice (some y) len cap') (.int k i)).run Y.P w' = .ok (.pointer (some (y.add (i.toNat * te.size)))) w' := by
          intro y cap' w'
          simp only [Instr.indexAt, asIntOf, Sem.run_bind, run_underlying' ht.und, Result.andThen_ok, Sem.run_pure, Sem.run_ite]
          rw [if_pos ⟨h0, h1⟩]
          simp only [run_sizeOf hte'.info, Result.andThen_ok, hte'.size]
        cases hx with
        | tsn _ _ y cap' => exact ⟨_, .inl (by simp), fun w' _ => run y cap' w'⟩
        | tsz => omega
        | ts _ _ _ cap' blk off c et fr us hl hcap hs hcc hr =>
          have hr' : AdR W σ a (.ro cs) ⟨blk, off, none⟩ := .inr ⟨blk, off, c, et, fr, us, rfl, hs, hcc, hr⟩
          exact ⟨_, hr'.shift _, fun w' _ => run _ cap' w'⟩
      · cases hf
    · cases hf
  · cases hf

theorem cells_ok {v : V} {u : Value} (h : VR W v u) (hc : allCells v.cells = true) : VRs W v.cells u.cells.toList := by
  cases h with
  | agg cs us h => simpa [V.cells, Value.cells] using h
  | undef u => simp [V.cells, allCells, V.cellOK] at hc
  | tup cs us h => simp [V.cells, allCells, V.cellOK] at hc
  | b x => exact .cons _ _ _ _ (.b x) .nil
  | i k n => exact .cons _ _ _ _ (.i k n) .nil
  | s l => exact .cons _ _ _ _ (.s l) .nil
  | pn => exact .cons _ _ _ _ .pn .nil
  | ps id off a hid ha => exact .cons _ _ _ _ (.ps id off a hid ha) .nil
  | tpn a => exact .cons _ _ _ _ (.tpn a) .nil
  | tp cs blk off c e fr us hs hc' hr => exact .cons _ _ _ _ (.tp cs blk off c e fr us hs hc' hr) .nil
  | sln c k => exact .cons _ _ _ _ (.sln c k) .nil
  | sls id off len cap k a cap' hid hl hc' ha hn hk => exact .cons _ _ _ _ (.sls id off len cap k a cap' hid hl hc' ha hn hk) .nil
  | tsn len cap a cap' hl hc' => exact .cons _ _ _ _ (.tsn len cap a cap' hl hc') .nil
  | tsz cap hc' => exact .cons _ _ _ _ (.tsz cap hc') .nil
  | ts cs len cap cap' blk off c e fr us hl hcap hs hc' hr => exact .cons _ _ _ _ (.ts cs len cap cap' blk off c e fr us hl hcap hs hc' hr) .nil
  | mpn => exact .cons _ _ _ _ .mpn .nil
  | mps id r hid hr => exact .cons _ _ _ _ (.mps id r hid hr) .nil
  | fn f a c ua uc ha hc' => exact .cons _ _ _ _ (.fn f a c ua uc ha hc') .nil
  | nilfn => exact .cons _ _ _ _ .nilfn .nil
  | ifc t v u h => exact .cons _ _ _ _ (.ifc t v u h) .nil
  | nilifc => exact .cons _ _ _ _ .nilifc .nil

theorem oneCells_ok : ∀ {cs : List V} {us : List Value}, VRs W cs us → allCells cs = true → ∀ u ∈ us, u.oneCell' = true
  | _, _, .nil, _, u, hu => by simp at hu
  | _, _, .cons v u' l m h hs, hc, u, hu => by
    simp only [allCells, Bool.and_eq_true] at hc
    rcases List.mem_cons.1 hu with rfl | hu
    · cases h <;> first | rfl | (simp [V.cellOK] at hc)
    · exact oneCells_ok hs hc.2 u hu

/-- 'fill' of the model, by lists. -/
theorem foldl_set (n : Nat) : ∀ (vs : List Value) (k : Nat) (cs : Array Value), n + k + vs.length ≤ cs.size →
    ((vs.zipIdx k).foldl (fun cs (p : Value × Nat) => cs.setIfInBounds (n + p.2) p.1) cs).toList = splice cs.toList (n + k) vs
  | [], k, cs, h => by
    apply List.ext_getElem?
    intro j
    rw [splice_get _ _ _ _ (by simpa using h)]
    simp only [List.zipIdx_nil, List.foldl_nil]
    split
    · rename_i hj; simp at hj; omega
    · rfl
  | v :: vs, k, cs, h => by
    simp only [List.length_cons] at h
    simp only [List.zipIdx_cons, List.foldl_cons]
    rw [foldl_set n vs (k + 1) _ (by simp; omega)]
    apply List.ext_getElem?
    intro j
    rw [splice_get _ _ _ _ (by simp; omega), splice_get _ _ _ _ (by simp; omega)]
    simp only [List.length_cons, Array.getElem?_toList, Array.getElem?_setIfInBounds]
    by_cases hj : j = n + k
    · subst hj
      rw [if_neg (by omega), if_pos (by omega)]
      simp; omega
    · by_cases hc : n + (k + 1) ≤ j ∧ j < n + (k + 1) + vs.length
      · rw [if_pos hc, if_pos (by omega)]
        obtain ⟨q, hq⟩ : ∃ q, j = n + k + (q + 1) := ⟨j - (n + k + 1), by omega⟩
        subst hq
        rw [show n + k + (q + 1) - (n + (k + 1)) = q by omega, show n + k + (q + 1) - (n + k) = q + 1 by omega]
        simp
      · rw [if_neg hc, if_neg (by omega : ¬ (n + k ≤ j ∧ j < n + k + (vs.length + 1))), if_neg (fun e : n + k = j => hj e.symm)]

theorem fill_ok (h : Rel W σ a w) {place : Nat → Option (Nat × Nat)} : ∀ (parts : List (Nat × Operand)) (cs r : List V) (us : List Value), VRs W cs us →
    fillY (ev σ.env) place parts cs = some r → ∃ us', VRs W r us' ∧ Instr.fill place us.toArray (parts.map fun p => (p.1, a.eval p.2)) = some us'.toArray
  | [], cs, r, us, hr, hf => by simp [fillY] at hf; subst hf; exact ⟨us, hr, by simp [Instr.fill]⟩
  | p :: rest, cs, r, us, hr, hf => by
    simp only [fillY] at hf
    split at hf
    · rename_i off size hp
      split at hf
      · rename_i hc
        obtain ⟨h1, h2, h3⟩ := hc
        have hv := cells_ok (h.ev p.2) h3
        have hl := hv.length
        have hl2 := hr.length
        have hsp := hr.splice hv off h2
        obtain ⟨us', h4, h5⟩ := fill_ok h rest _ r _ hsp hf
        refine ⟨us', h4, ?_⟩
        simp only [List.map_cons, Instr.fill, hp]
        have e1 : (a.eval p.2).cells.size = size := by rw [← Array.length_toList, ← hl, h1]
        have e2 : ¬ ((a.eval p.2).cells.size ≠ size ∨ off + (a.eval p.2).cells.size > us.toArray.size) := by
          rw [e1]; simp; omega
        rw [if_neg (by simpa using e2)]
        rw [← h5]
        congr 1
        have hz : (a.eval p.2).cells.zipIdx.foldl (fun cs x => cs.setIfInBounds (off + x.2) x.1) us.toArray = (splice us off (a.eval p.2).cells.toList).toArray := by
          apply Array.ext'
          rw [← Array.foldl_toList, Array.toList_zipIdx]
          rw [foldl_set off _ 0 _ (by simp; omega)]
          simp
        exact hz
      · cases hf
    · cases hf
end
end Go.Y

/- Slice expressions. -/
namespace Go.Y
section
variable {Y : YP} {W : Vw} {σ : St} {a : Act} {w : World}

/-- Two operands that may be missing. -/
def OR (W : Vw) : Option V → Option Value → Prop
  | some v, some u => VR W v u
  | none, none => True
  | _, _ => False

theorem bnd_le {y d n : Nat} {o : Option V} (h : bnd y d o = some n) : (o = none → n = d) ∧ (o ≠ none → n ≤ y) := by
  cases o with
  | none => simp only [bnd, Option.some.injEq] at h; exact ⟨fun _ => h.symm, fun hn => absurd rfl hn⟩
  | some v =>
    refine ⟨fun hn => (nomatch hn), fun _ => ?_⟩
    cases v <;> simp [bnd] at h
    omega

theorem bnd_some {y d n : Nat} {v : V} (h : bnd y d (some v) = some n) {u : Value} (ho : VR W v u) {y' : Nat} (hy : y ≤ y') (code : BoundsCode) (w : World) :
    (Instr.sliceBound u y' code).run Y.P w = .ok n w := by
  cases v <;> simp only [bnd, reduceCtorEq] at h
  split at h
  · rename_i k m hc
    simp at h; subst h
    cases ho
    exact run_sliceBound w k m y' code hc.1 (by omega)
  · cases h

/-- Without a third index. -/
theorem bounds_run {y d len cap l h : Nat} {lo hi : Option V} (hb : bounds y d lo hi = some (l, h)) {ulo uhi : Option Value} (hlo : OR W lo ulo) (hhi : OR W hi uhi) (hy : y ≤ cap) (hd : d = len)
    (isSlice : Bool) (w : World) : (Instr.sliceBounds isSlice len cap ulo uhi none).run Y.P w = .ok (l, h, cap) w := by
  unfold bounds at hb
  split at hb
  · rename_i h' hh
    split at hb
    · rename_i l' hl
      simp at hb
      obtain ⟨rfl, rfl⟩ := hb
      cases hi with
      | none =>
        cases uhi with
        | some u => exact hhi.elim
        | none =>
          simp only [bnd, Option.some.injEq] at hh
          subst hh hd
          cases lo with
          | none => cases ulo with
            | some u => exact hlo.elim
            | none =>
              simp only [bnd, Option.some.injEq] at hl
              subst hl
              simp only [Instr.sliceBounds, Sem.run_bind, Sem.run_pure, Result.andThen_ok]
          | some v => cases ulo with
            | none => exact hlo.elim
            | some u => simp only [Instr.sliceBounds, Sem.run_bind, Sem.run_pure, Result.andThen_ok, bnd_some hl hlo (Nat.le_refl _)]
      | some v =>
        cases uhi with
        | none => exact hhi.elim
        | some u =>
          cases lo with
          | none => cases ulo with
            | some u => exact hlo.elim
            | none =>
              simp only [bnd, Option.some.injEq] at hl
              subst hl
              simp only [Instr.sliceBounds, Sem.run_bind, Sem.run_pure, Result.andThen_ok, bnd_some hh hhi hy]
          | some v => cases ulo with
            | none => exact hlo.elim
            | some u => simp only [Instr.sliceBounds, Sem.run_bind, Sem.run_pure, Result.andThen_ok, bnd_some hh hhi hy, bnd_some hl hlo (Nat.le_refl _)]
    · cases hb
  · cases hb

/-- With a third index. -/
theorem bounds3_run {y m len cap l h : Nat} {lo : Option V} {vh vm : V} (hm : bnd y 0 (some vm) = some m) (hb : bounds m 0 lo (some vh) = some (l, h)) {ulo : Option Value} {uh um : Value} (hlo : OR W lo ulo)
    (hhi : VR W vh uh) (hmx : VR W vm um) (hy : y ≤ cap) (isSlice : Bool) (w : World) : (Instr.sliceBounds isSlice len cap ulo (some uh) (some um)).run Y.P w = .ok (l, h, m) w := by
  unfold bounds at hb
  split at hb
  · rename_i h' hh
    split at hb
    · rename_i l' hl
      simp at hb
      obtain ⟨rfl, rfl⟩ := hb
      cases lo with
      | none => cases ulo with
        | some u => exact hlo.elim
        | none =>
          simp only [bnd, Option.some.injEq] at hl
          subst hl
          simp only [Instr.sliceBounds, Sem.run_bind, bnd_some hm hmx hy, bnd_some hh hhi (Nat.le_refl _), Result.andThen_ok, Sem.run_pure]
      | some v => cases ulo with
        | none => exact hlo.elim
        | some u => simp only [Instr.sliceBounds, Sem.run_bind, bnd_some hm hmx hy, bnd_some hh hhi (Nat.le_refl _), bnd_some hl hlo (Nat.le_refl _), Result.andThen_ok, Sem.run_pure]
    · cases hb
  · cases hb

theorem bounds_le {y d l h : Nat} {lo hi : Option V} (hb : bounds y d lo hi = some (l, h)) : l ≤ h ∧ (hi = none → h = d) ∧ (hi ≠ none → h ≤ y) := by
  unfold bounds at hb
  split at hb
  · rename_i h' hh
    split at hb
    · rename_i l' hl
      simp at hb
      obtain ⟨rfl, rfl⟩ := hb
      obtain ⟨a1, a2⟩ := bnd_le hh
      obtain ⟨b1, b2⟩ := bnd_le hl
      refine ⟨?_, a1, a2⟩
      by_cases hlo : lo = none
      · rw [b1 hlo]; omega
      · exact b2 hlo
    · cases hb
  · cases hb

theorem OR.some {v : V} {uo : Option Value} (h : OR W (Option.some v) uo) : ∃ u, uo = Option.some u ∧ VR W v u := by
  cases uo with
  | none => exact h.elim
  | some u => exact ⟨u, rfl, h⟩

theorem OR.none {uo : Option Value} (h : OR W Option.none uo) : uo = Option.none := by
  cases uo with
  | none => rfl
  | some u => exact h.elim

theorem drop_extract (l : List UInt8) (x y : Nat) : (⟨l.toArray⟩ : ByteArray).extract x y = ⟨((l.drop x).take (y - x)).toArray⟩ := by
  apply ByteArray.ext
  rw [ByteArray.data_extract]
  simp

theorem slice_ok (hY : YOK Y) {t : TypeId} {v r : V} {lo hi mx : Option V} (h : sliceY Y t v lo hi mx = Option.some r) {u : Value} {ulo uhi umx : Option Value} (hv : VR W v u) (hlo : OR W lo ulo) (hhi : OR W hi uhi)
    (hmx : OR W mx umx) : ∃ u', VR W r u' ∧ ∀ w, (Instr.sliceAt t u ulo uhi umx).run Y.P w = .ok u' w := by
  unfold sliceY at h
  split at h
  · rename_i hk
    obtain ⟨ti, hti, hk'⟩ := kd_of hk
    obtain ⟨i, d, z, ht⟩ := hY.ty t ti hti
    have hkd := ht.kd
    rw [hk'] at hkd
    cases hkd
    split at h
    · rename_i l
      split at h
      · rename_i x y hb
        simp at h; subst h
        cases hv
        have := hmx.none
        subst this
        refine ⟨_, .s _, fun w => ?_⟩
        have hr := bounds_run (Y := Y) hb hlo hhi (Nat.le_refl _) rfl false w
        have hs : (⟨l.toArray⟩ : ByteArray).size = l.length := rfl
        simp only [Instr.sliceAt, Instr.slice, Sem.run_bind, run_underlying' ht.und, Result.andThen_ok, Option.isSome_none, Bool.false_eq_true, if_false, hs, hr, Sem.run_pure, drop_extract]
      · cases h
    · cases h
  · rename_i e hk
    obtain ⟨ti, hti, hk'⟩ := kd_of hk
    obtain ⟨i, d, z, ht⟩ := hY.ty t ti hti
    have hkd := ht.kd
    rw [hk'] at hkd
    cases hkd
    split at h
    · cases h
    · rename_i te hte
      obtain ⟨ie, de, ze, hte'⟩ := hY.ty e te hte
      have run : ∀ (ao : Option Addr) (len cap l h m : Nat) w, (Instr.sliceBounds true len cap ulo uhi umx).run Y.P w = .ok (l, h, m) w →
          (Instr.sliceAt t (.slice ao len cap) ulo uhi umx).run Y.P w = .ok (.slice (if m = l then ao else ao.map (·.add (l * te.size))) (h - l) (m - l)) w := by
        intro ao len cap l h m w hr
        simp only [Instr.sliceAt, Instr.slice, Sem.run_bind, run_underlying' ht.und, Result.andThen_ok, hr, run_sizeOf hte'.info, Sem.run_pure, hte'.size]
      split at h
      · rename_i n c k
        split at h
        · split at h
          · rename_i m hm
            split at h
            · rename_i lh hb
              obtain ⟨l, hh⟩ := lh
              split at h
              · cases h
              · rename_i hmh
                simp at h; subst h
                cases hv
                refine ⟨_, .sln _ _, fun w => ?_⟩
                have hle := bounds_le hb
                cases mx with
                | none =>
                  have := hmx.none
                  subst this
                  have hr := bounds_run (Y := Y) hb hlo hhi (Nat.le_refl 0) rfl true w
                  rw [run none 0 0 l hh 0 w hr]
                  have h0 : hh = 0 := by
                    by_cases e0 : hi = none
                    · exact hle.2.1 e0
                    · have := hle.2.2 e0; omega
                  subst h0
                  simp
                | some vm =>
                  obtain ⟨um, rfl, hum⟩ := hmx.some
                  cases hi with
                  | none => simp at hmh
                  | some vh =>
                    obtain ⟨uh, rfl, huh⟩ := hhi.some
                    have hm0 : m = 0 := by have := (bnd_le hm).2 (by simp); omega
                    subst hm0
                    have hr := bounds3_run (Y := Y) (len := 0) hm hb hlo huh hum (Nat.le_refl 0) true w
                    rw [run none 0 0 l hh 0 w hr]
                    have h0 : hh = 0 := by have := hle.2.2 (by simp); omega
                    subst h0
                    simp
            · cases h
          · cases h
        · cases h
      · rename_i id o len c k
        split at h
        · rename_i hks
          subst hks
          cases hv with
          | sls _ _ _ _ _ y cap' hid hl hc ha hn hkk =>
            have hcl : c.getD len ≤ cap' := by
              cases c with
              | none => simpa using hl
              | some c => have := hc c rfl; simp; omega
            cases mx with
            | none =>
              have := hmx.none
              subst this
              simp only at h
              split at h
              · rename_i x q hb
                simp at h; subst h
                have hle := bounds_le hb
                have hq : q ≤ cap' := by
                  by_cases e0 : hi = none
                  · rw [hle.2.1 e0]; exact hl
                  · have := hle.2.2 e0; omega
                refine ⟨_, ?_, fun w => run (some y) len cap' x q cap' w (bounds_run (Y := Y) hb hlo hhi hcl rfl true w)⟩
                have hsome : (if cap' = x then some y else (some y).map (·.add (x * te.size))) = some (if cap' = x then y else y.add (x * te.size)) := by split <;> rfl
                rw [hsome]
                refine .sls id (o + x * te.size) (q - x) (c.map (· - x)) te.size _ (cap' - x) hid (by omega) (fun c' hc' => ?_) (fun hv hp => ?_) (fun hv hcn => ?_) (fun hv => ?_)
                · cases c with
                  | none => simp at hc'
                  | some c => have := hc c rfl; simp at hc'; omega
                · rw [if_neg (by omega), ha hv (by omega)]; unfold Vw.at; rw [add_at, Nat.add_assoc]
                · cases c with
                  | none =>
                    have := hn hv rfl
                    have hx : x * te.size + (cap' - x) * te.size = cap' * te.size := by rw [← Nat.add_mul]; congr 1; omega
                    omega
                  | some c => simp at hcn
                · have := hkk hv
                  have hx : x * te.size + (cap' - x) * te.size = cap' * te.size := by rw [← Nat.add_mul]; congr 1; omega
                  omega
              · cases h
            | some vm =>
              obtain ⟨um, rfl, hum⟩ := hmx.some
              simp only at h
              split at h
              · rename_i m hm
                cases hi with
                | none => simp at h
                | some vh =>
                  obtain ⟨uh, rfl, huh⟩ := hhi.some
                  simp only [Option.isNone_some, Bool.false_eq_true, if_false] at h
                  split at h
                  · rename_i x q hb
                    simp at h; subst h
                    have hle := bounds_le hb
                    have hml : m ≤ cap' := by have := (bnd_le hm).2 (by simp); omega
                    have hq : q ≤ m := hle.2.2 (by simp)
                    refine ⟨_, ?_, fun w => run (some y) len cap' x q m w (bounds3_run (Y := Y) hm hb hlo huh hum hcl true w)⟩
                    have hsome : (if m = x then some y else (some y).map (·.add (x * te.size))) = some (if m = x then y else y.add (x * te.size)) := by split <;> rfl
                    rw [hsome]
                    refine .sls id (o + x * te.size) (q - x) (some (m - x)) te.size _ (m - x) hid (by omega) (fun c' hc' => by simp at hc'; exact hc'.symm ▸ rfl) (fun hv hp => ?_) (fun hv hcn => nomatch hcn) (fun hv => ?_)
                    · rw [if_neg (by omega), ha hv (by omega)]; unfold Vw.at; rw [add_at, Nat.add_assoc]
                    · have := hkk hv
                      have hx : x * te.size + (m - x) * te.size = m * te.size := by rw [← Nat.add_mul]; congr 1; omega
                      have hy : m * te.size ≤ cap' * te.size := Nat.mul_le_mul_right _ hml
                      omega
                  · cases h
              · cases h
        · cases h
      · rename_i cs len c
        -- read-only
        have build : ∀ (y : Addr) (cap' x q m : Nat) (c' : Option Nat), x ≤ q → q ≤ m → (∀ k, c' = some k → m - x = k) → VR W (.ts cs len c) (.slice (some y) len cap') →
            VR W (.ts ((cs.drop (x * te.size)).take ((q - x) * te.size)) (q - x) c') (.slice (some (if m = x then y else y.add (x * te.size))) (q - x) (m - x)) := by
          intro y cap' x q m c' hxq hqm hc' hvr
          by_cases hmx : m = x
          · have : q = x := by omega
            subst this
            simp only [Nat.sub_self, Nat.zero_mul, List.take_zero]
            exact .tsn 0 c' _ _ (by omega) (fun k hk => by rw [← hc' k hk])
          · rw [if_neg hmx]
            cases hvr with
            | tsn _ _ _ _ hl hc => simp; exact .tsn _ _ _ _ (by omega) (fun k hk => hc' k hk)
            | ts _ _ _ _ blk off cc et fr us hl hcap hs hcc hr =>
              rw [add_at]
              refine .ts _ _ _ _ blk (off + x * te.size) cc et fr ((us.drop (x * te.size)).take ((q - x) * te.size)) (by omega) (fun k hk => hc' k hk) hs (fun j u hj => ?_) ((hr.drop _).take _)
              rw [List.getElem?_take] at hj
              split at hj
              · rw [List.getElem?_drop] at hj
                rw [Nat.add_assoc]; exact hcc _ _ hj
              · cases hj
        by_cases hnz : u = .slice none 0 0
        · have hlen : len = 0 ∧ cs = [] ∧ ∀ k, c = some k → k = 0 := by
            subst hnz
            cases hv with
            | tsz _ hc => exact ⟨rfl, rfl, hc⟩
          obtain ⟨rfl, rfl, hc0⟩ := hlen
          subst hnz
          cases mx with
          | none =>
            have := hmx.none
            subst this
            simp only at h
            split at h
            · rename_i x q hb
              simp at h; subst h
              have hle := bounds_le hb
              have hq : q = 0 := by
                by_cases e0 : hi = none
                · exact hle.2.1 e0
                · have := hle.2.2 e0; omega
              subst hq
              have hx : x = 0 := by omega
              subst hx
              refine ⟨_, .tsz _ (fun k hk => ?_), fun w => ?_⟩
              · cases c with
                | none => simp at hk
                | some k' => have := hc0 k' rfl; simp at hk; omega
              · rw [run none 0 0 0 0 0 w (bounds_run (Y := Y) hb hlo hhi (Nat.le_refl 0) rfl true w)]
                simp
            · cases h
          | some vm =>
            obtain ⟨um, rfl, hum⟩ := hmx.some
            simp only at h
            split at h
            · rename_i m hm
              cases hi with
              | none => simp at h
              | some vh =>
                obtain ⟨uh, rfl, huh⟩ := hhi.some
                simp only [Option.isNone_some, Bool.false_eq_true, if_false] at h
                split at h
                · rename_i x q hb
                  simp at h; subst h
                  have hle := bounds_le hb
                  have hm0 : m = 0 := by have := (bnd_le hm).2 (by simp); omega
                  subst hm0
                  have hq : q = 0 := by have := hle.2.2 (by simp); omega
                  subst hq
                  have hx : x = 0 := by omega
                  subst hx
                  refine ⟨_, .tsz _ (fun k hk => by simpa using hk.symm), fun w => ?_⟩
                  rw [run none 0 0 0 0 0 w (bounds3_run (Y := Y) (len := 0) hm hb hlo huh hum (Nat.le_refl 0) true w)]
                  simp
                · cases h
            · cases h
        have shape : ∃ y cap', u = .slice (some y) len cap' ∧ len ≤ cap' ∧ (∀ k, c = some k → cap' = k) := by
          cases hv with
          | tsz _ _ => exact absurd rfl hnz
          | tsn _ _ y cap' hl hc => exact ⟨y, cap', rfl, hl, hc⟩
          | ts _ _ _ cap' blk off cc et fr us hl hcap hs hcc hr => exact ⟨_, cap', rfl, hl, hcap⟩
        obtain ⟨y, cap', rfl, hl, hc⟩ := shape
        cases mx with
        | none =>
          have := hmx.none
          subst this
          simp only at h
          split at h
          · rename_i x q hb
            simp at h; subst h
            have hle := bounds_le hb
            have hq : q ≤ len := by
              by_cases e0 : hi = none
              · rw [hle.2.1 e0]; omega
              · exact hle.2.2 e0
            refine ⟨_, ?_, fun w => run (some y) len cap' x q cap' w (bounds_run (Y := Y) hb hlo hhi hl rfl true w)⟩
            have hsome : (if cap' = x then some y else (some y).map (·.add (x * te.size))) = some (if cap' = x then y else y.add (x * te.size)) := by split <;> rfl
            rw [hsome]
            refine build y cap' x q cap' (c.map (· - x)) hle.1 (by omega) (fun k hk => ?_) hv
            cases c with
            | none => simp at hk
            | some c => have := hc c rfl; simp at hk; omega
          · cases h
        | some vm =>
          obtain ⟨um, rfl, hum⟩ := hmx.some
          simp only at h
          split at h
          · rename_i m hm
            cases hi with
            | none => simp at h
            | some vh =>
              obtain ⟨uh, rfl, huh⟩ := hhi.some
              simp only [Option.isNone_some, Bool.false_eq_true, if_false] at h
              split at h
              · rename_i x q hb
                simp at h; subst h
                have hle := bounds_le hb
                have hq : q ≤ m := hle.2.2 (by simp)
                refine ⟨_, ?_, fun w => run (some y) len cap' x q m w (bounds3_run (Y := Y) hm hb hlo huh hum hl true w)⟩
                have hsome : (if m = x then some y else (some y).map (·.add (x * te.size))) = some (if m = x then y else y.add (x * te.size)) := by split <;> rfl
                rw [hsome]
                exact build y cap' x q m (some (m - x)) hle.1 hq (fun k hk => by simpa using hk) hv
              · cases h
          · cases h
      · cases h
  · cases h
end
end Go.Y

/- 'opQ': every operation that turns nothing. -/
namespace Go.Y
section
variable {Y : YP} {W : Vw} {σ : St} {a : Act} {w : World}

theorem execV {o : Oper} {ρ : Operand → Value} {s : Sem Value} {P : Program} {u : Value} {w : World} (he : execOp ρ o = (do pure (.value (← s)))) (h : s.run P w = .ok u w) :
    (execOp ρ o).run P w = .ok (.value u) w := by
  rw [he]
  show (s >>= fun x => pure (Next.value x)).run P w = _
  rw [Sem.run_bind, h]
  rfl

theorem bytes_ints : ∀ {cs : List V} {us : List Value} {l : List UInt8}, VRs W cs us → bytesOf cs = some l → ∃ ns : List Int, us = ns.map (Value.int .u8) ∧ l = ns.map fun n => UInt8.ofNat n.toNat
  | _, _, l, .nil, h => by simp [bytesOf] at h; subst h; exact ⟨[], rfl, rfl⟩
  | _, _, l, .cons v u cs us hv hs, h => by
    cases v with
    | i k n =>
      cases k with
      | u8 =>
        simp only [bytesOf, Option.map_eq_some_iff] at h
        obtain ⟨l', hl', rfl⟩ := h
        cases hv
        obtain ⟨ns, h1, h2⟩ := bytes_ints hs hl'
        exact ⟨n :: ns, by simp [h1], by simp [h2]⟩
      | _ => simp [bytesOf] at h
    | _ => simp [bytesOf] at h

theorem foldInt_ok {op : Int → Int → Int} {f : Value → Value → Sem Value} (hf : ∀ k x y, f (.int k x) (.int k y) = pure (.int k (op x y))) :
    ∀ {vs : List V} {us : List Value} {k : IntKind} {m : Int} {r : V}, VRs W vs us → foldIntA op k m vs = some r → ∃ u, VR W r u ∧ ∀ w, (us.foldlM f (.int k m) : Sem Value).run Y.P w = .ok u w
  | _, _, k, m, r, .nil, h => by simp [foldIntA] at h; subst h; exact ⟨_, .i _ _, fun w => rfl⟩
  | _, _, k, m, r, .cons v u vs us hv hs, h => by
    cases v <;> simp only [foldIntA, reduceCtorEq] at h
    split at h
    · rename_i hk; subst hk
      cases hv
      obtain ⟨u', h1, h2⟩ := foldInt_ok hf hs h
      exact ⟨u', h1, fun w => by simp only [List.foldlM_cons, hf, Sem.run_bind, Sem.run_pure, Result.andThen_ok, h2]⟩
    · cases h

theorem Rel.evs (h : Rel W σ a w) : ∀ (xs : List Operand), VRs W (xs.map (Go.Y.ev σ.env)) (xs.map a.eval)
  | [] => .nil
  | x :: xs => .cons _ _ _ _ (h.ev x) (h.evs xs)

theorem Rel.evo (h : Rel W σ a w) (x : Option Operand) : OR W (x.map (Go.Y.ev σ.env)) (x.map a.eval) := by
  cases x with
  | none => trivial
  | some x => exact h.ev x

theorem elemsS_ok (h : Rel W σ a w) {k n : Nat} {v : V} {l : List V} (he : elemsS σ k v = some (n, l)) {u : Value} (hv : VR W v u) :
    ∃ us, VRs W l us ∧ us.length = n * k ∧ ((u = .slice none 0 0 ∧ n = 0) ∨ ∃ y cap, u = .slice (some y) n cap ∧ n ≤ cap ∧ CellsW w y us) := by
  unfold elemsS at he
  split at he
  · split at he
    · rename_i hn; subst hn
      simp at he; obtain ⟨rfl, rfl⟩ := he
      cases hv
      exact ⟨[], .nil, by simp, .inl ⟨rfl, rfl⟩⟩
    · cases he
  · rename_i id o len cap k'
    split at he
    · rename_i hk; subst hk
      simp only [Option.map_eq_some_iff] at he
      obtain ⟨l', hl, he⟩ := he
      simp at he; obtain ⟨rfl, rfl⟩ := he
      cases hv with
      | sls _ _ _ _ _ y cap' hid hlc hc ha hn hk =>
        by_cases hz : len * k' = 0
        · have hnil : l' = [] := by
            rw [hz] at hl
            simp only [cellsAt] at hl
            split at hl
            · simpa [takeX] using hl.symm
            · cases hl
          subst hnil
          exact ⟨[], .nil, by simp [hz], .inr ⟨y, cap', rfl, hlc, fun j u hj => by simp at hj⟩⟩
        · have hpos : 0 < cap' := by
            rcases Nat.eq_zero_or_pos len with h0 | h0
            · simp [h0] at hz
            · omega
          obtain ⟨us, h1, h2, h3⟩ := cellsAt_ok (W := W) (σ := σ) (a := a) (w := w) h (ad := .hp id o) (y := y) ⟨hid, fun hv => ha hv hpos⟩ hl
          exact ⟨us, h1, h2, .inr ⟨y, cap', rfl, hlc, h3⟩⟩
    · cases he
  · rename_i cs len cap
    simp only [Option.map_eq_some_iff] at he
    obtain ⟨l', hl, he⟩ := he
    simp at he; obtain ⟨rfl, rfl⟩ := he
    cases hv with
    | tsz _ hc =>
      have hl0 : l' = [] := by simpa [takeX] using hl.symm
      subst hl0
      exact ⟨[], .nil, by simp, .inl ⟨rfl, rfl⟩⟩
    | tsn _ _ y cap' hlc hc =>
      obtain ⟨us, h1, h2, h3⟩ := cellsAt_ok (W := W) (σ := σ) (a := a) (w := w) h (ad := .ro []) (y := y) (.inl rfl) hl
      exact ⟨us, h1, h2, .inr ⟨y, cap', rfl, hlc, h3⟩⟩
    | ts _ _ _ cap' blk off cc et fr us hlc hcap hs hcc hr =>
      obtain ⟨us, h1, h2, h3⟩ := cellsAt_ok (W := W) (σ := σ) (a := a) (w := w) h (ad := .ro cs) (y := ⟨blk, off, none⟩) (.inr ⟨blk, off, cc, et, fr, us, rfl, hs, hcc, hr⟩) hl
      exact ⟨us, h1, h2, .inr ⟨_, cap', rfl, hlc, h3⟩⟩
  · cases he

theorem foldl_push (ns : List Int) : ∀ s : ByteArray, ns.foldl (fun r n => r.push (UInt8.ofNat n.toNat)) s = ⟨(s.data.toList ++ ns.map fun n => UInt8.ofNat n.toNat).toArray⟩ := by
  induction ns with
  | nil => intro s; simp
  | cons n ns ih =>
    intro s
    simp only [List.foldl_cons, ih]
    apply ByteArray.ext
    simp [ByteArray.push]

theorem map_run {r : Nat} {m : Array MapEntry} {clock : Nat} (h : w.heap[r]? = some (.map m clock)) : (getObj r).run Y.P w = .ok (.map m clock) w := by simp [getObj, Sem.run, h]

theorem partY_ok {ti : TI} {t : TypeId} {i : TypeInfo} {d : TypeDesc} {z : Value} (ht : TIOK Y t ti i d z) {xs l : List V} {us : List Value} (hr : VRs W xs us) {off : Nat}
    (hl : takeX ti.size (xs.drop off) = some l) {v : V} (hv : ofCells ti.kd.agg l = some v) : ∃ u, VR W v u ∧ ∀ w, (part t us.toArray off).run Y.P w = .ok u w := by
  obtain ⟨us', u, h1, h2, h3⟩ := part_ok ht hr hl
  obtain ⟨u', hu', he'⟩ := ofCells_ok h1 hv
  have huu : u = u' := by
    cases hag : ti.kd.agg <;> simp only [hag, Bool.false_eq_true, if_false, if_true] at h3 he'
    · rw [h3] at he'; simpa using he'
    · rw [h3, he']
  subst huu
  exact ⟨u, hu', h2⟩

set_option maxHeartbeats 1000000 in
theorem opQ_ok (hY : YOK Y) (h : Rel W σ a w) {o : Oper} {q : Q} (hq : opQ Y σ o = some q) :
    ∃ u, QR W σ a q u ∧ ∀ w', Same w w' → (execOp a.eval o).run Y.P w' = .ok (.value u) w' := by
  have mk : ∀ {s : Sem Value} {v : V}, execOp a.eval o = (do pure (.value (← s))) → (∃ u, VR W v u ∧ ∀ w', Same w w' → s.run Y.P w' = .ok u w') →
      ∃ u, QR W σ a (.val v) u ∧ ∀ w', Same w w' → (execOp a.eval o).run Y.P w' = .ok (.value u) w' := by
    rintro s v he ⟨u, h1, h2⟩
    exact ⟨u, h1, fun w' hw' => execV he (h2 w' hw')⟩
  cases hop : o.op with
  | move x => simp only [opQ, hop, Option.some.injEq] at hq; subst hq; exact ⟨_, h.ev x, fun w' _ => by simp [execOp, hop]⟩
  | assign x => simp only [opQ, hop, Option.some.injEq] at hq; subst hq; exact ⟨_, h.ev x, fun w' _ => by simp [execOp, hop]⟩
  | pick c x y =>
    simp only [opQ, hop] at hq
    split at hq
    · rename_i b hb
      simp at hq; subst hq
      have hc := h.ev c
      rw [hb] at hc
      generalize he : a.eval c = uc at hc
      cases hc
      refine ⟨if b then a.eval x else a.eval y, ?_, fun w' _ => by simp [execOp, hop, he, asBool]⟩
      cases b
      · exact h.ev y
      · exact h.ev x
    · cases hq
  | nilCheck x =>
    simp only [opQ, hop] at hq
    have hx := h.ev x
    split at hq
    · rename_i p hp
      simp at hq; subst hq
      rw [hp] at hx
      generalize he : a.eval x = ux at hx
      cases hx with
      | ps id off y hid ha => exact ⟨_, .ps id off y hid ha, fun w' _ => by simp [execOp, hop, he]⟩
    · rename_i cs hp
      simp at hq; subst hq
      rw [hp] at hx
      generalize he : a.eval x = ux at hx
      cases hx with
      | tpn y => exact ⟨_, .tpn y, fun w' _ => by simp [execOp, hop, he]⟩
      | tp _ blk off c e fr us hs hc hr => exact ⟨_, .tp cs blk off c e fr us hs hc hr, fun w' _ => by simp [execOp, hop, he]⟩
    · rename_i f fa fc hp
      simp at hq; subst hq
      rw [hp] at hx
      generalize he : a.eval x = ux at hx
      cases hx with
      | fn _ _ _ ua uc ha hc => exact ⟨_, .fn _ _ _ ua uc ha hc, fun w' _ => by simp [execOp, hop, he]⟩
    · split at hq
      · rename_i s off had
        simp at hq; subst hq
        obtain ⟨y, hy, b, hb, rfl⟩ := addr_ok h had
        exact ⟨_, ⟨b, hb, rfl⟩, fun w' _ => by simp [execOp, hop, hy]⟩
      · cases hq
    · cases hq
  | binOp op t x y yt =>
    simp only [opQ, hop, Option.map_eq_some_iff] at hq
    obtain ⟨v, hv, rfl⟩ := hq
    obtain ⟨u, h1, h2⟩ := binY_ok hY hv (h.ev x) (h.ev y)
    exact mk (by simp only [execOp, hop]) ⟨u, h1, fun w' _ => h2 w'⟩
  | unOp op t x =>
    simp only [opQ, hop, Option.map_eq_some_iff] at hq
    obtain ⟨v, hv, rfl⟩ := hq
    obtain ⟨u, h1, h2⟩ := unY_ok (Y := Y) hv (h.ev x)
    exact mk (by simp only [execOp, hop]) ⟨u, h1, fun w' _ => h2 w'⟩
  | makeFunc f fa fc =>
    simp only [opQ, hop, Option.some.injEq] at hq; subst hq
    refine ⟨.func f (fa.map a.eval) (fc.map a.eval), ?_, fun w' _ => by simp [execOp, hop, Instr.makeFunc]⟩
    have := VR.fn (W := W) f _ _ _ _ (h.evs fa.toList) (h.evs fc.toList)
    have e1 : (fa.toList.map a.eval).toArray = fa.map a.eval := by apply Array.ext'; simp
    have e2 : (fc.toList.map a.eval).toArray = fc.map a.eval := by apply Array.ext'; simp
    rw [e1, e2] at this
    exact this
  | makeInterface t x =>
    simp only [opQ, hop] at hq
    split at hq
    · cases hq
    · rename_i kd hnk hk
      simp at hq; subst hq
      obtain ⟨ti, hti, hk'⟩ := kd_of hk
      obtain ⟨i, d, z, ht⟩ := hY.ty t ti hti
      refine mk (v := .ifc t (ev σ.env x)) (s := Instr.makeInterface t (a.eval x)) (by simp only [execOp, hop]) ⟨.iface t (a.eval x), .ifc t _ _ (h.ev x), fun w' _ => ?_⟩
      have hkd := ht.kd
      have hni : ∀ ms, d ≠ .interface ms := by
        intro ms hd
        subst hd
        rw [hk'] at hkd
        cases kd <;> simp [KdOK] at hkd
        exact hnk rfl
      simp only [Instr.makeInterface, Sem.run_bind, run_underlying' ht.und, Result.andThen_ok]
      cases d <;> first | rfl | exact absurd rfl (hni _)
    · cases hq
  | build t parts =>
    simp only [opQ, hop] at hq
    split at hq
    · rename_i ti hti
      obtain ⟨i, d, z, ht⟩ := hY.ty t ti hti
      split at hq
      · rename_i fs hk
        have hkd := ht.kd
        rw [hk] at hkd
        obtain ⟨l, rfl, hfs, _⟩ := hkd
        split at hq
        · rename_i hall
          simp only [Option.map_eq_some_iff] at hq
          obtain ⟨_, ⟨r, hr, rfl⟩, rfl⟩ := hq
          obtain ⟨us, h1, h2⟩ := fill_ok h parts.toList _ _ _ (ht.zr W) hr
          refine mk (s := Instr.build t (parts.map fun p => (p.1, a.eval p.2))) (by simp only [execOp, hop]) ⟨_, .agg _ _ h1, fun w' _ => ?_⟩
          have hplaces : ∀ w, (l.mapM (fun f : Field => do pure (f.offset, ← sizeOf f.type) : Field → Sem (Nat × Nat))).run Y.P w = .ok (l.map fun f => (f.offset, ((Y.ty f.type).map (·.size)).getD 0)) w := by
            intro w
            rw [Array.mapM_eq_mapM_toList]
            have key : ∀ (fl : List Field), (∀ f ∈ fl, (Y.ty f.type).isSome = true) →
                (fl.mapM (fun f : Field => do pure (f.offset, ← sizeOf f.type) : Field → Sem (Nat × Nat))).run Y.P w = .ok (fl.map fun f => (f.offset, ((Y.ty f.type).map (·.size)).getD 0)) w := by
              intro fl
              induction fl with
              | nil => intro _; simp
              | cons f fl ih =>
                intro hf
                obtain ⟨tf, htf⟩ := Option.isSome_iff_exists.1 (hf f (by simp))
                obtain ⟨fi, fd, fz, hft⟩ := hY.ty _ tf htf
                simp only [List.mapM_cons, Sem.run_bind, run_sizeOf hft.info, Sem.run_pure, Result.andThen_ok, ih (fun g hg => hf g (by simp [hg])), List.map_cons, htf, Option.map_some, Option.getD_some, hft.size]
            have := key l.toList (fun f hf => by
              have := List.all_eq_true.1 hall (f.offset, f.type) (by rw [hfs]; exact List.mem_map.2 ⟨f, hf, rfl⟩)
              exact this)
            rw [Sem.run_map, this]
            simp only [Result.andThen_ok]
            congr 1
            apply Array.ext'
            simp
          have hz := ht.zero
          simp only [Instr.build, Sem.run_bind, run_zeroValue ht.info ht.zero, run_underlying' ht.und, Result.andThen_ok, hplaces]
          have hpl : ∀ j, (l.map fun f => (f.offset, ((Y.ty f.type).map (·.size)).getD 0))[j]? = placeS Y fs j := by
            intro j
            rw [hfs]
            unfold placeS
            rw [List.getElem?_map, Array.getElem?_map, Array.getElem?_toList]
            cases hj : l[j]? with
            | none => rfl
            | some f =>
              have hf := List.all_eq_true.1 hall (f.offset, f.type) (by rw [hfs]; exact List.mem_map.2 ⟨f, by simpa using Array.mem_of_getElem? hj, rfl⟩)
              obtain ⟨tf, htf⟩ := Option.isSome_iff_exists.1 hf
              simp [htf]
          have hfun : (fun x => (l.map fun f => (f.offset, ((Y.ty f.type).map (·.size)).getD 0))[x]?) = placeS Y fs := funext hpl
          have hzt : z.cells = z.cells.toList.toArray := by simp
          rw [hfun, hzt]
          have hpt : (parts.map fun p => (p.1, a.eval p.2)).toList = parts.toList.map fun p => (p.1, a.eval p.2) := by simp
          rw [hpt, h2]
          rfl
        · cases hq
      · rename_i n et hk
        have hkd := ht.kd
        rw [hk] at hkd
        obtain ⟨rfl, _⟩ := hkd
        split at hq
        · rename_i tf htf
          obtain ⟨fi, fd, fz, hft⟩ := hY.ty et tf htf
          simp only [Option.map_eq_some_iff] at hq
          obtain ⟨_, ⟨r, hr, rfl⟩, rfl⟩ := hq
          obtain ⟨us, h1, h2⟩ := fill_ok h parts.toList _ _ _ (ht.zr W) hr
          refine mk (s := Instr.build t (parts.map fun p => (p.1, a.eval p.2))) (by simp only [execOp, hop]) ⟨_, .agg _ _ h1, fun w' _ => ?_⟩
          simp only [Instr.build, Sem.run_bind, run_zeroValue ht.info ht.zero, run_underlying' ht.und, Result.andThen_ok, run_sizeOf hft.info, hft.size]
          have hzt : z.cells = z.cells.toList.toArray := by simp
          have hpt : (parts.map fun p => (p.1, a.eval p.2)).toList = parts.toList.map fun p => (p.1, a.eval p.2) := by simp
          rw [hzt, hpt, h2]
          rfl
        · cases hq
      · cases hq
    · cases hq
  | load t x =>
    simp only [opQ, hop] at hq
    split at hq
    · rename_i ti ad hti had
      simp only [Option.map_eq_some_iff] at hq
      obtain ⟨v, hv, rfl⟩ := hq
      exact mk (by simp only [execOp, hop]) (load_ok hY h hti had hv)
    · cases hq
  | fieldAddr t x f =>
    simp only [opQ, hop, Option.map_eq_some_iff] at hq
    obtain ⟨ad, had, rfl⟩ := hq
    obtain ⟨y, h1, h2⟩ := fieldA_ok hY h had
    exact ⟨_, h1.qr, fun w' hw' => execV (by simp only [execOp, hop]) (h2 w' hw')⟩
  | indexAddr t x ix =>
    simp only [opQ, hop, Option.map_eq_some_iff] at hq
    obtain ⟨ad, had, rfl⟩ := hq
    obtain ⟨y, h1, h2⟩ := indexA_ok hY h had
    exact ⟨_, h1.qr, fun w' hw' => execV (by simp only [execOp, hop]) (h2 w' hw')⟩
  | field t x f =>
    simp only [opQ, hop] at hq
    split at hq
    · rename_i fs cs hfs hcs
      obtain ⟨l, hl, rfl⟩ := fieldsOf_ok hY hfs
      split at hq
      · rename_i off ft hg
        split at hq
        · rename_i tf htf
          simp only [Option.map_eq_some_iff] at hq
          obtain ⟨v, hv, rfl⟩ := hq
          obtain ⟨fi, fd, fz, hft⟩ := hY.ty ft tf htf
          rw [List.getElem?_map, Option.map_eq_some_iff] at hg
          obtain ⟨fl, hfl, hfe⟩ := hg
          simp at hfe
          obtain ⟨rfl, rfl⟩ := hfe
          have hfl' : l[f]? = some fl := by simpa using hfl
          have hx := h.ev x
          rw [hcs] at hx
          generalize he : a.eval x = ux at hx
          cases hx with
          | agg _ us hr =>
            unfold partY at hv
            split at hv
            · rename_i l' hl'
              obtain ⟨u, hu, hp⟩ := partY_ok hft hr hl' hv
              exact mk (s := Instr.field t (.agg us.toArray) f) (by simp only [execOp, hop, he]) ⟨u, hu, fun w' _ => by
                simp only [Instr.field, Sem.run_bind, run_underlying' hl, Result.andThen_ok, hfl', asAgg, Sem.run_pure, hp]⟩
            · cases hv
        · cases hq
      · cases hq
    · cases hq
  | index t x ix =>
    simp only [opQ, hop] at hq
    have hx := h.ev x
    have hix := h.ev ix
    split at hq
    · rename_i l k i hk hxv hiv
      obtain ⟨ti, hti, hk'⟩ := kd_of hk
      obtain ⟨inf, d, z, ht⟩ := hY.ty t ti hti
      have hkd := ht.kd
      rw [hk'] at hkd
      cases hkd
      rw [hxv] at hx
      rw [hiv] at hix
      generalize he : a.eval x = ux at hx
      generalize hei : a.eval ix = ui at hix
      cases hx; cases hix
      split at hq
      · rename_i h0
        simp only [Option.map_eq_some_iff] at hq
        obtain ⟨_, ⟨c, hc, rfl⟩, rfl⟩ := hq
        refine mk (s := Instr.index t (.string ⟨l.toArray⟩) (.int k i)) (by simp only [execOp, hop, he, hei]) ⟨_, .i _ _, fun w' _ => ?_⟩
        have hg : (⟨l.toArray⟩ : ByteArray)[i.toNat]? = some c := by
          rw [List.getElem?_eq_some_iff] at hc
          obtain ⟨hlt, hc⟩ := hc
          rw [getElem?_pos _ _ (by exact hlt)]
          simp [← hc]
          rfl
        simp only [Instr.index, asIntOf, Sem.run_bind, Sem.run_pure, run_underlying' ht.und, Result.andThen_ok, h0, if_true, hg]
      · cases hq
    · rename_i n et cs k i hk hxv hiv
      obtain ⟨ti, hti, hk'⟩ := kd_of hk
      obtain ⟨inf, d, z, ht⟩ := hY.ty t ti hti
      have hkd := ht.kd
      rw [hk'] at hkd
      obtain ⟨rfl, _⟩ := hkd
      rw [hxv] at hx
      rw [hiv] at hix
      generalize he : a.eval x = ux at hx
      generalize hei : a.eval ix = ui at hix
      cases hix
      cases hx with
      | agg _ us hr =>
        split at hq
        · rename_i hin
          split at hq
          · rename_i tf htf
            obtain ⟨fi, fd, fz, hft⟩ := hY.ty et tf htf
            simp only [Option.map_eq_some_iff] at hq
            obtain ⟨v, hv, rfl⟩ := hq
            unfold partY at hv
            split at hv
            · rename_i l' hl'
              obtain ⟨u, hu, hp⟩ := partY_ok hft hr hl' hv
              exact mk (s := Instr.index t (.agg us.toArray) (.int k i)) (by simp only [execOp, hop, he, hei]) ⟨u, hu, fun w' _ => by
                simp only [Instr.index, asIntOf, Sem.run_bind, Sem.run_pure, run_underlying' ht.und, Result.andThen_ok, Sem.run_ite]
                rw [if_pos hin]
                simp only [run_sizeOf hft.info, Result.andThen_ok, hft.size, hp]⟩
            · cases hv
          · cases hq
        · cases hq
    · cases hq
  | extract t ix =>
    simp only [opQ, hop] at hq
    split at hq
    · rename_i vs hvs
      simp only [Option.map_eq_some_iff] at hq
      obtain ⟨v, hv, rfl⟩ := hq
      have ht := h.ev t
      rw [hvs] at ht
      generalize he : a.eval t = ut at ht
      cases ht with
      | tup _ us hr =>
        obtain ⟨u, hu, hvu⟩ := hr.get hv
        exact mk (s := Instr.extract (.tuple us.toArray) ix) (by simp only [execOp, hop, he]) ⟨u, hvu, fun w' _ => by simp [Instr.extract, hu]⟩
    · cases hq
  | slice t x lo hi mx =>
    simp only [opQ, hop, Option.map_eq_some_iff] at hq
    obtain ⟨v, hv, rfl⟩ := hq
    obtain ⟨u, h1, h2⟩ := slice_ok hY hv (h.ev x) (h.evo lo) (h.evo hi) (h.evo mx)
    exact mk (by simp only [execOp, hop]) ⟨u, h1, fun w' _ => h2 w'⟩
  | convert src dst x =>
    simp only [opQ, hop] at hq
    have hx := h.ev x
    split at hq
    · rename_i kd k k' n hks hkd hxv
      simp at hq; subst hq
      obtain ⟨ts, hts, hks'⟩ := kd_of hks
      obtain ⟨is, ds, zs, hs⟩ := hY.ty src ts hts
      obtain ⟨td, htd, hkd'⟩ := kd_of hkd
      obtain ⟨id, dd, zd, hd⟩ := hY.ty dst td htd
      have hdk := hd.kd
      rw [hkd'] at hdk
      cases hdk
      rw [hxv] at hx
      generalize he : a.eval x = ux at hx
      cases hx
      refine mk (s := convert src dst (.int k' n)) (by simp only [execOp, hop, he]) ⟨_, .i _ _, fun w' _ => ?_⟩
      simp [convert, run_underlying' hs.und, run_underlying' hd.und, Conv.intToInt]
    · rename_i l hks hkd hxv
      simp at hq; subst hq
      obtain ⟨ts, hts, hks'⟩ := kd_of hks
      obtain ⟨is, ds, zs, hs⟩ := hY.ty src ts hts
      obtain ⟨td, htd, hkd'⟩ := kd_of hkd
      obtain ⟨id, dd, zd, hd⟩ := hY.ty dst td htd
      have hdk := hd.kd
      have hsk := hs.kd
      rw [hkd'] at hdk
      rw [hks'] at hsk
      cases hdk; cases hsk
      rw [hxv] at hx
      generalize he : a.eval x = ux at hx
      cases hx
      refine mk (s := convert src dst (.string ⟨l.toArray⟩)) (by simp only [execOp, hop, he]) ⟨_, .s _, fun w' _ => ?_⟩
      simp [convert, run_underlying' hs.und, run_underlying' hd.und]
    · rename_i et hks hkd
      split at hq
      · rename_i hke
        simp only [Option.map_eq_some_iff] at hq
        obtain ⟨_, ⟨l, hl, rfl⟩, rfl⟩ := hq
        obtain ⟨⟨n, cs⟩, hel, hb⟩ := Option.bind_eq_some_iff.1 hl
        obtain ⟨ts, hts, hks'⟩ := kd_of hks
        obtain ⟨is, ds, zs, hs⟩ := hY.ty src ts hts
        obtain ⟨td, htd, hkd'⟩ := kd_of hkd
        obtain ⟨id, dd, zd, hd⟩ := hY.ty dst td htd
        obtain ⟨te, hte, hke'⟩ := kd_of hke
        obtain ⟨ie, de, ze, hee⟩ := hY.ty et te hte
        have hdk := hd.kd
        have hsk := hs.kd
        have hek := hee.kd
        rw [hkd'] at hdk
        rw [hks'] at hsk
        rw [hke'] at hek
        cases hdk; cases hsk; cases hek
        obtain ⟨us, h1, h2, h3⟩ := elemsS_ok h hel hx
        obtain ⟨ns, rfl, rfl⟩ := bytes_ints h1 hb
        have conv : ∀ (x : Value) w', (∃ y c, x = .slice (some y) n c) ∨ x = .slice none 0 0 → (convert src dst x).run Y.P w' = (Conv.bytesToString x).run Y.P w' := by
          intro x w' hx
          rcases hx with ⟨y, c, rfl⟩ | rfl <;> simp [convert, run_underlying' hs.und, run_underlying' hd.und, run_underlying' hee.und]
        refine mk (s := convert src dst (a.eval x)) (by simp only [execOp, hop]) ⟨_, .s _, fun w' hw' => ?_⟩
        rcases h3 with ⟨hu, rfl⟩ | ⟨y, cap, hu, hle, hc⟩
        · rw [hu, conv _ _ (.inr rfl)]
          simp at h2
          subst h2
          rfl
        · rw [hu, conv _ _ (.inl ⟨y, cap, rfl⟩)]
          have hlen : n = (ns.map (Value.int .u8)).length := by rw [h2]; simp
          have hrun : (loadCells y n).run Y.P w' = .ok (ns.map (Value.int .u8)).toArray w' := by
            rw [hlen]; exact run_loadCells_list w' y _ (hc.same hw')
          rw [run_bytesToString w' y n cap ns hrun, foldl_push]
          simp
      · cases hq
    · cases hq
  | call c =>
    obtain ⟨callee, args, argTypes⟩ := c
    cases callee with
    | value f => simp [opQ, hop] at hq
    | invoke r m => simp [opQ, hop] at hq
    | builtin b =>
      have hres : ∀ (b : Builtin) w', (resolve a.eval ⟨.builtin b, args, argTypes⟩ o.type).run Y.P w' = .ok { target := .builtin b argTypes o.type (args.map fun | .const _ => true | _ => false), args := args.map a.eval } w' := fun b w' => rfl
      cases b with
      | len =>
        simp only [opQ, hop] at hq
        split at hq
        · rename_i t x hat har
          have hat' : argTypes = #[t] := by apply Array.ext'; simpa using hat
          have har' : args = #[x] := by apply Array.ext'; simpa using har
          subst hat' har'
          have hx := h.ev x
          have fin : ∀ {v : V} {u : Value}, VR W v u → (∀ w', Same w w' → (Builtin.len_ #[t] o.type #[a.eval x]).run Y.P w' = .ok u w') →
              ∃ u, QR W σ a (.val v) u ∧ ∀ w', Same w w' → (execOp a.eval o).run Y.P w' = .ok (.value u) w' := by
            intro v u hv hr
            refine ⟨u, hv, fun w' hw' => ?_⟩
            have e1 := hres .len w'
            have e2 := hr w' hw'
            simp only [execOp, hop, Sem.run_bind, e1, Result.andThen_ok, invoke, builtin]
            have e3 : (#[x].map a.eval) = #[a.eval x] := by simp
            rw [e3]
            simp only [e2, Result.andThen_ok, Sem.run_pure]
          have kdt : ∀ {kd}, Y.kd t = some kd → ∃ d, Y.P.underlying t = some d ∧ KdOK Y t kd d := by
            intro kd hk
            obtain ⟨ti, hti, hk'⟩ := kd_of hk
            obtain ⟨i, d, z, ht⟩ := hY.ty t ti hti
            exact ⟨d, ht.und, hk' ▸ ht.kd⟩
          split at hq
          · rename_i l hk hxv
            simp at hq; subst hq
            obtain ⟨d, hd, hkd⟩ := kdt hk
            cases hkd
            rw [hxv] at hx
            generalize a.eval x = ux at hx fin
            cases hx
            exact fin (.i .i64 _) (fun w' _ => by simp only [Builtin.len_]; simp [run_underlying' hd, goInt]; rfl)
          · rename_i e q n c k hk hxv
            simp at hq; subst hq
            obtain ⟨d, hd, hkd⟩ := kdt hk
            cases hkd
            rw [hxv] at hx
            generalize a.eval x = ux at hx fin
            cases hx
            · exact fin (.i .i64 _) (fun w' _ => by simp [Builtin.len_, run_underlying' hd, goInt])
            · exact fin (.i .i64 _) (fun w' _ => by simp [Builtin.len_, run_underlying' hd, goInt])
          · rename_i e cs n c hk hxv
            simp at hq; subst hq
            obtain ⟨d, hd, hkd⟩ := kdt hk
            cases hkd
            rw [hxv] at hx
            generalize a.eval x = ux at hx fin
            cases hx
            · exact fin (.i .i64 _) (fun w' _ => by simp [Builtin.len_, run_underlying' hd, goInt])
            · exact fin (.i .i64 _) (fun w' _ => by simp [Builtin.len_, run_underlying' hd, goInt])
            · exact fin (.i .i64 _) (fun w' _ => by simp [Builtin.len_, run_underlying' hd, goInt])
          · rename_i e1 e2 hk hxv
            simp at hq; subst hq
            obtain ⟨d, hd, hkd⟩ := kdt hk
            cases hkd
            rw [hxv] at hx
            generalize a.eval x = ux at hx fin
            cases hx
            exact fin (.i .i64 _) (fun w' _ => by simp [Builtin.len_, run_underlying' hd, goInt])
          · rename_i e1 e2 r hk hxv
            split at hq
            · rename_i es hes
              simp at hq; subst hq
              obtain ⟨d, hd, hkd⟩ := kdt hk
              cases hkd
              rw [hxv] at hx
              generalize a.eval x = ux at hx fin
              cases hx with
              | mps _ r' hid hr =>
                have hlv : W.lv r := (h.heap.lv r).2 (by simp [hes])
                obtain ⟨m, clock, hb, hk1, hk2⟩ := h.heap.obj r _ hes
                have hlen : (es.length : Int) = (m.size : Int) := by have := hk1.length; simp at this; omega
                refine fin (.i .i64 _) (fun w' hw' => ?_)
                have hrr := hr hlv
                subst hrr
                simp [Builtin.len_, run_underlying' hd, goInt, map_run (hw' _ _ hb), hlen]
            · cases hq
          · rename_i n e hk
            simp at hq; subst hq
            obtain ⟨d, hd, hkd⟩ := kdt hk
            obtain ⟨rfl, _⟩ := hkd
            exact fin (.i .i64 _) (fun w' _ => by simp [Builtin.len_, run_underlying' hd, goInt])
          · cases hq
        · cases hq
      | cap =>
        simp only [opQ, hop] at hq
        split at hq
        · rename_i t x hat har
          have hat' : argTypes = #[t] := by apply Array.ext'; simpa using hat
          have har' : args = #[x] := by apply Array.ext'; simpa using har
          subst hat' har'
          have hx := h.ev x
          have fin : ∀ {v : V} {u : Value}, VR W v u → (∀ w', Same w w' → (Builtin.cap_ #[t] o.type #[a.eval x]).run Y.P w' = .ok u w') →
              ∃ u, QR W σ a (.val v) u ∧ ∀ w', Same w w' → (execOp a.eval o).run Y.P w' = .ok (.value u) w' := by
            intro v u hv hr
            refine ⟨u, hv, fun w' hw' => ?_⟩
            have e1 := hres .cap w'
            have e2 := hr w' hw'
            simp only [execOp, hop, Sem.run_bind, e1, Result.andThen_ok, invoke, builtin]
            have e3 : (#[x].map a.eval) = #[a.eval x] := by simp
            rw [e3]
            simp only [e2, Result.andThen_ok, Sem.run_pure]
          have kdt : ∀ {kd}, Y.kd t = some kd → ∃ d, Y.P.underlying t = some d ∧ KdOK Y t kd d := by
            intro kd hk
            obtain ⟨ti, hti, hk'⟩ := kd_of hk
            obtain ⟨i, d, z, ht⟩ := hY.ty t ti hti
            exact ⟨d, ht.und, hk' ▸ ht.kd⟩
          split at hq
          · rename_i e n c k hk hxv
            simp at hq; subst hq
            obtain ⟨d, hd, hkd⟩ := kdt hk
            cases hkd
            rw [hxv] at hx
            generalize a.eval x = ux at hx fin
            cases hx
            exact fin (.i .i64 _) (fun w' _ => by simp [Builtin.cap_, run_underlying' hd, goInt])
          · rename_i e q n c k hk hxv
            simp at hq; subst hq
            obtain ⟨d, hd, hkd⟩ := kdt hk
            cases hkd
            rw [hxv] at hx
            generalize a.eval x = ux at hx fin
            cases hx with
            | sls _ _ _ _ _ a' cap' hid hl hc ha hn hk' =>
              have hcc := hc c rfl
              subst hcc
              exact fin (.i .i64 _) (fun w' _ => by simp [Builtin.cap_, run_underlying' hd, goInt])
          · cases hq
        · cases hq
      | max =>
        simp only [opQ, hop, Option.map_eq_some_iff] at hq
        obtain ⟨v, hv, rfl⟩ := hq
        have hr := h.evs args.toList
        generalize args.toList.map (ev σ.env) = vs at hr hv
        unfold foldInt at hv
        split at hv
        · rename_i k x r
          generalize hus : args.toList.map a.eval = us at hr
          cases hr with
          | cons _ u _ us' h1 h2 =>
            cases h1
            obtain ⟨u', hu', hf⟩ := foldInt_ok (Y := Y) (f := Builtin.max2) (fun k x y => rfl) h2 hv
            refine ⟨u', hu', fun w' _ => ?_⟩
            have e1 := hres .max w'
            have e3 : (args.map a.eval).toList = .int k x :: us' := by rw [← hus]; simp
            simp only [execOp, hop, Sem.run_bind, e1, Result.andThen_ok, invoke, builtin, Builtin.max_, e3, hf, Sem.run_pure]
        · cases hv
      | min =>
        simp only [opQ, hop, Option.map_eq_some_iff] at hq
        obtain ⟨v, hv, rfl⟩ := hq
        have hr := h.evs args.toList
        generalize args.toList.map (ev σ.env) = vs at hr hv
        unfold foldInt at hv
        split at hv
        · rename_i k x r
          generalize hus : args.toList.map a.eval = us at hr
          cases hr with
          | cons _ u _ us' h1 h2 =>
            cases h1
            obtain ⟨u', hu', hf⟩ := foldInt_ok (Y := Y) (f := Builtin.min2) (fun k x y => rfl) h2 hv
            refine ⟨u', hu', fun w' _ => ?_⟩
            have e1 := hres .min w'
            have e3 : (args.map a.eval).toList = .int k x :: us' := by rw [← hus]; simp
            simp only [execOp, hop, Sem.run_bind, e1, Result.andThen_ok, invoke, builtin, Builtin.min_, e3, hf, Sem.run_pure]
        · cases hv
      | _ => simp [opQ, hop] at hq
  | _ => simp [opQ, hop] at hq
end
end Go.Y
