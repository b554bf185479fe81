/- Slices that are made, and grow. -/
import Derived.Test.YtfnpgefoikffdaaDoorYStep
import Derived.Laws.MakeOwn
import Derived.Laws.IdiomStrings
import Derived.Great.BuildSlice
namespace Go.Y
section
variable {Y : YP} {W W' : Vw} {σ σ' : St} {a : Act} {w w' : World}

theorem flat_get (l : List V) : ∀ (n j : Nat), j < n * l.length → (List.replicate n l).flatten[j]? = l[j % l.length]?
  | 0, j, h => by simp at h
  | n + 1, j, h => by
    rw [List.replicate_succ, List.flatten_cons]
    by_cases hj : j < l.length
    · rw [List.getElem?_append_left hj, Nat.mod_eq_of_lt hj]
    · have hl : l.length ≤ j := Nat.le_of_not_lt hj
      rw [List.getElem?_append_right hl, flat_get l n (j - l.length) (by rw [Nat.succ_mul] at h; omega)]
      rw [Nat.mod_eq_sub_mod hl]

theorem flat_length (l : List V) (n : Nat) : (List.replicate n l).flatten.length = n * l.length := by simp

theorem range_map {α : Type} (k : Nat) (f : Nat → α) : (Array.range k).map f = ((List.range k).map f).toArray := by
  apply Array.ext'
  simp

theorem zero_row {l : List V} {m : Array Value} (h : VRs W l m.toList) (n : Nat) :
    VRs W (List.replicate n l).flatten ((List.range (n * m.size)).map fun i => m[i % m.size]!) := by
  have hl := h.length
  simp at hl
  refine VRs.of_get (by simp [hl]) fun j v u hv hu => ?_
  have hj : j < n * m.size := by
    have := (List.getElem?_eq_some_iff.1 hv).1
    rw [flat_length, hl] at this; exact this
  rw [flat_get l n j (by rw [hl]; exact hj), hl] at hv
  obtain ⟨u', hu', hr⟩ := h.get hv
  have : u = u' := by
    rw [List.getElem?_map, List.getElem?_range hj] at hu
    simp only [Option.map_some, Option.some.injEq] at hu
    rw [← hu]
    rw [Array.getElem?_toList] at hu'
    rw [Array.getElem!_eq_getD, Array.getD_eq_getD_getElem?, hu']
    rfl
  rw [this]; exact hr

theorem run_bs (hY : YOK Y) (h : Rel W σ a w) {o : Oper} {t et : TypeId} {n : Nat} {parts : Array (Nat × Operand)} (hop : o.op = .buildSlice t n parts) (hk : Y.kd t = some (.slice et)) {te : TI} (hte : Y.ty et = some te)
    (hsz : ¬ (te.size = 0 ∨ n * te.size > 2 ^ 20)) {cs : List V} (hf : fillY (ev σ.env) (fun j => some (j * te.size, te.size)) parts.toList (List.replicate n te.zero).flatten = some cs) :
    ∃ us : List Value, VRs W cs us ∧ us.length = n * te.size ∧ (execOp a.eval o).run Y.P w = .ok (.value (.slice (some ⟨w.heap.size, 0, none⟩) n n)) (w.alloc (.cells us.toArray et)) := by
  obtain ⟨ti, hti, hk'⟩ := kd_of hk
  obtain ⟨i, d, z, ht⟩ := hY.ty t ti hti
  have hkd := ht.kd
  rw [hk'] at hkd
  cases hkd
  obtain ⟨ie, de, ze, hee⟩ := hY.ty et te hte
  have hzl := (hee.zr W).length
  have hzl2 := hee.zl
  have hzs : ze.cells.size = te.size := by rw [← Array.length_toList, ← hzl, hzl2]
  have hpos : 0 < ze.cells.size := by omega
  have hrow := zero_row (hee.zr W) n
  obtain ⟨us, h1, h2⟩ := fill_ok h parts.toList _ _ _ hrow hf
  have hlen : us.length = n * te.size := by
    have h3 := h1.length
    have h4 : ∀ (ps : List (Nat × Operand)) (c r : List V), fillY (ev σ.env) (fun j => some (j * te.size, te.size)) ps c = some r → r.length = c.length := by
      intro ps
      induction ps with
      | nil => intro c r hh; simp [fillY] at hh; rw [hh]
      | cons p ps ih =>
        intro c r hh
        simp only [fillY] at hh
        split at hh
        · rename_i hc
          rw [ih _ _ hh, splice_length _ _ _ hc.2.1]
        · cases hh
    rw [← h3, h4 _ _ _ hf, flat_length, hzl2]
  refine ⟨us, h1, hlen, ?_⟩
  have e1 : ¬ (n * ie.size > 2 ^ 24) := by rw [hee.size]; omega
  have hpt : (parts.map fun p => (p.1, a.eval p.2)).toList = parts.toList.map fun p => (p.1, a.eval p.2) := by simp
  by_cases hn0 : n * te.size = 0
  · have : n = 0 := by
      rcases Nat.mul_eq_zero.1 hn0 with h0 | h0
      · exact h0
      · omega
    subst this
    have h2' : Instr.fill (fun j => some (j * te.size, te.size)) #[] (parts.toList.map fun p => (p.1, a.eval p.2)) = some us.toArray := by simpa using h2
    simp [execOp, hop, Instr.buildSlice, run_underlying' ht.und, run_sizeOf hee.info, hee.size, h2', newRow, Array.range_zero']
  · have h2' : Instr.fill (fun j => some (j * ie.size, ie.size)) ((Array.range (n * ie.size)).map fun i => ze.cells[i % ze.cells.size]!) (parts.map fun p => (p.1, a.eval p.2)).toList = some us.toArray := by
      rw [hpt, hee.size, ← hzs]
      rw [← hzs] at h2
      rw [range_map]
      simpa using h2
    have hr := run_buildSlice w t et n (parts.map fun p => (p.1, a.eval p.2)) us.toArray ie ze ht.und hee.info hee.zero e1 (by rw [hee.size]; exact hn0) h2'
    simp only [execOp, hop, Sem.run_bind, hr, Result.andThen_ok, Sem.run_pure]

theorem step_buildSlice (hY : YOK Y) (h : Rel W σ a w) {o : Oper} {t et : TypeId} {n : Nat} {parts : Array (Nat × Operand)} (hop : o.op = .buildSlice t n parts) (hk : Y.kd t = some (.slice et)) {te : TI} (hte : Y.ty et = some te)
    (hsz : ¬ (te.size = 0 ∨ n * te.size > 2 ^ 20)) {cs : List V} (hf : fillY (ev σ.env) (fun j => some (j * te.size, te.size)) parts.toList (List.replicate n te.zero).flatten = some cs) :
    StepR Y W σ a w o (putV { σ with h := σ.h.push (.arr cs true) } o.dst (.sl (some (σ.h.nx, 0)) n (some n) te.size)) := by
  obtain ⟨us, h1, hlen, hrun⟩ := run_bs hY h hop hk hte hsz hf
  obtain ⟨g1, g2⟩ := h.heap.newRow (w1 := w) rfl (.refl w) [] h1 et true
  simp only [List.append_nil, List.length_nil, Nat.add_zero] at g1 g2
  have hval : VR (W.push σ.h.nx w.heap.size us.length) (.sl (some (σ.h.nx, 0)) n (some n) te.size) (.slice (some ⟨w.heap.size, 0, none⟩) n n) := by
    refine .sls _ _ _ _ _ _ n (.inr rfl) (Nat.le_refl _) (fun c hc => by simpa using hc) (fun _ _ => ?_) (fun _ hc => nomatch hc) (fun _ => ?_)
    · simp [Vw.at, Vw.push]
    · simp [Vw.push, hlen]
  exact StepR.heap h g1 g2 hval hrun (.inl rfl)

theorem wrap_small {n : Int} (h0 : 0 ≤ n) (h1 : n ≤ 2 ^ 60) : IntKind.i64.wrap n = n := by
  have e : (2 : Int) ^ IntKind.i64.bits = 18446744073709551616 := by decide
  have e2 : (2 : Int) ^ (IntKind.i64.bits - 1) = 9223372036854775808 := by decide
  unfold IntKind.wrap
  simp only [e, e2, IntKind.signed, Bool.true_and]
  have : n % 18446744073709551616 = n := Int.emod_eq_of_lt h0 (by omega)
  rw [this]
  rw [if_neg (by simp; omega)]

theorem step_makeSlice (hY : YOK Y) (h : Rel W σ a w) {o : Oper} {t et : TypeId} {xl xc : Operand} {kl kc : IntKind} {l c : Int} (hop : o.op = .makeSlice t xl xc) (hk : Y.kd t = some (.slice et)) (hl : ev σ.env xl = .i kl l)
    (hc : ev σ.env xc = .i kc c) {te : TI} (hte : Y.ty et = some te) (hin : te.size ≠ 0 ∧ 0 ≤ l ∧ l ≤ c ∧ c ≤ most ∧ c * te.bytes ≤ most) :
    StepR Y W σ a w o (putV { σ with h := σ.h.push (.arr (List.replicate c.toNat te.zero).flatten true) } o.dst (.sl (some (σ.h.nx, 0)) l.toNat (some c.toNat) te.size)) := by
  obtain ⟨ti, hti, hk'⟩ := kd_of hk
  obtain ⟨i, d, z, ht⟩ := hY.ty t ti hti
  have hkd := ht.kd
  rw [hk'] at hkd
  cases hkd
  obtain ⟨ie, de, ze, hee⟩ := hY.ty et te hte
  obtain ⟨i0, i1, i2, i3, i4⟩ := hin
  have hzl := (hee.zr W).length
  have hzl2 := hee.zl
  have hzs : ze.cells.size = te.size := by rw [← Array.length_toList, ← hzl, hzl2]
  have hrow := zero_row (hee.zr W) c.toNat
  obtain ⟨g1, g2⟩ := h.heap.newRow (w1 := w) rfl (.refl w) [] hrow et true
  have hul : ((List.range (c.toNat * ze.cells.size)).map fun i => ze.cells[i % ze.cells.size]!).length = c.toNat * te.size := by simp [hzs]
  simp only [List.append_nil, List.length_nil, Nat.add_zero, hul] at g1 g2
  have hval : VR (W.push σ.h.nx w.heap.size (c.toNat * te.size)) (.sl (some (σ.h.nx, 0)) l.toNat (some c.toNat) te.size) (.slice (some ⟨w.heap.size, 0, none⟩) l.toNat c.toNat) := by
    refine .sls _ _ _ _ _ _ _ (.inr rfl) (by omega) (fun c' hc => by simpa using hc) (fun _ _ => ?_) (fun _ hc => nomatch hc) (fun _ => ?_)
    · simp [Vw.at, Vw.push]
    · simp [Vw.push]
  refine StepR.heap h g1 g2 hval ?_ (.inl rfl)
  have hel := h.ev xl
  have hec := h.ev xc
  rw [hl] at hel
  rw [hc] at hec
  generalize hul2 : a.eval xl = ul at hel
  generalize huc2 : a.eval xc = uc at hec
  cases hel; cases hec
  have hb : (ie.bytes : Int) * c ≤ 281474976710656 := by
    rw [hee.bytes, Int.mul_comm]
    have : (most : Int) ≤ 281474976710656 := by decide
    omega
  have hm63 : c ≤ 9223372036854775807 := by
    have : (most : Int) ≤ 9223372036854775807 := by decide
    omega
  have hrun := run_make (P := Y.P) w t et ie ze ht.und hee.info hee.zero kl kc l c i1 i2 hb hm63
  have hcells : madeCells ze.cells (c.toNat * ie.size) = ((List.range (c.toNat * ze.cells.size)).map fun i => ze.cells[i % ze.cells.size]!).toArray := by
    rw [← range_map, madeCells, hee.size, hzs]
  simp only [execOp, hop, hul2, huc2, Sem.run_bind, hrun, Result.andThen_ok, Sem.run_pure, hcells]

theorem step_convert (hY : YOK Y) (h : Rel W σ a w) {o : Oper} {src dst et : TypeId} {x : Operand} {l : List UInt8} (hop : o.op = .convert src dst x) (hks : Y.kd src = some .str) (hkd : Y.kd dst = some (.slice et))
    (hx : ev σ.env x = .s l) {te : TI} (hte : Y.ty et = some te) (hke : te.kd = .int .u8) :
    StepR Y W σ a w o (putV { σ with h := σ.h.push (.arr (l.map fun c => .i .u8 c.toNat) true) } o.dst (.sl (some (σ.h.nx, 0)) l.length none 1)) := by
  obtain ⟨ts, hts, hks'⟩ := kd_of hks
  obtain ⟨is, ds, zs, hs⟩ := hY.ty src ts hts
  obtain ⟨td, htd, hkd'⟩ := kd_of hkd
  obtain ⟨id, dd, zd, hd⟩ := hY.ty dst td htd
  obtain ⟨ie, de, ze, hee⟩ := hY.ty et te hte
  have k1 := hs.kd
  have k2 := hd.kd
  have k3 := hee.kd
  rw [hks'] at k1
  rw [hkd'] at k2
  rw [hke] at k3
  cases k1; cases k2; cases k3
  have hex := h.ev x
  rw [hx] at hex
  generalize hux : a.eval x = ux at hex
  cases hex
  have hv : ∀ l : List UInt8, VRs W (l.map fun c => V.i .u8 c.toNat) (l.map fun c : UInt8 => Value.int .u8 c.toNat) := by
    intro l
    induction l with
    | nil => exact .nil
    | cons c l ih => exact .cons _ _ _ _ (.i _ _) ih
  have hrun := run_bytes_of_string (P := Y.P) w src dst et ⟨l.toArray⟩ hs.und hd.und hee.und
  have hsz : (⟨l.toArray⟩ : ByteArray).size = l.length := rfl
  rw [hsz] at hrun
  have hcap := grownCap_ge w l.length 0 et
  generalize grownCap w l.length 0 et = cap at hrun hcap
  have hrow : bytesRow ⟨l.toArray⟩ cap = ((l.map fun c : UInt8 => Value.int .u8 c.toNat) ++ List.replicate (cap - l.length) (Value.int .u8 0)).toArray := by
    apply Array.ext'
    simp [bytesRow, hsz]
  rw [hrow] at hrun
  obtain ⟨g1, g2⟩ := h.heap.newRowF (w1 := w.drew) rfl ⟨rfl, rfl, rfl⟩ (List.replicate (cap - l.length) (Value.int .u8 0)) (hv l) et true
    (((l.map fun c : UInt8 => Value.int .u8 c.toNat) ++ List.replicate (cap - l.length) (Value.int .u8 0)).toArray.size, ((l.map fun c : UInt8 => Value.int .u8 c.toNat) ++ List.replicate (cap - l.length) (Value.int .u8 0)).toArray.size + 1) (fun j _ hj => by simp at hj ⊢; omega)
  have hval : VR (W.push σ.h.nx w.heap.size ((l.map fun c : UInt8 => Value.int .u8 c.toNat).length + (List.replicate (cap - l.length) (Value.int .u8 0)).length)) (.sl (some (σ.h.nx, 0)) l.length none 1) (.slice (some ⟨w.heap.size, 0, none⟩) l.length cap) := by
    refine .sls _ _ _ _ _ _ _ (.inr rfl) hcap (fun c' hc => nomatch hc) (fun _ _ => ?_) (fun _ _ => ?_) (fun _ => ?_)
    · simp [Vw.at, Vw.push]
    · simp [Vw.push]; omega
    · simp [Vw.push]; omega
  refine StepR.heap h g1 g2 hval ?_ (.inl rfl)
  simp only [execOp, hop, hux, Sem.run_bind, hrun, Result.andThen_ok, Sem.run_pure]
end
end Go.Y
