/- What an operation does beyond its slot. -/
import Derived.Test.YtpddiafjmkjpmaaYRead
import Derived.Orders
namespace Go.Y

/-- A call's contract. -/
structure Con (Y : YP) (f : FuncId) (args : List V) (h : Heap) (Q : V → Heap → Prop) : Prop where
  body : hasBody Y f
  tr : CallTr Y f args h Q

theorem Con.mono {Y : YP} {f : FuncId} {args : List V} {h : Heap} {Q Q' : V → Heap → Prop} (c : Con Y f args h Q) (hq : ∀ v h', Q v h' → Q' v h') : Con Y f args h Q' := ⟨c.body, c.tr.mono hq⟩

theorem Con.lo {Y : YP} {f : FuncId} {args : List V} {h h1 : Heap} {l l' : Nat} {v : V} (c : Con Y f args { h with lo := l } fun v' h' => v' = v ∧ h' = h1) : Con Y f args h fun v' h' => v' = v ∧ h' = { h1 with lo := l' } :=
  ⟨c.body, fun W w us hr hv => (c.tr W w us (hr.ext (fun _ => rfl) rfl rfl) hv).mono fun e w' ⟨v', h2, W', u, ⟨e1, e2⟩, h3, h4, h5⟩ => ⟨v', _, W', u, ⟨e1, rfl⟩, h3, by subst e2; exact h4.ext (fun _ => rfl) rfl rfl, h5⟩⟩

inductive Ef where
  | skip
  | q (q : Q)
  | box (cs : List V)
  | st (s : Nat) (cs : List V)
  | hp (h : Heap) (v : V)
  | al (i : Nat) (o : YObj) (v : V)
  deriving Inhabited

/-- An object is new there. -/
def Heap.putAt (h : Heap) (i : Nat) (o : YObj) : Heap := { h with t := Tr.set (i + 1) h.t i (some o), nx := i + 1 }
theorem Heap.putAt_nx (h : Heap) (o : YObj) : h.putAt h.nx o = h.push o := rfl

def stBox (σ : St) (s : Nat) (cs : List V) : St := match σ.env.getD s .undef with
  | .lb _ => { σ with env := σ.env.set s (.lb cs) }
  | _ => σ

def Ef.app (d : Option Tmp) (e : Ef) (σ : St) : St :=
  match e with
  | .skip => putV σ d (.tup [])
  | .q (.val v) => putV σ d v
  | .q (.ref s o) => match d with
    | some d => { σ with env := σ.env.set d .rf, refs := (d, s, o) :: σ.refs }
    | none => σ
  | .box cs => match d with
    | some d => { σ with env := σ.env.set d (.lb cs) }
    | none => σ
  | .st s cs => putV (stBox σ s cs) d .undef
  | .hp h v => putV { σ with h := h } d v
  | .al i o v => putV { σ with h := σ.h.putAt i o } d v

/-- Memory, turned by an operation, and the value. -/
def stepH (Y : YP) (loc : Nat → Bool) (σ : St) (o : Oper) : Option (Heap × V) :=
  match o.op with
  | .alloc t => match Y.ty t, o.dst with
    | some ti, some d => if loc d then none else some (σ.h.pushT (Y.tag t) (.arr ti.zero true), .p (some (σ.h.nx, 0)))
    | _, _ => none
  | .box t x => match Y.ty t, o.dst with
    | some ti, some d => if loc d then none else if (ev σ.env x).cells.length = ti.size ∧ allCells (ev σ.env x).cells then some (σ.h.push (.arr (ev σ.env x).cells true), .p (some (σ.h.nx, 0))) else none
    | _, _ => none
  | .store t a x => match Y.ty t, addr σ a with
    | some ti, some (.hp id off) => if (ev σ.env x).cells.length = ti.size ∧ allCells (ev σ.env x).cells then
        match σ.h.get id with
        | some (.arr cs true) => if off + (ev σ.env x).cells.length ≤ cs.length then some (σ.h.set id (some (.arr (splice cs off (ev σ.env x).cells) true)), .undef) else none
        | _ => none
      else none
    | _, _ => none
  | .buildSlice t n parts =>
    match Y.kd t with
    | some (.slice et) => match Y.ty et with
      | some te =>
        if te.size = 0 ∨ n * te.size > 2 ^ 20 then none else
        match fillY (ev σ.env) (fun j => some (j * te.size, te.size)) parts.toList (List.replicate n te.zero).flatten with
        | some cs => some (σ.h.push (.arr cs true), .sl (some (σ.h.nx, 0)) n (some n) te.size)
        | none => none
      | none => none
    | _ => none
  | .makeSlice t l c =>
    match Y.kd t, ev σ.env l, ev σ.env c with
    | some (.slice et), .i _ l, .i _ c => match Y.ty et with
      | some te =>
        if te.size ≠ 0 ∧ 0 ≤ l ∧ l ≤ c ∧ c ≤ most ∧ c * te.bytes ≤ most then
          some (σ.h.push (.arr (List.replicate c.toNat te.zero).flatten true), .sl (some (σ.h.nx, 0)) l.toNat (some c.toNat) te.size)
        else none
      | none => none
    | _, _, _ => none
  | .convert src dst x =>
    match Y.kd src, Y.kd dst, ev σ.env x with
    | some .str, some (.slice et), .s l => match Y.ty et with
      | some te => match te.kd with
        | .int .u8 => some (σ.h.push (.arr (l.map fun c => .i .u8 c.toNat) true), .sl (some (σ.h.nx, 0)) l.length none 1)
        | _ => none
      | none => none
    | _, _, _ => none
  | .call { callee := .builtin .append, args, argTypes } =>
    match args.toList, argTypes.toList with
    | [s, x], [st, xt] => match appendY Y σ st xt (ev σ.env s) (ev σ.env x) with
      | some (v, h) => some (h, v)
      | none => none
    | _, _ => none
  | _ => none

theorem stepH_ok {Y : YP} {loc : Nat → Bool} {σ : St} {o : Oper} {h : Heap} {v : V} (hs : stepH Y loc σ o = some (h, v)) : stepY Y loc σ o = some (.st (putV { σ with h := h } o.dst v)) := by
  unfold stepH at hs
  split at hs
  · rename_i t hop
    split at hs
    · rename_i ti d hti hd
      split at hs
      · cases hs
      · rename_i hl
        simp only [Option.some.injEq, Prod.mk.injEq] at hs
        obtain ⟨rfl, rfl⟩ := hs
        simp [stepY, opQ, hop, hti, hd, allocY, hl, putV]
    · cases hs
  · rename_i t x hop
    split at hs
    · rename_i ti d hti hd
      split at hs
      · cases hs
      · rename_i hl
        split at hs
        · rename_i hc
          simp only [Option.some.injEq, Prod.mk.injEq] at hs
          obtain ⟨rfl, rfl⟩ := hs
          simp [stepY, opQ, hop, hti, hd, allocY, hl, putV, hc]
        · cases hs
    · cases hs
  · rename_i t a x hop
    split at hs
    · rename_i ti id off hti had
      split at hs
      · rename_i hc
        split at hs
        · rename_i cs hg
          split at hs
          · rename_i hb
            simp only [Option.some.injEq, Prod.mk.injEq] at hs
            obtain ⟨rfl, rfl⟩ := hs
            simp only [stepY, opQ, hop, hti, had, storeAt, hg]
            rw [if_pos hc, if_pos hb]
            rfl
          · cases hs
        · cases hs
      · cases hs
    · cases hs
  · rename_i t n parts hop
    split at hs
    · rename_i et hk
      split at hs
      · rename_i te hte
        split at hs
        · cases hs
        · rename_i hsz
          split at hs
          · rename_i cs hf
            simp only [Option.some.injEq, Prod.mk.injEq] at hs
            obtain ⟨rfl, rfl⟩ := hs
            simp only [stepY, opQ, hop, hk, hte, hf]
            rw [if_neg hsz]
          · cases hs
      · cases hs
    · cases hs
  · rename_i t l c hop
    split at hs
    · rename_i et kl l' kc c' hk hl hc
      split at hs
      · rename_i te hte
        split at hs
        · rename_i hin
          simp only [Option.some.injEq, Prod.mk.injEq] at hs
          obtain ⟨rfl, rfl⟩ := hs
          simp only [stepY, opQ, hop, hk, hte, hl, hc]
          rw [if_pos hin]
        · cases hs
      · cases hs
    · cases hs
  · rename_i src dst x hop
    split at hs
    · rename_i et l hks hkd hx
      split at hs
      · rename_i te hte
        split at hs
        · rename_i hke
          simp only [Option.some.injEq, Prod.mk.injEq] at hs
          obtain ⟨rfl, rfl⟩ := hs
          simp [stepY, opQ, hop, hks, hkd, hx, hte, hke]
        · cases hs
      · cases hs
    · cases hs
  · rename_i args ats hop
    split at hs
    · rename_i s x st xt h1 h2
      split at hs
      · rename_i v' h' ha
        simp only [Option.some.injEq, Prod.mk.injEq] at hs
        obtain ⟨rfl, rfl⟩ := hs
        simp [stepY, opQ, hop, h1, h2, ha]
      · cases hs
    · cases hs
  · cases hs

inductive StepE (Y : YP) (loc : Nat → Bool) (σ : St) (o : Oper) : Ef → Prop
  | quiet (q : Q) (h : opQ Y σ o = some q) : StepE Y loc σ o (.q q)
  | alloc (t : TypeId) (ti : TI) (d : Nat) (hop : o.op = .alloc t) (hti : Y.ty t = some ti) (hd : o.dst = some d) (hl : loc d = true) : StepE Y loc σ o (.box ti.zero)
  | boxl (t : TypeId) (x : Operand) (ti : TI) (d : Nat) (hop : o.op = .box t x) (hti : Y.ty t = some ti) (hd : o.dst = some d) (hl : loc d = true)
      (hs : (ev σ.env x).cells.length = ti.size) (hc : allCells (ev σ.env x).cells = true) : StepE Y loc σ o (.box (ev σ.env x).cells)
  | stl (t : TypeId) (a x : Operand) (ti : TI) (s off : Nat) (cs : List V) (hop : o.op = .store t a x) (hti : Y.ty t = some ti) (ha : addr σ a = some (.lb s off)) (hcs : σ.env.getD s .undef = .lb cs)
      (hs : (ev σ.env x).cells.length = ti.size) (hc : allCells (ev σ.env x).cells = true) (hb : off + (ev σ.env x).cells.length ≤ cs.length) : StepE Y loc σ o (.st s (splice cs off (ev σ.env x).cells))
  | bs (t : TypeId) (n : Nat) (parts : Array (Nat × Operand)) (et : TypeId) (te : TI) (cs : List V) (hop : o.op = .buildSlice t n parts) (hk : Y.kd t = some (.slice et)) (hte : Y.ty et = some te)
      (hsz : ¬ (te.size = 0 ∨ n * te.size > 2 ^ 20)) (hf : fillY (ev σ.env) (fun j => some (j * te.size, te.size)) parts.toList (List.replicate n te.zero).flatten = some cs) (hc : Cold cs) : StepE Y loc σ o (.q (.val (.ts cs n (some n))))
  | pcall (f : FuncId) (args args' : List V) (r : V) (hs : stepY Y loc σ o = some (.call f args)) (hf : FrzL σ.h args args') (hc : Cold args ∧ args' = args ∨ flatV r = true) (hp : PCon Y f args' (· = r)) : StepE Y loc σ o (.q (.val r))
  | exq (v : V) (hs : exoQ Y σ o = some v) : StepE Y loc σ o (.q (.val v))
  | exh (h : Heap) (v : V) (hs : exoH Y σ o = some (h, v)) : StepE Y loc σ o (.hp h v)
  | heap (h : Heap) (v : V) (hs : stepH Y loc σ o = some (h, v)) : StepE Y loc σ o (.hp h v)
  | icall (f : FuncId) (args : List V) (h : Heap) (v : V) (hs : stepY Y loc σ o = some (.call f args)) (hc : Con Y f args σ.h fun v' h' => v' = v ∧ h' = h) : StepE Y loc σ o (.hp h v)
  | icallA (f : FuncId) (args : List V) (x : YObj) (v : V) (hs : stepY Y loc σ o = some (.call f args)) (hc : Con Y f args σ.h fun v' h' => v' = v ∧ h' = σ.h.push x) : StepE Y loc σ o (.al σ.h.nx x v)
  | icallR (f : FuncId) (args : List V) (l : Nat) (h1 hN : Heap) (v r : V) (hs : stepY Y loc σ o = some (.call f args)) (hcold : coldAll args = false) (hc : Con Y f args { σ.h with lo := l } fun v' h' => v' = v ∧ h' = h1)
      (hsame : ∀ i, i < σ.h.nx → h1.get i = σ.h.get i) (htg : ∀ p, p ∈ σ.h.tg → p ∈ h1.tg) (hN1 : ∀ i o, hN.get i = some o → h1.get i = some o ∧ σ.h.nx ≤ i) (hf : Frz hN v r) : StepE Y loc σ o (.q (.val r))
  | icallz (f : FuncId) (args args' : List V) (D : List Nat) (h : Heap) (v : V) (hs : stepY Y loc σ o = some (.call f args)) (hf : FrzAL (takeD σ.h D) args args') (hc : Con Y f args' (killD σ.h D) fun v' h' => v' = v ∧ h' = h) : StepE Y loc σ o (.hp h v)

section
variable {Y : YP} {σ σ' : St} {W : Vw} {a : Act} {w : World}

theorem putQ_val' (σ : St) (d : Option Tmp) (v : V) : putQ σ d (.val v) = some (putV σ d v) := by cases d <;> rfl

theorem filter_self {α : Type} {p : α → Bool} {l : List α} (h : ∀ x ∈ l, p x = true) : l.filter p = l := List.filter_eq_self.2 h

/-- A call of a function that has a body. -/
theorem run_callFunc (hY : YOK Y) {f : FuncId} (hb : hasBody Y f) (us : Array Value) (w : World) : (callFunc f us).run Y.P w = .ok (.enter f us) w := by
  obtain ⟨fn, body, hf, hbd⟩ := hb
  have hnm : ¬ fn.name = "runtime.NumGoroutine" := by simpa using hY.name f fn hf
  simp [callFunc, hf, hnm, hbd]

theorem stepR_wp {o : Oper} {σ' : St} (h : StepR Y W σ a w o σ') {K : Act → World → Prop} {Q : Exit → Act → World → Prop}
    (hK : ∀ W' a' w', Rel W' σ' a' w' → Stp W (mine W σ a) w W' (mine W' σ' a') w' → K a' w') : o.wp Y.P a w K Q := by
  obtain ⟨W', w', u, n, hrun, hn, hr', hs'⟩ := h
  unfold Oper.wp
  rw [hrun]
  rcases hn with rfl | ⟨rfl, rfl⟩
  · exact hK W' _ _ hr' hs'
  · exact hK W' _ _ hr' hs'

/-- A slice literal that is only read. -/
theorem bs_ok (hY : YOK Y) (h : Rel W σ a w) {o : Oper} {t et : TypeId} {n : Nat} {parts : Array (Nat × Operand)} {te : TI} {cs : List V} (hop : o.op = .buildSlice t n parts) (hk : Y.kd t = some (.slice et)) (hte : Y.ty et = some te)
    (hsz : ¬ (te.size = 0 ∨ n * te.size > 2 ^ 20)) (hf : fillY (ev σ.env) (fun j => some (j * te.size, te.size)) parts.toList (List.replicate n te.zero).flatten = some cs) (hc : Cold cs) : StepR Y W σ a w o (putV σ o.dst (.ts cs n (some n))) := by
  obtain ⟨us, h1, hlen, hrun⟩ := run_bs hY h hop hk hte hsz hf
  have hsn : ∀ b ob, W.snap b = some ob → (if b = w.heap.size then some (Obj.cells us.toArray et) else W.snap b) = some ob := fun b ob hb => by
    have := lt_of_block (h.heap.snap b ob hb)
    rw [if_neg (by omega)]; exact hb
  obtain ⟨g1, g2⟩ := h.more (w' := w.alloc (.cells us.toArray et)) (s := fun b => if b = w.heap.size then some (.cells us.toArray et) else W.snap b) hsn (by simp) (fun b hb => alloc_other _ _ _ (by omega)) (fun b ob hb => by
    split at hb
    · rename_i he; subst he; rw [alloc_at]; exact hb
    · rw [alloc_other _ _ _ (by assumption)]; exact h.heap.snap b ob hb) ⟨rfl, rfl, rfl⟩
  have hv : VR (W.more w.heap.size fun b => if b = w.heap.size then some (.cells us.toArray et) else W.snap b) (.ts cs n (some n)) (.slice (some ⟨w.heap.size, 0, none⟩) n n) := by
    refine .ts _ _ _ _ _ _ us.toArray et (0, 0) us (Nat.le_refl _) (fun c hc => by simpa using hc) (by simp [Vw.more]) (fun j u hj => by simpa using hj) (hc.vrs (fun b ob hb => ?_) h1)
    simp only [Vw.dead, Vw.more]
    have := lt_of_block (h.heap.snap b ob hb)
    rw [if_neg (by omega)]; exact hb
  exact ⟨_, _, _, _, hrun, .inl rfl, g1.putV hv o.dst, g2.weaken fun b hb => mine_putV hv o.dst hb⟩

/-- What 'StepE' says of an operation holds in the model. -/
theorem stepE_ok (hY : YOK Y) {loc : Nat → Bool} (h : Rel W σ a w) {o : Oper} {e : Ef} (hs : StepE Y loc σ o e) (hk : ∀ s f, e = .q (.ref s f) → ∀ x ∈ σ.refs, o.dst ≠ some x.1) (hb : ∀ cs, e = .box cs → ∀ x ∈ σ.refs, o.dst ≠ some x.2.1)
    {K : Act → World → Prop} {Q : Exit → Act → World → Prop} (hK : ∀ W' a' w', Rel W' (e.app o.dst σ) a' w' → Stp W (mine W σ a) w W' (mine W' (e.app o.dst σ) a') w' → K a' w') : o.wp Y.P a w K Q := by
  have hbox : ∀ cs d tg, e = .box cs → o.dst = some d → allocY loc σ o.dst cs tg = (if loc d then some (e.app o.dst σ) else allocY loc σ o.dst cs tg) := by
    intro cs d tg he hd
    split
    · rename_i hl
      subst he
      simp only [allocY, hd, hl, if_true, Ef.app]
      rw [filter_self]
      intro x hx
      have := hb cs rfl x hx
      rw [hd] at this
      simp only [bne_iff_ne, ne_eq]
      exact fun he => this (by rw [he])
    · rfl
  cases hs with
  | quiet q hq =>
    cases q with
    | val v => exact stepR_wp (StepR.quiet hY h hq (putQ_val' σ o.dst v)) hK
    | ref s off =>
      refine stepR_wp (StepR.quiet hY h hq (σ' := (Ef.q (.ref s off)).app o.dst σ) ?_) hK
      cases hd : o.dst with
      | none => rfl
      | some d =>
        simp only [putQ, Ef.app]
        rw [filter_self]
        intro x hx
        have := hk s off rfl x hx
        rw [hd] at this
        simp only [bne_iff_ne, ne_eq]
        exact fun he => this (by rw [he])
  | alloc t ti d hop hti hd hl =>
    refine stepR_wp (step_alloc hY h hop hti (loc := loc) ?_) hK
    rw [hbox _ d _ rfl hd, if_pos hl]
  | boxl t x ti d hop hti hd hl hs hc =>
    refine stepR_wp (step_box hY h hop hc (loc := loc) ?_) hK
    rw [hbox _ d _ rfl hd, if_pos hl]
  | stl t y x ti s off cs hop hti ha hcs hs hc hbd =>
    refine stepR_wp (step_store hY h hop hti ha hs hc (σ' := stBox σ s (splice cs off (ev σ.env x).cells)) ?_) hK
    have hcs' : σ.env.getD s .undef = .lb cs := hcs
    simp only [storeAt, stBox, hcs', hbd, if_true]
  | bs t n parts et te cs hop hk' hte hsz hf hc => exact stepR_wp (bs_ok hY h hop hk' hte hsz hf hc) hK
  | pcall f args args' r hs hf hc hp =>
    obtain ⟨us, hv, hrun⟩ := stepY_call h hs
    unfold Oper.wp
    rw [hrun, run_callFunc hY hp.body]
    simp only [Oper.upon]
    refine (pcall h hp.tr hf (hc.imp id fun hr x hx => by rw [hx]; exact hr) hv).mono ?_
    rintro e w' ⟨x, W', u, rfl, rfl, hr', hvr, hst, _⟩
    exact hK _ _ _ (hr'.putV hvr o.dst) (hst.weaken fun b hb => mine_putV hvr o.dst hb)
  | exq v hs => exact stepR_wp (exoQ_ok hY h hs) hK
  | exh h' v hs => exact stepR_wp (exoH_ok hY h hs) hK
  | heap h' v hs => exact stepR_wp (stepY_ok hY h (stepH_ok hs)) hK
  | icall f args h' v hs hc =>
    obtain ⟨us, hv, hrun⟩ := stepY_call h hs
    unfold Oper.wp
    rw [hrun, run_callFunc hY hc.body]
    simp only [Oper.upon]
    refine (hc.tr W w us h.heap hv).mono ?_
    rintro e w' ⟨v', h2, W', u, ⟨rfl, rfl⟩, rfl, hh, hvu, hstp⟩
    exact hK _ _ _ ((h.call hstp hh).putV hvu o.dst) ((hstp.frame h).weaken fun b hb => mine_putV hvu o.dst hb)
  | icallA f args x v hs hc =>
    obtain ⟨us, hv, hrun⟩ := stepY_call h hs
    unfold Oper.wp
    rw [hrun, run_callFunc hY hc.body]
    simp only [Oper.upon]
    refine (hc.tr W w us h.heap hv).mono ?_
    rintro e w' ⟨v', h2, W', u, ⟨rfl, rfl⟩, rfl, hh, hvu, hstp⟩
    exact hK _ _ _ ((h.call hstp hh).putV hvu o.dst) ((hstp.frame h).weaken fun b hb => mine_putV hvu o.dst hb)
  | icallR f args l h1 hN v r hs hcold hc hsame htg hN1 hf =>
    obtain ⟨us, hv, hrun⟩ := stepY_call h hs
    unfold Oper.wp
    rw [hrun, run_callFunc hY hc.body]
    simp only [Oper.upon]
    refine (hc.tr W w us (h.heap.ext (fun _ => rfl) rfl rfl) hv).mono ?_
    rintro e w' ⟨v', h2, W', u, ⟨rfl, rfl⟩, rfl, hh, hvu, hstp⟩
    obtain ⟨g1, g2, g3, g4⟩ := rcall h hh hstp hsame htg hvu hN1 hf
    exact hK _ _ _ (g1.putV g2 o.dst) (g3.weaken fun b hb => mine_putV g2 o.dst hb)
  | icallz f args args' D h' v hs hf hc =>
    obtain ⟨us, hv, hrun⟩ := stepY_call h hs
    unfold Oper.wp
    rw [hrun, run_callFunc hY hc.body]
    simp only [Oper.upon]
    obtain ⟨g1, g2⟩ := h.heap.frzD D
    refine (hc.tr (W.frzD D w) w us g1 (hf.vr (Fz.of h.heap D) (frzD_le h.heap D) hv)).mono ?_
    rintro e w' ⟨v', h2, W', u, ⟨rfl, rfl⟩, rfl, hh, hvu, hstp⟩
    have hst := g2.trans hstp
    exact hK _ _ _ ((h.call hst hh).putV hvu o.dst) ((hst.frame h).weaken fun b hb => mine_putV hvu o.dst hb)
end
end Go.Y

/- What an operation looks at: it does the same where that is the same. -/
namespace Go.Y

/-- The same, or both a local box. -/
def Agr (v v' : V) : Prop := v = v' ∨ ∃ cs cs', v = .lb cs ∧ v' = .lb cs'

theorem Agr.refl (v : V) : Agr v v := .inl rfl
theorem Agr.plain {v v' : V} (h : Agr v v') : v.plain = v'.plain := by
  rcases h with rfl | ⟨_, _, rfl, rfl⟩ <;> rfl

/-- Two states, at a slot. -/
structure AgT (σ σ' : St) (t : Nat) : Prop where
  env : Agr (σ.env.getD t .undef) (σ'.env.getD t .undef)
  ref : lookRef σ.refs t = lookRef σ'.refs t

def tmpsOf (o : Oper) : List Nat := o.op.operands.toList.filterMap fun | .tmp t => some t | _ => none

theorem mem_tmpsOf {o : Oper} {t : Nat} (h : Operand.tmp t ∈ o.op.operands) : t ∈ tmpsOf o := List.mem_filterMap.2 ⟨.tmp t, by simpa using h, rfl⟩

def refTo (σ : St) (t : Nat) : Option Nat := match σ.env.getD t .undef with
  | .rf => (lookRef σ.refs t).map (·.1)
  | _ => none

def boxR (σ : St) (o : Oper) : List Nat := match o.op with
  | .load _ a | .store _ a _ => match addr σ a with
    | some (.lb s _) => [s]
    | _ => []
  | _ => []

/-- The objects that a load reads. -/
def objR (σ : St) (o : Oper) : List Nat := match o.op with
  | .load _ a => match addr σ a with
    | some (.hp k _) => [k]
    | _ => []
  | _ => []

def heapR (σ : St) (o : Oper) : Bool := match o.op with
  | .convert _ _ x => match ev σ.env x with
    | .sl (some _) _ _ _ => true
    | _ => false
  | .call { callee := .builtin .len, args, .. } => match args.toList.map (ev σ.env) with
    | [.mp (some _)] => true
    | _ => false
  | .call { callee := .value f, args, .. } => match ev σ.env f with
    | .fn _ a c => !(coldAll a && coldAll (args.toList.map (ev σ.env)) && coldAll c)
    | _ => true
  | _ => false

/-- Two states, at all that an operation looks at. -/
structure AgO (σ σ' : St) (o : Oper) : Prop where
  t : ∀ t ∈ tmpsOf o, AgT σ σ' t
  s : ∀ t ∈ tmpsOf o, ∀ s, refTo σ t = some s → Agr (σ.env.getD s .undef) (σ'.env.getD s .undef)
  b : ∀ s ∈ boxR σ o, σ.env.getD s .undef = σ'.env.getD s .undef
  h : heapR σ o = true → σ.h = σ'.h
  o : ∀ k ∈ objR σ o, σ.h.get k = σ'.h.get k

section
variable {Y : YP} {σ σ' : St} {o : Oper}

theorem AgO.ev (h : AgO σ σ' o) {x : Operand} (hx : x ∈ o.op.operands) : ev σ'.env x = ev σ.env x := by
  cases x with
  | tmp t => exact (h.t t (mem_tmpsOf hx)).env.plain.symm
  | _ => rfl

theorem AgO.addr (h : AgO σ σ' o) {x : Operand} (hx : x ∈ o.op.operands) : addr σ' x = addr σ x := by
  cases x with
  | tmp t =>
    have h1 := h.t t (mem_tmpsOf hx)
    have h2 := h.s t (mem_tmpsOf hx)
    simp only [Go.Y.addr]
    rcases h1.env with he | ⟨cs, cs', e1, e2⟩
    · simp only [refTo] at h2
      rw [← he, ← h1.ref]
      split
      · rfl
      · rfl
      · rfl
      · rename_i hr
        rw [hr] at h2
        cases hl : lookRef σ.refs t with
        | none => rfl
        | some so =>
          obtain ⟨s, off⟩ := so
          have h3 := h2 s (by simp [hl])
          simp only
          rcases h3 with h3 | ⟨_, _, e1, e2⟩
          · rw [h3]
          · rw [e1, e2]
      · rfl
    · rw [e1, e2]
  | _ => rfl

theorem fillY_congr {e e' : Operand → V} {place : Nat → Option (Nat × Nat)} : ∀ {l : List (Nat × Operand)} {cs : List V}, (∀ p ∈ l, e' p.2 = e p.2) → fillY e' place l cs = fillY e place l cs
  | [], _, _ => rfl
  | p :: r, cs, h => by
    simp only [fillY]
    rw [h p (by simp)]
    split
    · split
      · exact fillY_congr fun q hq => h q (by simp [hq])
      · rfl
    · rfl

theorem map_congr {e e' : Operand → V} {l : List Operand} (h : ∀ x ∈ l, e' x = e x) : l.map e' = l.map e := List.map_congr_left h

theorem elemsS_heap {k : Nat} {v : V} (hh : ∀ p l c k', v = .sl (some p) l c k' → σ.h = σ'.h) : elemsS σ' k v = elemsS σ k v := by
  unfold elemsS
  split
  · rfl
  · rename_i id off len cap k'
    have := hh _ _ _ _ rfl
    simp only [cellsAt, this]
  · rfl
  · rfl

theorem fieldA_local (h : AgO σ σ' o) {t : TypeId} {x : Operand} {f : Nat} (hx : x ∈ o.op.operands) : fieldA Y σ' t x f = fieldA Y σ t x f := by
  unfold fieldA; rw [h.addr hx]

theorem indexA_local (h : AgO σ σ' o) {t : TypeId} {x : Operand} {v : V} (hx : x ∈ o.op.operands) : indexA Y σ' t x v = indexA Y σ t x v := by
  unfold indexA; rw [h.addr hx, h.ev hx]

theorem opQ_local (h : AgO σ σ' o) : opQ Y σ' o = opQ Y σ o := by
  have hev := @AgO.ev σ σ' o h
  have had := @AgO.addr σ σ' o h
  have hb := h.b
  have hh := h.h
  have ho := h.o
  unfold boxR at hb
  unfold heapR at hh
  unfold objR at ho
  unfold opQ
  cases hop : o.op with
  | move x => rw [hop] at hev; simp only [hev (x := x) (by simp [Op.operands])]
  | assign x => rw [hop] at hev; simp only [hev (x := x) (by simp [Op.operands])]
  | pick c x y => rw [hop] at hev; simp only [hev (x := c) (by simp [Op.operands]), hev (x := x) (by simp [Op.operands]), hev (x := y) (by simp [Op.operands])]
  | nilCheck x => rw [hop] at hev had; simp only [hev (x := x) (by simp [Op.operands]), had (x := x) (by simp [Op.operands])]
  | binOp op t x y g => rw [hop] at hev; simp only [hev (x := x) (by simp [Op.operands]), hev (x := y) (by simp [Op.operands])]
  | unOp op t x => rw [hop] at hev; simp only [hev (x := x) (by simp [Op.operands])]
  | makeFunc f a c =>
    rw [hop] at hev
    simp only
    rw [map_congr (e' := Go.Y.ev σ'.env) (e := Go.Y.ev σ.env) (l := a.toList) fun x hx => hev (by simp at hx; simp [Op.operands, hx]), map_congr (e' := Go.Y.ev σ'.env) (e := Go.Y.ev σ.env) (l := c.toList) fun x hx => hev (by simp at hx; simp [Op.operands, hx])]
  | makeInterface t x => rw [hop] at hev; simp only [hev (x := x) (by simp [Op.operands])]
  | build t parts =>
    rw [hop] at hev
    have hp : ∀ p ∈ parts.toList, Go.Y.ev σ'.env p.2 = Go.Y.ev σ.env p.2 := fun p hp => hev (by simp only [Op.operands, List.mem_toArray, List.mem_map]; exact ⟨p, hp, rfl⟩)
    simp only [fillY_congr (e' := Go.Y.ev σ'.env) (e := Go.Y.ev σ.env) hp]
  | load t x =>
    rw [hop] at had hb ho
    simp only [had (x := x) (by simp [Op.operands])]
    cases ha : Go.Y.addr σ x with
    | none => cases Y.ty t <;> rfl
    | some ad =>
      cases ad with
      | lb s off =>
        simp only [ha] at hb
        have := hb s (by simp)
        cases Y.ty t with
        | none => rfl
        | some ti => simp only [cellsAt, this]
      | hp id off =>
        simp only [ha] at ho
        have := ho id (by simp)
        cases Y.ty t with
        | none => rfl
        | some ti => simp only [cellsAt, this]
      | ro cs => cases Y.ty t <;> rfl
  | fieldAddr t x f => simp only [fieldA_local (Y := Y) h (t := t) (x := x) (f := f) (by simp [hop, Op.operands])]
  | indexAddr t x ix =>
    have e1 : Go.Y.ev σ'.env ix = Go.Y.ev σ.env ix := h.ev (by simp [hop, Op.operands])
    simp only [e1, indexA_local (Y := Y) h (t := t) (x := x) (by simp [hop, Op.operands])]
  | field t x f => rw [hop] at hev; simp only [hev (x := x) (by simp [Op.operands])]
  | index t x ix => rw [hop] at hev; simp only [hev (x := x) (by simp [Op.operands]), hev (x := ix) (by simp [Op.operands])]
  | extract t ix => rw [hop] at hev; simp only [hev (x := t) (by simp [Op.operands])]
  | slice t x lo hi mx =>
    rw [hop] at hev
    have e1 : lo.map (Go.Y.ev σ'.env) = lo.map (Go.Y.ev σ.env) := by cases lo with | none => rfl | some y => simp only [Option.map_some, hev (x := y) (by simp [Op.operands])]
    have e2 : hi.map (Go.Y.ev σ'.env) = hi.map (Go.Y.ev σ.env) := by cases hi with | none => rfl | some y => simp only [Option.map_some, hev (x := y) (by simp [Op.operands])]
    have e3 : mx.map (Go.Y.ev σ'.env) = mx.map (Go.Y.ev σ.env) := by cases mx with | none => rfl | some y => simp only [Option.map_some, hev (x := y) (by simp [Op.operands])]
    simp only [hev (x := x) (by simp [Op.operands]), e1, e2, e3]
  | convert s d x =>
    rw [hop] at hev hh
    have e1 : ∀ k v, v = Go.Y.ev σ.env x → elemsS σ' k v = elemsS σ k v := fun k v hv => elemsS_heap fun p l c k' he => hh (by simp only [← hv, he])
    simp only [hev (x := x) (by simp [Op.operands])]
    split <;> try rfl
    rename_i hk hd _ _ _ _
    split
    · rw [e1 _ _ rfl]
    · rfl
  | call c =>
    obtain ⟨callee, args, ats⟩ := c
    rw [hop] at hev hh
    cases callee with
    | builtin b =>
      have hm : args.toList.map (Go.Y.ev σ'.env) = args.toList.map (Go.Y.ev σ.env) := map_congr fun x hx => hev (by simp at hx; simp [Op.operands, Call.operands, hx])
      cases b with
      | len =>
        simp only
        split
        · rename_i t x h1 h2
          have e1 : Go.Y.ev σ'.env x = Go.Y.ev σ.env x := by
            have := hm
            rw [h2] at this
            simpa using this
          rw [e1]
          split <;> try rfl
          rename_i r _ hr
          have := hh (by simp only [h2, List.map_cons, List.map_nil, hr])
          rw [this]
        · rfl
      | max => simp only [hm]
      | min => simp only [hm]
      | _ => rfl
    | _ => rfl
  | _ => rfl

/-! ### Calls -/
theorem stepY_callE {loc : Nat → Bool} {f : FuncId} {args : List V} (hs : stepY Y loc σ o = some (.call f args)) :
    ∃ (fo : Operand) (as : Array Operand) (ats : Array TypeId) (a c : List V), o.op = .call ⟨.value fo, as, ats⟩ ∧ ev σ.env fo = .fn (.func f) a c ∧ args = a ++ as.toList.map (ev σ.env) ++ c := by
  unfold stepY at hs
  split at hs
  · simp only [Option.map_eq_some_iff] at hs
    obtain ⟨_, _, he⟩ := hs
    cases he
  · split at hs
    · split at hs
      · simp only [Option.map_eq_some_iff] at hs; obtain ⟨_, _, he⟩ := hs; cases he
      · cases hs
    · split at hs
      · split at hs
        · simp only [Option.map_eq_some_iff] at hs; obtain ⟨_, _, he⟩ := hs; cases he
        · cases hs
      · cases hs
    · split at hs
      · split at hs
        · simp only [Option.map_eq_some_iff] at hs; obtain ⟨_, _, he⟩ := hs; cases he
        · cases hs
      · cases hs
    · split at hs
      · split at hs
        · split at hs
          · cases hs
          · split at hs <;> cases hs
        · cases hs
      · cases hs
    · split at hs
      · split at hs
        · split at hs <;> cases hs
        · cases hs
      · cases hs
    · split at hs
      · split at hs
        · split at hs <;> cases hs
        · cases hs
      · cases hs
    · split at hs
      · split at hs <;> cases hs
      · cases hs
    · rename_i fo ops ats hop
      split at hs
      · rename_i g fa fc hf
        simp only [Option.some.injEq, R.call.injEq] at hs
        obtain ⟨rfl, rfl⟩ := hs
        exact ⟨fo, ops, ats, fa, fc, hop, hf, rfl⟩
      · cases hs
    · cases hs

theorem stepY_callI {loc : Nat → Bool} {f : FuncId} {fo : Operand} {as : Array Operand} {ats : Array TypeId} {a c : List V} (hop : o.op = .call ⟨.value fo, as, ats⟩) (hf : ev σ.env fo = .fn (.func f) a c) :
    stepY Y loc σ o = some (.call f (a ++ as.toList.map (ev σ.env) ++ c)) := by
  simp [stepY, opQ, hop, hf]

theorem call_local (h : AgO σ σ' o) {loc : Nat → Bool} {f : FuncId} {args : List V} (hs : stepY Y loc σ o = some (.call f args)) : stepY Y loc σ' o = some (.call f args) := by
  obtain ⟨fo, as, ats, a, c, hop, hf, rfl⟩ := stepY_callE hs
  have hev := @AgO.ev σ σ' o h
  rw [hop] at hev
  rw [← map_congr (e' := Go.Y.ev σ'.env) (e := Go.Y.ev σ.env) (l := as.toList) fun x hx => hev (by simp at hx; simp [Op.operands, Call.operands, hx])]
  exact stepY_callI hop (by rw [hev (x := fo) (by simp [Op.operands, Call.operands])]; exact hf)

theorem flat1_frz {v v' : V} (h : flat1 v = true) {h1 h2 : Heap} (f : Frz h1 v v') : Frz h2 v v' := by
  unfold flat1 at h
  split at h <;> first
    | (cases f <;> first | exact .b _ | exact .i _ _ | exact .s _ | exact .pn | exact .mpn | exact .nilfn | exact .nilifc | (rename_i h1 h2; cases h1; cases h2; exact .fn _ _ _ _ _ .nil .nil) | exact .sln _ _ _ (by assumption) | exact .sln0 _ _)
    | cases h
theorem flats1_frz {h1 h2 : Heap} : ∀ {l l' : List V}, flats1 l = true → FrzL h1 l l' → FrzL h2 l l'
  | [], _, _, f => by cases f; exact .nil
  | v :: r, _, h, f => by
    simp only [flats1, Bool.and_eq_true] at h
    cases f with | cons _ _ _ _ hv hl => exact .cons _ _ _ _ (flat1_frz h.1 hv) (flats1_frz h.2 hl)
theorem cold1_frz {v v' : V} (h : cold1 v = true) {h1 h2 : Heap} (f : Frz h1 v v') : Frz h2 v v' := by
  unfold cold1 at h
  split at h
  · cases f with | ts _ _ _ _ hp => exact .ts _ _ _ _ hp
  · cases f; exact .tp _
  · exact flat1_frz h f
theorem colds1_frz {h1 h2 : Heap} : ∀ {l l' : List V}, colds1 l = true → FrzL h1 l l' → FrzL h2 l l'
  | [], _, _, f => by cases f; exact .nil
  | v :: r, _, h, f => by
    simp only [colds1, Bool.and_eq_true] at h
    cases f with | cons _ _ _ _ hv hl => exact .cons _ _ _ _ (cold1_frz h.1 hv) (colds1_frz h.2 hl)
theorem cold2_frz {v v' : V} (h : cold2 v = true) {h1 h2 : Heap} (f : Frz h1 v v') : Frz h2 v v' := by
  unfold cold2 at h
  split at h
  · cases f with | agg _ _ hc => exact .agg _ _ (colds1_frz h hc)
  · exact cold1_frz h f
theorem coldAll_frz {h1 h2 : Heap} : ∀ {l l' : List V}, coldAll l = true → FrzL h1 l l' → FrzL h2 l l'
  | [], _, _, f => by cases f; exact .nil
  | v :: r, _, h, f => by
    simp only [coldAll, Bool.and_eq_true] at h
    cases f with | cons _ _ _ _ hv hl => exact .cons _ _ _ _ (cold2_frz h.1 hv) (coldAll_frz h.2 hl)

theorem cold1_ok {v : V} (h : cold1 v = true) (h0 : Heap) : Frz h0 v v := by
  unfold cold1 at h
  split at h
  · exact .ts _ _ _ _ fun _ h => h
  · exact .tp _
  · exact flat1_ok h h0
theorem colds1_ok (h0 : Heap) : ∀ {l : List V}, colds1 l = true → FrzL h0 l l
  | [], _ => .nil
  | v :: r, h => by simp only [colds1, Bool.and_eq_true] at h; exact .cons _ _ _ _ (cold1_ok h.1 h0) (colds1_ok h0 h.2)
theorem cold2_ok {v : V} (h : cold2 v = true) (h0 : Heap) : Frz h0 v v := by
  unfold cold2 at h
  split at h
  · exact .agg _ _ (colds1_ok h0 h)
  · exact cold1_ok h h0
theorem coldAll_ok (h0 : Heap) : ∀ {l : List V}, coldAll l = true → FrzL h0 l l
  | [], _ => .nil
  | v :: r, h => by simp only [coldAll, Bool.and_eq_true] at h; exact .cons _ _ _ _ (cold2_ok h.1 h0) (coldAll_ok h0 h.2)
theorem coldAll_cold {l : List V} (h : coldAll l = true) : Cold l := coldAll_ok _ h
theorem coldAll_append {l m : List V} : coldAll (l ++ m) = (coldAll l && coldAll m) := by
  induction l with
  | nil => rfl
  | cons v r ih => simp only [List.cons_append, coldAll, ih, Bool.and_assoc]

theorem stepH_local (h : AgO σ σ' o) (hh : σ.h = σ'.h) {loc : Nat → Bool} : stepH Y loc σ' o = stepH Y loc σ o := by
  have hev := @AgO.ev σ σ' o h
  have had := @AgO.addr σ σ' o h
  unfold stepH
  cases hop : o.op with
  | alloc t => simp only [hh]
  | box t x => rw [hop] at hev; simp only [hev (x := x) (by simp [Op.operands]), hh]
  | store t x y => rw [hop] at hev had; simp only [hev (x := y) (by simp [Op.operands]), had (x := x) (by simp [Op.operands]), hh]
  | buildSlice t n parts =>
    rw [hop] at hev
    have hp : ∀ p ∈ parts.toList, Go.Y.ev σ'.env p.2 = Go.Y.ev σ.env p.2 := fun p hp => hev (by simp only [Op.operands, List.mem_toArray, List.mem_map]; exact ⟨p, hp, rfl⟩)
    simp only [fillY_congr (e' := Go.Y.ev σ'.env) (e := Go.Y.ev σ.env) hp, hh]
  | makeSlice t x y => rw [hop] at hev; simp only [hev (x := x) (by simp [Op.operands]), hev (x := y) (by simp [Op.operands]), hh]
  | convert s d x => rw [hop] at hev; simp only [hev (x := x) (by simp [Op.operands]), hh]
  | call c =>
    obtain ⟨callee, args, ats⟩ := c
    rw [hop] at hev
    cases callee with
    | builtin b =>
      cases b with
      | append =>
        simp only
        split
        · rename_i s x st xt h1 h2
          have e1 : Go.Y.ev σ'.env s = Go.Y.ev σ.env s := hev (by
            have : s ∈ args.toList := by rw [h1]; simp
            simp at this; simp [Op.operands, Call.operands, this])
          have e2 : Go.Y.ev σ'.env x = Go.Y.ev σ.env x := hev (by
            have : x ∈ args.toList := by rw [h1]; simp
            simp at this; simp [Op.operands, Call.operands, this])
          have e3 : ∀ s x, appendY Y σ' st xt s x = appendY Y σ st xt s x := fun s x => by
            show appendY Y ⟨[], [], σ'.h⟩ st xt s x = appendY Y ⟨[], [], σ.h⟩ st xt s x
            rw [hh]
          rw [e1, e2, e3]
        · rfl
      | _ => rfl
    | _ => rfl
  | _ => rfl

theorem exoQ_local (h : AgO σ σ' o) : exoQ Y σ' o = exoQ Y σ o := by
  have hev := @AgO.ev σ σ' o h
  unfold exoQ
  cases hop : o.op with
  | call c =>
    obtain ⟨callee, args, ats⟩ := c
    rw [hop] at hev
    cases callee with
    | value fo =>
      simp only [hev (x := fo) (by simp [Op.operands, Call.operands])]
      rw [← map_congr (e' := Go.Y.ev σ'.env) (e := Go.Y.ev σ.env) (l := args.toList) fun x hx => hev (by simp at hx; simp [Op.operands, Call.operands, hx])]
    | builtin b =>
      cases b with
      | unsafeSliceData =>
        simp only
        split
        · rename_i x h1
          rw [hev (x := x) (by
            have : x ∈ args.toList := by rw [h1]; simp
            simp at this; simp [Op.operands, Call.operands, this])]
        · rfl
      | _ => rfl
    | _ => rfl
  | _ => rfl

theorem exoH_local (h : AgO σ σ' o) (hh : σ.h = σ'.h) : exoH Y σ' o = exoH Y σ o := by
  have hev := @AgO.ev σ σ' o h
  unfold exoH
  cases hop : o.op with
  | convert s d x => rw [hop] at hev; simp only [hev (x := x) (by simp [Op.operands]), hh]
  | binOp op t x y z => rw [hop] at hev; simp only [hev (x := x) (by simp [Op.operands]), hev (x := y) (by simp [Op.operands]), hh]
  | call c =>
    obtain ⟨callee, args, ats⟩ := c
    rw [hop] at hev
    cases callee with
    | builtin b =>
      cases b with
      | unsafeString =>
        simp only
        split
        · rename_i x n pt it h1 h2
          have e1 : Go.Y.ev σ'.env x = Go.Y.ev σ.env x := hev (by
            have : x ∈ args.toList := by rw [h1]; simp
            simp at this; simp [Op.operands, Call.operands, this])
          have e2 : Go.Y.ev σ'.env n = Go.Y.ev σ.env n := hev (by
            have : n ∈ args.toList := by rw [h1]; simp
            simp at this; simp [Op.operands, Call.operands, this])
          rw [e1, e2, hh]
        · rfl
      | _ => rfl
    | _ => rfl
  | _ => rfl

theorem StepE.local (h : AgO σ σ' o) {loc : Nat → Bool} {e : Ef} (hh : ∀ h v, e = .hp h v → σ.h = σ'.h) (hal : ∀ i x v, e = .al i x v → σ.h = σ'.h) (s : StepE Y loc σ o e) : StepE Y loc σ' o e := by
  have hev := @AgO.ev σ σ' o h
  have had := @AgO.addr σ σ' o h
  cases s with
  | quiet q hq => exact .quiet q (by rw [opQ_local h]; exact hq)
  | alloc t ti d hop hti hd hl => exact .alloc t ti d hop hti hd hl
  | boxl t x ti d hop hti hd hl hs hc =>
    rw [hop] at hev
    have e1 := hev (x := x) (by simp [Op.operands])
    rw [← e1] at hs hc ⊢
    exact .boxl t x ti d hop hti hd hl hs hc
  | stl t y x ti s off cs hop hti ha hcs hs hc hb =>
    have hbx := h.b s (by simp [boxR, hop, ha])
    rw [hop] at hev had
    have e1 := hev (x := x) (by simp [Op.operands])
    have e2 := had (x := y) (by simp [Op.operands])
    rw [← e1] at hs hc hb ⊢
    exact .stl t y x ti s off cs hop hti (by rw [e2]; exact ha) (by rw [← hbx]; exact hcs) hs hc hb
  | bs t n parts et te cs hop hk hte hsz hf hc =>
    rw [hop] at hev
    have hp : ∀ p ∈ parts.toList, Go.Y.ev σ'.env p.2 = Go.Y.ev σ.env p.2 := fun p hp => hev (by simp only [Op.operands, List.mem_toArray, List.mem_map]; exact ⟨p, hp, rfl⟩)
    exact .bs t n parts et te cs hop hk hte hsz (by rw [fillY_congr (e' := Go.Y.ev σ'.env) (e := Go.Y.ev σ.env) hp]; exact hf) hc
  | pcall f args args' r hs hf hc hp =>
    refine .pcall f args args' r (call_local h hs) ?_ hc hp
    obtain ⟨fo, as, ats, a, c, hop, hfe, rfl⟩ := stepY_callE hs
    have h3 := h.h
    simp only [heapR, hop, hfe] at h3
    cases hcold : (coldAll a && coldAll (as.toList.map (ev σ.env)) && coldAll c) with
    | true =>
      refine coldAll_frz ?_ hf
      rw [coldAll_append, coldAll_append]
      exact hcold
    | false => rw [← h3 (by simp [hcold])]; exact hf
  | exq v hs => exact .exq v (by rw [exoQ_local h]; exact hs)
  | exh h' v hs => exact .exh h' v (by rw [exoH_local h (hh _ _ rfl)]; exact hs)
  | heap h' v hs => exact .heap h' v (by rw [stepH_local h (hh _ _ rfl)]; exact hs)
  | icall f args h' v hs hc => exact .icall f args h' v (call_local h hs) (by rw [← hh _ _ rfl]; exact hc)
  | icallA f args x v hs hc =>
    have e := hal _ _ _ rfl
    rw [e]
    exact .icallA f args x v (call_local h hs) (by rw [← e]; exact hc)
  | icallR f args l h1 hN v r hs hcold hc hsame htg hN1 hf =>
    obtain ⟨fo, as, ats, a, c, hop, hfe, rfl⟩ := stepY_callE hs
    have h3 : σ.h = σ'.h := by
      refine h.h ?_
      rw [coldAll_append, coldAll_append] at hcold
      simp only [heapR, hop, hfe, hcold, Bool.not_false]
    refine .icallR f _ l h1 hN v r (call_local h hs) hcold (by rw [← h3]; exact hc) (by rw [← h3]; exact hsame) (by rw [← h3]; exact htg) (by rw [← h3]; exact hN1) hf
  | icallz f args args' D h' v hs hf hc => exact .icallz f args args' D h' v (call_local h hs) (by rw [← hh _ _ rfl]; exact hf) (by rw [← hh _ _ rfl]; exact hc)
end
end Go.Y
