/- What an operation does beyond its slot. -/
import Derived.Test.YteennilbmmlikaaGreatDoorYNew
import Derived.Orders
namespace Go.Y

structure Con (Y : YP) (f : FuncId) (args : List V) (h : Heap) (Q : V → Heap → Prop) : Prop where
  body : hasBody Y f
  tr : CallTr Y f args h Q

theorem Con.mono {Y : YP} {f : FuncId} {args : List V} {h : Heap} {Q Q' : V → Heap → Prop} (c : Con Y f args h Q) (hq : ∀ v h', Q v h' → Q' v h') : Con Y f args h Q' := ⟨c.body, c.tr.mono hq⟩

theorem Con.lo {Y : YP} {f : FuncId} {args : List V} {h h1 : Heap} {l l' : Nat} {v : V} (c : Con Y f args { h with lo := l } fun v' h' => v' = v ∧ h' = h1) : Con Y f args h fun v' h' => v' = v ∧ h' = { h1 with lo := l' } :=
  ⟨c.body, fun W w us hr hv => (c.tr W w us (hr.ext (fun _ => rfl) rfl rfl) hv).mono fun e w' ⟨v', h2, W', u, ⟨e1, e2⟩, h3, h4, h5⟩ => ⟨v', _, W', u, ⟨e1, rfl⟩, h3, by subst e2; exact h4.ext (fun _ => rfl) rfl rfl, h5⟩⟩

inductive Ef where
  | skip
  | q (q : Q)
  | box (cs : List V)
  | st (s : Nat) (cs : List V)
  | hp (h : Heap) (v : V)
  | al (i : Nat) (o : YObj) (v : V)
  | nw (i : Nat) (o : YObj) (v : V)
  deriving Inhabited

def Heap.putAt (h : Heap) (i : Nat) (o : YObj) : Heap := { h with t := Tr.set (i + 1) h.t i (some o), nx := i + 1 }
theorem Heap.putAt_nx (h : Heap) (o : YObj) : h.putAt h.nx o = h.push o := rfl

def Heap.putM (h : Heap) (i : Nat) (o : YObj) : Heap := { h with t := Tr.set (i + 1) h.t i (some o), nx := max h.nx (i + 1) }
theorem Heap.putM_nx (h : Heap) (o : YObj) : h.putM h.nx o = h.push o := by
  unfold Heap.putM Heap.push
  rw [Nat.max_eq_right (Nat.le_succ _)]
theorem Heap.putM_raw (h : Heap) (i j : Nat) (o : YObj) : (h.putM i o).raw j = if j = i then some (some o) else h.raw j := Tr.raw_set _ _ _ _ _ (lt_pow i)
theorem Heap.putM_get (h : Heap) (i j : Nat) (o : YObj) : (h.putM i o).get j = if j = i then some o else h.get j := Tr.get_set _ _ _ _ _ (lt_pow i)
theorem PushH.putM (h : Heap) (i : Nat) (o : YObj) : PushH h (h.putM i o) i o := ⟨fun j => h.putM_raw i j o, ⟨Nat.le_max_left _ _, Nat.lt_of_lt_of_le (Nat.lt_succ_self i) (Nat.le_max_right _ _)⟩, rfl⟩

def stBox (σ : St) (s : Nat) (cs : List V) : St := match σ.env.getD s .undef with
  | .lb _ => { σ with env := σ.env.set s (.lb cs) }
  | _ => σ

def Ef.app (d : Option Tmp) (e : Ef) (σ : St) : St :=
  match e with
  | .skip => putV σ d (.tup [])
  | .q (.val v) => putV σ d v
  | .q (.ref s o) => match d with
    | some d => { σ with env := σ.env.set d .rf, refs := (d, s, o) :: σ.refs }
    | none => σ
  | .box cs => match d with
    | some d => { σ with env := σ.env.set d (.lb cs) }
    | none => σ
  | .st s cs => putV (stBox σ s cs) d .undef
  | .hp h v => putV { σ with h := h } d v
  | .al i o v => putV { σ with h := σ.h.putAt i o } d v
  | .nw i o v => putV { σ with h := σ.h.putM i o } d v
def Ef.appL (d : Option Tmp) (e : Ef) (σ : St) : St :=
  match e with
  | .nw _ o v => putV { σ with h := σ.h.push o } d v
  | e => e.app d σ

def stepH (Y : YP) (loc : Nat → Bool) (σ : St) (o : Oper) : Option (Heap × V) :=
  match o.op with
  | .alloc t => match Y.ty t, o.dst with
    | some ti, some d => if loc d then none else some (σ.h.pushT (Y.tag t) (.arr ti.zero true), .p (some (σ.h.nx, 0)))
    | _, _ => none
  | .box t x => match Y.ty t, o.dst with
    | some ti, some d => if loc d then none else if (ev σ.env x).cells.length = ti.size ∧ allCells (ev σ.env x).cells then some (σ.h.push (.arr (ev σ.env x).cells true), .p (some (σ.h.nx, 0))) else none
    | _, _ => none
  | .store t a x => match Y.ty t, addr σ a with
    | some ti, some (.hp id off) => if (ev σ.env x).cells.length = ti.size ∧ allCells (ev σ.env x).cells then
        match σ.h.get id with
        | some (.arr cs true) => if off + (ev σ.env x).cells.length ≤ cs.length then some (σ.h.set id (some (.arr (splice cs off (ev σ.env x).cells) true)), .undef) else none
        | _ => none
      else none
    | _, _ => none
  | .buildSlice t n parts =>
    match Y.kd t with
    | some (.slice et) => match Y.ty et with
      | some te =>
        if te.size = 0 ∨ n * te.size > 2 ^ 20 then none else
        match fillY (ev σ.env) (fun j => some (j * te.size, te.size)) parts.toList (List.replicate n te.zero).flatten with
        | some cs => some (σ.h.push (.arr cs true), .sl (some (σ.h.nx, 0)) n (some n) te.size)
        | none => none
      | none => none
    | _ => none
  | .makeSlice t l c =>
    match Y.kd t, ev σ.env l, ev σ.env c with
    | some (.slice et), .i _ l, .i _ c => match Y.ty et with
      | some te =>
        if te.size ≠ 0 ∧ 0 ≤ l ∧ l ≤ c ∧ c ≤ most ∧ c * te.bytes ≤ most then
          some (σ.h.push (.arr (List.replicate c.toNat te.zero).flatten true), .sl (some (σ.h.nx, 0)) l.toNat (some c.toNat) te.size)
        else none
      | none => none
    | _, _, _ => none
  | .convert src dst x =>
    match Y.kd src, Y.kd dst, ev σ.env x with
    | some .str, some (.slice et), .s l => match Y.ty et with
      | some te => match te.kd with
        | .int .u8 => some (σ.h.push (.arr (l.map fun c => .i .u8 c.toNat) true), .sl (some (σ.h.nx, 0)) l.length none 1)
        | _ => none
      | none => none
    | _, _, _ => none
  | .call { callee := .builtin .append, args, argTypes } =>
    match args.toList, argTypes.toList with
    | [s, x], [st, xt] => match appendY Y σ st xt (ev σ.env s) (ev σ.env x) with
      | some (v, h) => some (h, v)
      | none => none
    | _, _ => none
  | _ => none

theorem stepH_ok {Y : YP} {loc : Nat → Bool} {σ : St} {o : Oper} {h : Heap} {v : V} (hs : stepH Y loc σ o = some (h, v)) : stepY Y loc σ o = some (.st (putV { σ with h := h } o.dst v)) := by
  unfold stepH at hs
  split at hs
  · rename_i t hop
    split at hs
    · rename_i ti d hti hd
      split at hs
      · cases hs
      · rename_i hl
        simp only [Option.some.injEq, Prod.mk.injEq] at hs
        obtain ⟨rfl, rfl⟩ := hs
        simp [stepY, opQ, hop, hti, hd, allocY, hl, putV]
    · cases hs
  · rename_i t x hop
    split at hs
    · rename_i ti d hti hd
      split at hs
      · cases hs
      · rename_i hl
        split at hs
        · rename_i hc
          simp only [Option.some.injEq, Prod.mk.injEq] at hs
          obtain ⟨rfl, rfl⟩ := hs
          simp [stepY, opQ, hop, hti, hd, allocY, hl, putV, hc]
        · cases hs
    · cases hs
  · rename_i t a x hop
    split at hs
    · rename_i ti id off hti had
      split at hs
      · rename_i hc
        split at hs
        · rename_i cs hg
          split at hs
          · rename_i hb
            simp only [Option.some.injEq, Prod.mk.injEq] at hs
            obtain ⟨rfl, rfl⟩ := hs
            simp only [stepY, opQ, hop, hti, had, storeAt, hg]
            rw [if_pos hc, if_pos hb]
            rfl
          · cases hs
        · cases hs
      · cases hs
    · cases hs
  · rename_i t n parts hop
    split at hs
    · rename_i et hk
      split at hs
      · rename_i te hte
        split at hs
        · cases hs
        · rename_i hsz
          split at hs
          · rename_i cs hf
            simp only [Option.some.injEq, Prod.mk.injEq] at hs
            obtain ⟨rfl, rfl⟩ := hs
            simp only [stepY, opQ, hop, hk, hte, hf]
            rw [if_neg hsz]
          · cases hs
      · cases hs
    · cases hs
  · rename_i t l c hop
    split at hs
    · rename_i et kl l' kc c' hk hl hc
      split at hs
      · rename_i te hte
        split at hs
        · rename_i hin
          simp only [Option.some.injEq, Prod.mk.injEq] at hs
          obtain ⟨rfl, rfl⟩ := hs
          simp only [stepY, opQ, hop, hk, hte, hl, hc]
          rw [if_pos hin]
        · cases hs
      · cases hs
    · cases hs
  · rename_i src dst x hop
    split at hs
    · rename_i et l hks hkd hx
      split at hs
      · rename_i te hte
        split at hs
        · rename_i hke
          simp only [Option.some.injEq, Prod.mk.injEq] at hs
          obtain ⟨rfl, rfl⟩ := hs
          simp [stepY, opQ, hop, hks, hkd, hx, hte, hke]
        · cases hs
      · cases hs
    · cases hs
  · rename_i args ats hop
    split at hs
    · rename_i s x st xt h1 h2
      split at hs
      · rename_i v' h' ha
        simp only [Option.some.injEq, Prod.mk.injEq] at hs
        obtain ⟨rfl, rfl⟩ := hs
        simp [stepY, opQ, hop, h1, h2, ha]
      · cases hs
    · cases hs
  · cases hs

inductive StepE (Y : YP) (loc : Nat → Bool) (σ : St) (o : Oper) : Ef → Prop
  | quiet (q : Q) (h : opQ Y σ o = some q) : StepE Y loc σ o (.q q)
  | alloc (t : TypeId) (ti : TI) (d : Nat) (hop : o.op = .alloc t) (hti : Y.ty t = some ti) (hd : o.dst = some d) (hl : loc d = true) : StepE Y loc σ o (.box ti.zero)
  | boxl (t : TypeId) (x : Operand) (ti : TI) (d : Nat) (hop : o.op = .box t x) (hti : Y.ty t = some ti) (hd : o.dst = some d) (hl : loc d = true)
      (hs : (ev σ.env x).cells.length = ti.size) (hc : allCells (ev σ.env x).cells = true) : StepE Y loc σ o (.box (ev σ.env x).cells)
  | stl (t : TypeId) (a x : Operand) (ti : TI) (s off : Nat) (cs : List V) (hop : o.op = .store t a x) (hti : Y.ty t = some ti) (ha : addr σ a = some (.lb s off)) (hcs : σ.env.getD s .undef = .lb cs)
      (hs : (ev σ.env x).cells.length = ti.size) (hc : allCells (ev σ.env x).cells = true) (hb : off + (ev σ.env x).cells.length ≤ cs.length) : StepE Y loc σ o (.st s (splice cs off (ev σ.env x).cells))
  | bs (t : TypeId) (n : Nat) (parts : Array (Nat × Operand)) (et : TypeId) (te : TI) (cs : List V) (hop : o.op = .buildSlice t n parts) (hk : Y.kd t = some (.slice et)) (hte : Y.ty et = some te)
      (hsz : ¬ (te.size = 0 ∨ n * te.size > 2 ^ 20)) (hf : fillY (ev σ.env) (fun j => some (j * te.size, te.size)) parts.toList (List.replicate n te.zero).flatten = some cs) (hc : Cold cs) : StepE Y loc σ o (.q (.val (.ts cs n (some n))))
  | pcall (f : FuncId) (args args' : List V) (r : V) (hs : stepY Y loc σ o = some (.call f args)) (hf : FrzL σ.h args args') (hc : Cold args ∧ args' = args ∨ flatV r = true) (hp : PCon Y f args' (· = r)) : StepE Y loc σ o (.q (.val r))
  | exq (v : V) (hs : exoQ Y σ o = some v) : StepE Y loc σ o (.q (.val v))
  | exh (h : Heap) (v : V) (hs : exoH Y σ o = some (h, v)) : StepE Y loc σ o (.hp h v)
  | heap (h : Heap) (v : V) (hs : stepH Y loc σ o = some (h, v)) : StepE Y loc σ o (.hp h v)
  | icall (f : FuncId) (args : List V) (h : Heap) (v : V) (hs : stepY Y loc σ o = some (.call f args)) (hc : Con Y f args σ.h fun v' h' => v' = v ∧ h' = h) : StepE Y loc σ o (.hp h v)
  | icallA (f : FuncId) (args : List V) (x : YObj) (v : V) (hs : stepY Y loc σ o = some (.call f args)) (hc : Con Y f args σ.h fun v' h' => v' = v ∧ h' = σ.h.push x) : StepE Y loc σ o (.al σ.h.nx x v)
  | icallR (f : FuncId) (args : List V) (l : Nat) (h1 hN : Heap) (v r : V) (hs : stepY Y loc σ o = some (.call f args)) (hcold : coldAll args = false) (hc : Con Y f args { σ.h with lo := l } fun v' h' => v' = v ∧ h' = h1)
      (hsame : ∀ i, i < σ.h.nx → h1.get i = σ.h.get i) (htg : ∀ p, p ∈ σ.h.tg → p ∈ h1.tg) (hN1 : ∀ i o, hN.get i = some o → h1.get i = some o ∧ σ.h.nx ≤ i) (hf : Frz hN v r) : StepE Y loc σ o (.q (.val r))
  | round (id : Nat) (h : Heap) (v : V) (fo : Operand) (ops : Array Operand) (ats : Array TypeId) (hop : o.op = .call ⟨.value fo, ops, ats⟩) (hf : ev σ.env fo = .yl id) (hc : RdCon Y id (ops.toList.map (ev σ.env)) σ.h fun v' h' => v' = v ∧ h' = h) : StepE Y loc σ o (.hp h v)
  | lkq (v : V) (hs : lookQ Y σ o = some v) : StepE Y loc σ o (.q (.val v))
  | mph (h : Heap) (v : V) (hs : mapH Y σ o = some (h, v)) : StepE Y loc σ o (.hp h v)
  | nwp (x : YObj) (vf : Nat → V) (hs : newO Y σ o = some (x, vf)) : StepE Y loc σ o (.hp (σ.h.push x) (vf σ.h.nx))
  | nw (x : YObj) (vf : Nat → V) (hs : newO Y σ o = some (x, vf)) : StepE Y loc σ o (.nw σ.h.nx x (vf σ.h.nx))
  | icallz (f : FuncId) (args args' : List V) (D : List Nat) (h : Heap) (v : V) (hs : stepY Y loc σ o = some (.call f args)) (hf : FrzAL (takeD σ.h D) args args') (hc : Con Y f args' (killD σ.h D) fun v' h' => v' = v ∧ h' = h) : StepE Y loc σ o (.hp h v)

section
variable {Y : YP} {σ σ' : St} {W : Vw} {a : Act} {w : World}

theorem putQ_val' (σ : St) (d : Option Tmp) (v : V) : putQ σ d (.val v) = some (putV σ d v) := by cases d <;> rfl

theorem filter_self {α : Type} {p : α → Bool} {l : List α} (h : ∀ x ∈ l, p x = true) : l.filter p = l := List.filter_eq_self.2 h

theorem run_callFunc (hY : YOK Y) {f : FuncId} (hb : hasBody Y f) (us : Array Value) (w : World) : (callFunc f us).run Y.P w = .ok (.enter f us) w := by
  obtain ⟨fn, body, hf, hbd⟩ := hb
  have hnm : ¬ fn.name = "runtime.NumGoroutine" := by simpa using hY.name f fn hf
  simp [callFunc, hf, hnm, hbd]

theorem wpIn_of_wp {ro : Option Nat} {P : Program} {o : Oper} {K : Act → World → Prop} {Q : Exit → Act → World → Prop} (hd : ∀ c, o.op ≠ .defer c) (h : o.wp P a w K Q) : o.wpIn (FrR ro) 0 P a w K Q := by
  refine ⟨fun _ _ => trivial, ?_⟩
  rw [Oper.semAt_eq _ _ _ hd]
  unfold Oper.wp at h
  generalize (execOp a.eval o).run P w = r at h
  cases r with
  | halt x w' => cases x <;> first | exact h | exact h.elim
  | ok n w' =>
    cases n <;> first
      | exact h
      | exact ⟨fun h => by simp [FrR, Fence.wide] at h, (callsIn_wide (n := 0)).2 h⟩
      | exact ⟨fun h => by simp [FrR, Fence.wide] at h, fun c cs _ => let ⟨v, w', r, s⟩ := h c cs; ⟨v, w', r, stepsIn_wide.2 s⟩⟩
      | exact h.elim

theorem round_wp {ro : Option Nat} (h : Rel W σ a w) {o : Oper} {fo : Operand} {ops : Array Operand} {ats : Array TypeId} {id : Nat} (hop : o.op = .call ⟨.value fo, ops, ats⟩) (hf : ev σ.env fo = .yl id) {QQ : V → Heap → Prop}
    (hc : RdCon Y id (ops.toList.map (ev σ.env)) σ.h QQ) {K : Act → World → Prop} {Q : Exit → Act → World → Prop}
    (hK : ∀ (v : V) (h' : Heap) (W' : Vw) (u : Value) (w' : World), QQ v h' → HRel W' h' w' → VR W' v u → Stp W W.own w W' W'.own w' → K (a.put o.dst u) w') : o.wpIn (FrR ro) 0 Y.P a w K Q := by
  have hfo := h.ev fo
  rw [hf] at hfo
  generalize hfe : a.eval fo = uf at hfo
  cases hfo with
  | yl _ l hid hl =>
    obtain ⟨hlv, f, tmps, assign, body, hy, hr⟩ := hc.tr W w _ h.heap (h.evs ops.toList)
    have hll := hl hlv
    subst hll
    refine ⟨fun _ _ => trivial, ?_⟩
    rw [Oper.semAt_eq _ _ _ (by rw [hop]; intro c hc; cases hc)]
    have e1 : (#[] ++ ops.map a.eval) = (ops.toList.map a.eval).toArray := by apply Array.ext'; simp
    have hrun : (execOp a.eval o).run Y.P w = .ok (.round (W.mu id).1 f tmps assign body) w := by
      simp only [execOp, hop, resolve, hfe, Deferred.ofValue, Sem.run_bind, Sem.run_pure, Result.andThen_ok, invoke, e1]
      exact hy
    rw [hrun]
    refine ⟨fun h => by simp [FrR, Fence.wide] at h, ?_⟩
    refine RoundIn.mono (F := Fence.wide) hr ?_
    rintro e w' ⟨v, h', W', u, q1, rfl, q2, q3, q4⟩
    exact hK v h' W' u w' q1 q2 q3 q4

theorem stepR_wp {o : Oper} {σ' : St} (h : StepR Y W σ a w o σ') {K : Act → World → Prop} {Q : Exit → Act → World → Prop}
    (hK : ∀ W' a' w', Rel W' σ' a' w' → Stp W (mine W σ a) w W' (mine W' σ' a') w' → K a' w') : o.wp Y.P a w K Q := by
  obtain ⟨W', w', u, n, hrun, hn, hr', hs'⟩ := h
  unfold Oper.wp
  rw [hrun]
  rcases hn with rfl | ⟨rfl, rfl⟩
  · exact hK W' _ _ hr' hs'
  · exact hK W' _ _ hr' hs'

theorem bs_ok (hY : YOK Y) (h : Rel W σ a w) {o : Oper} {t et : TypeId} {n : Nat} {parts : Array (Nat × Operand)} {te : TI} {cs : List V} (hop : o.op = .buildSlice t n parts) (hk : Y.kd t = some (.slice et)) (hte : Y.ty et = some te)
    (hsz : ¬ (te.size = 0 ∨ n * te.size > 2 ^ 20)) (hf : fillY (ev σ.env) (fun j => some (j * te.size, te.size)) parts.toList (List.replicate n te.zero).flatten = some cs) (hc : Cold cs) : StepR Y W σ a w o (putV σ o.dst (.ts cs n (some n))) := by
  obtain ⟨us, h1, hlen, hrun⟩ := run_bs hY h hop hk hte hsz hf
  have hsn : ∀ b ob, W.snap b = some ob → (if b = w.heap.size then some (Obj.cells us.toArray et) else W.snap b) = some ob := fun b ob hb => by
    have := lt_of_block (h.heap.snap b ob hb)
    rw [if_neg (by omega)]; exact hb
  obtain ⟨g1, g2⟩ := h.more (w' := w.alloc (.cells us.toArray et)) (s := fun b => if b = w.heap.size then some (.cells us.toArray et) else W.snap b) hsn (by simp) (fun b hb => alloc_other _ _ _ (by omega)) (fun b ob hb => by
    split at hb
    · rename_i he; subst he; rw [alloc_at]; exact hb
    · rw [alloc_other _ _ _ (by assumption)]; exact h.heap.snap b ob hb) ⟨rfl, rfl, rfl⟩
  have hv : VR (W.more w.heap.size fun b => if b = w.heap.size then some (.cells us.toArray et) else W.snap b) (.ts cs n (some n)) (.slice (some ⟨w.heap.size, 0, none⟩) n n) := by
    refine .ts _ _ _ _ _ _ us.toArray et (0, 0) us (Nat.le_refl _) (fun c hc => by simpa using hc) (by simp [Vw.more]) (fun j u hj => by simpa using hj) (hc.vrs (fun b ob hb => ?_) h1)
    simp only [Vw.dead, Vw.more]
    have := lt_of_block (h.heap.snap b ob hb)
    rw [if_neg (by omega)]; exact hb
  exact ⟨_, _, _, _, hrun, .inl rfl, g1.putV hv o.dst, g2.weaken fun b hb => mine_putV hv o.dst hb⟩

theorem StepE.nwI {loc : Nat → Bool} {o : Oper} {i : Nat} {x : YObj} {v : V} (hs : StepE Y loc σ o (.nw i x v)) : i = σ.h.nx ∧ ∃ vf, v = vf i ∧ newO Y σ o = some (x, vf) := by
  cases hs with
  | nw x vf hs => exact ⟨rfl, vf, rfl, hs⟩
theorem StepE.appL {loc : Nat → Bool} {o : Oper} {e : Ef} (hs : StepE Y loc σ o e) (d : Option Tmp) : e.appL d σ = e.app d σ := by
  cases e with
  | nw i x v =>
    obtain ⟨rfl, _⟩ := hs.nwI
    simp only [Ef.appL, Ef.app, Heap.putM_nx]
  | _ => rfl

theorem StepE.nd {loc : Nat → Bool} {o : Oper} {e : Ef} (hs : StepE Y loc σ o e) : ∀ c, o.op ≠ .defer c := by
  intro c hc
  cases hs with
  | quiet q h => simp [opQ, hc] at h
  | alloc _ _ _ hop | boxl _ _ _ _ hop | stl _ _ _ _ _ _ _ hop | bs _ _ _ _ _ _ hop | round _ _ _ _ _ _ hop => rw [hc] at hop; cases hop
  | pcall _ _ _ _ hs | icall _ _ _ _ hs | icallA _ _ _ _ hs | icallR _ _ _ _ _ _ _ hs | icallz _ _ _ _ _ _ hs => simp [stepY, opQ, hc] at hs
  | exq _ hs => simp [exoQ, hc] at hs
  | exh _ _ hs => simp [exoH, hc] at hs
  | heap _ _ hs => simp [stepH, hc] at hs
  | nw _ _ hs | nwp _ _ hs => simp [newO, hc] at hs
  | mph _ _ hs => simp [mapH, hc] at hs
  | lkq _ hs => simp [lookQ, hc] at hs

theorem stepE_ok0 (hY : YOK Y) {loc : Nat → Bool} (h : Rel W σ a w) {o : Oper} {e : Ef} (hs : StepE Y loc σ o e) (hk : ∀ s f, e = .q (.ref s f) → ∀ x ∈ σ.refs, o.dst ≠ some x.1) (hb : ∀ cs, e = .box cs → ∀ x ∈ σ.refs, o.dst ≠ some x.2.1)
    {K : Act → World → Prop} {Q : Exit → Act → World → Prop} (hK : ∀ W' a' w', Rel W' (e.app o.dst σ) a' w' → Stp W (mine W σ a) w W' (mine W' (e.app o.dst σ) a') w' → K a' w') 
    (hro : ∀ fo ops ats, o.op = .call ⟨.value fo, ops, ats⟩ → ∀ id, ev σ.env fo ≠ .yl id) : o.wp Y.P a w K Q := by
  have hbox : ∀ cs d tg, e = .box cs → o.dst = some d → allocY loc σ o.dst cs tg = (if loc d then some (e.app o.dst σ) else allocY loc σ o.dst cs tg) := by
    intro cs d tg he hd
    split
    · rename_i hl
      subst he
      simp only [allocY, hd, hl, if_true, Ef.app]
      rw [filter_self]
      intro x hx
      have := hb cs rfl x hx
      rw [hd] at this
      simp only [bne_iff_ne, ne_eq]
      exact fun he => this (by rw [he])
    · rfl
  cases hs with
  | quiet q hq =>
    cases q with
    | val v => exact stepR_wp (StepR.quiet hY h hq (putQ_val' σ o.dst v)) hK
    | ref s off =>
      refine stepR_wp (StepR.quiet hY h hq (σ' := (Ef.q (.ref s off)).app o.dst σ) ?_) hK
      cases hd : o.dst with
      | none => rfl
      | some d =>
        simp only [putQ, Ef.app]
        rw [filter_self]
        intro x hx
        have := hk s off rfl x hx
        rw [hd] at this
        simp only [bne_iff_ne, ne_eq]
        exact fun he => this (by rw [he])
  | alloc t ti d hop hti hd hl =>
    refine stepR_wp (step_alloc hY h hop hti (loc := loc) ?_) hK
    rw [hbox _ d _ rfl hd, if_pos hl]
  | boxl t x ti d hop hti hd hl hs hc =>
    refine stepR_wp (step_box hY h hop hc (loc := loc) ?_) hK
    rw [hbox _ d _ rfl hd, if_pos hl]
  | stl t y x ti s off cs hop hti ha hcs hs hc hbd =>
    refine stepR_wp (step_store hY h hop hti ha hs hc (σ' := stBox σ s (splice cs off (ev σ.env x).cells)) ?_) hK
    have hcs' : σ.env.getD s .undef = .lb cs := hcs
    simp only [storeAt, stBox, hcs', hbd, if_true]
  | bs t n parts et te cs hop hk' hte hsz hf hc => exact stepR_wp (bs_ok hY h hop hk' hte hsz hf hc) hK
  | pcall f args args' r hs hf hc hp =>
    obtain ⟨us, hv, hrun⟩ := stepY_call h hs
    unfold Oper.wp
    rw [hrun, run_callFunc hY hp.body]
    simp only [Oper.upon]
    refine (pcall h hp.tr hf (hc.imp id fun hr x hx => by rw [hx]; exact hr) hv).mono ?_
    rintro e w' ⟨x, W', u, rfl, rfl, hr', hvr, hst, _⟩
    exact hK _ _ _ (hr'.putV hvr o.dst) (hst.weaken fun b hb => mine_putV hvr o.dst hb)
  | round id h' v fo ops ats hop hf hc => exact absurd hf (hro fo ops ats hop id)
  | exq v hs => exact stepR_wp (exoQ_ok hY h hs) hK
  | exh h' v hs => exact stepR_wp (exoH_ok hY h hs) hK
  | heap h' v hs => exact stepR_wp (stepY_ok hY h (stepH_ok hs)) hK
  | mph h' v hs => exact stepR_wp (mapH_ok hY h hs) hK
  | lkq v hs => exact stepR_wp (lookQ_ok hY h hs) hK
  | nw x vf hs => exact stepR_wp (newO_ok hY h hs (h.heap.new (Nat.le_refl _)) (.putM _ _ _)) hK
  | nwp x vf hs => exact stepR_wp (newO_ok hY h hs (h.heap.new (Nat.le_refl _)) (.push _ _)) hK
  | icall f args h' v hs hc =>
    obtain ⟨us, hv, hrun⟩ := stepY_call h hs
    unfold Oper.wp
    rw [hrun, run_callFunc hY hc.body]
    simp only [Oper.upon]
    refine (hc.tr W w us h.heap hv).mono ?_
    rintro e w' ⟨v', h2, W', u, ⟨rfl, rfl⟩, rfl, hh, hvu, hstp⟩
    exact hK _ _ _ ((h.call hstp hh).putV hvu o.dst) ((hstp.frame h).weaken fun b hb => mine_putV hvu o.dst hb)
  | icallA f args x v hs hc =>
    obtain ⟨us, hv, hrun⟩ := stepY_call h hs
    unfold Oper.wp
    rw [hrun, run_callFunc hY hc.body]
    simp only [Oper.upon]
    refine (hc.tr W w us h.heap hv).mono ?_
    rintro e w' ⟨v', h2, W', u, ⟨rfl, rfl⟩, rfl, hh, hvu, hstp⟩
    exact hK _ _ _ ((h.call hstp hh).putV hvu o.dst) ((hstp.frame h).weaken fun b hb => mine_putV hvu o.dst hb)
  | icallR f args l h1 hN v r hs hcold hc hsame htg hN1 hf =>
    obtain ⟨us, hv, hrun⟩ := stepY_call h hs
    unfold Oper.wp
    rw [hrun, run_callFunc hY hc.body]
    simp only [Oper.upon]
    refine (hc.tr W w us (h.heap.ext (fun _ => rfl) rfl rfl) hv).mono ?_
    rintro e w' ⟨v', h2, W', u, ⟨rfl, rfl⟩, rfl, hh, hvu, hstp⟩
    obtain ⟨g1, g2, g3, g4⟩ := rcall h hh hstp hsame htg hvu hN1 hf
    exact hK _ _ _ (g1.putV g2 o.dst) (g3.weaken fun b hb => mine_putV g2 o.dst hb)
  | icallz f args args' D h' v hs hf hc =>
    obtain ⟨us, hv, hrun⟩ := stepY_call h hs
    unfold Oper.wp
    rw [hrun, run_callFunc hY hc.body]
    simp only [Oper.upon]
    obtain ⟨g1, g2⟩ := h.heap.frzD D
    refine (hc.tr (W.frzD D w) w us g1 (hf.vr (Fz.of h.heap D) (frzD_le h.heap D) hv)).mono ?_
    rintro e w' ⟨v', h2, W', u, ⟨rfl, rfl⟩, rfl, hh, hvu, hstp⟩
    have hst := g2.trans hstp
    exact hK _ _ _ ((h.call hst hh).putV hvu o.dst) ((hst.frame h).weaken fun b hb => mine_putV hvu o.dst hb)

theorem stepE_ok {ro : Option Nat} (hY : YOK Y) {loc : Nat → Bool} (h : Rel W σ a w) {o : Oper} {e : Ef} (hs : StepE Y loc σ o e) (hk : ∀ s f, e = .q (.ref s f) → ∀ x ∈ σ.refs, o.dst ≠ some x.1) (hb : ∀ cs, e = .box cs → ∀ x ∈ σ.refs, o.dst ≠ some x.2.1)
    {K : Act → World → Prop} {Q : Exit → Act → World → Prop} (hK : ∀ W' a' w', Rel W' (e.app o.dst σ) a' w' → Stp W (mine W σ a) w W' (mine W' (e.app o.dst σ) a') w' → K a' w') : o.wpIn (FrR ro) 0 Y.P a w K Q := by
  by_cases hro : ∃ fo ops ats id, o.op = .call ⟨.value fo, ops, ats⟩ ∧ ev σ.env fo = .yl id
  · obtain ⟨fo, ops, ats, id, hop, hf⟩ := hro
    have hno : ∀ {f : FuncId} {args : List V}, stepY Y loc σ o ≠ some (.call f args) := by
      intro f args hst
      simp [stepY, opQ, hop, hf] at hst
    cases hs with
    | round id' h' v fo' ops' ats' hop' hf' hc =>
      refine round_wp h hop' hf' hc fun v' h2 W' u w' ⟨e1, e2⟩ hh hvu hstp => ?_
      subst e1 e2
      exact hK _ _ _ ((h.call hstp hh).putV hvu o.dst) ((hstp.frame h).weaken fun b hb => mine_putV hvu o.dst hb)
    | quiet q hq => simp [opQ, hop] at hq
    | alloc _ _ _ hop' | boxl _ _ _ _ hop' | stl _ _ _ _ _ _ _ hop' | bs _ _ _ _ _ _ hop' => rw [hop] at hop'; cases hop'
    | pcall _ _ _ _ hs | icall _ _ _ _ hs | icallA _ _ _ _ hs | icallR _ _ _ _ _ _ _ hs | icallz _ _ _ _ _ _ hs => exact absurd hs hno
    | exq _ hs => simp [exoQ, hop, hf] at hs
    | exh _ _ hs => simp [exoH, hop] at hs
    | heap _ _ hs => simp [stepH, hop] at hs
    | nw _ _ hs | nwp _ _ hs => simp [newO, hop] at hs
    | mph _ _ hs => simp [mapH, hop] at hs
    | lkq _ hs => simp [lookQ, hop] at hs
  · exact wpIn_of_wp hs.nd (stepE_ok0 hY h hs hk hb hK fun fo ops ats hop id hf => hro ⟨fo, ops, ats, id, hop, hf⟩)
end
end Go.Y
