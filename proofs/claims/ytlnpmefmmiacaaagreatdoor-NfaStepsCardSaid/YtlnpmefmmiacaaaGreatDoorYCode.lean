/- Code: what the abstract machine says of it holds in the model. -/
import Derived.Test.YtlnpmefmmiacaaaGreatDoorYApp
import Derived.Scope
import Derived.LoopN
import Derived.Deep.Quiet
namespace Go.Y
section
variable {Y : YP} {W W' : Vw} {σ σ' : St} {a : Act} {w w' : World}

theorem stepY_ok (hY : YOK Y) (h : Rel W σ a w) {loc : Nat → Bool} {o : Oper} {σ' : St} (hs : stepY Y loc σ o = some (.st σ')) : StepR Y W σ a w o σ' := by
  unfold stepY at hs
  split at hs
  · rename_i q hq
    simp only [Option.map_eq_some_iff] at hs
    obtain ⟨σ2, hp, he⟩ := hs
    cases he
    exact StepR.quiet hY h hq hp
  · split at hs
    · rename_i t hop
      split at hs
      · rename_i ti hti
        simp only [Option.map_eq_some_iff] at hs
        obtain ⟨σ2, hp, he⟩ := hs
        cases he
        exact step_alloc hY h hop hti hp
      · cases hs
    · rename_i t x hop
      split at hs
      · split at hs
        · rename_i hc
          simp only [Option.map_eq_some_iff] at hs
          obtain ⟨σ2, hp, he⟩ := hs
          cases he
          exact step_box hY h hop hc.2 hp
        · cases hs
      · cases hs
    · rename_i t x y hop
      split at hs
      · rename_i ti ad hti had
        split at hs
        · rename_i hc
          simp only [Option.map_eq_some_iff] at hs
          obtain ⟨σ2, hp, he⟩ := hs
          cases he
          exact step_store hY h hop hti had hc.1 hc.2 hp
        · cases hs
      · cases hs
    · rename_i t n parts hop
      split at hs
      · rename_i et hk
        split at hs
        · rename_i te hte
          split at hs
          · cases hs
          · rename_i hsz
            split at hs
            · rename_i cs hf
              cases hs
              exact step_buildSlice hY h hop hk hte hsz hf
            · cases hs
        · cases hs
      · cases hs
    · rename_i t xl xc hop
      split at hs
      · rename_i et kl l kc c hk hl hc
        split at hs
        · rename_i te hte
          split at hs
          · rename_i hin
            cases hs
            exact step_makeSlice hY h hop hk hl hc hte hin
          · cases hs
        · cases hs
      · cases hs
    · rename_i src dst x hop
      split at hs
      · rename_i et l hks hkd hx
        split at hs
        · rename_i te hte
          split at hs
          · rename_i hke
            cases hs
            exact step_convert hY h hop hks hkd hx hte hke
          · cases hs
        · cases hs
      · cases hs
    · rename_i args argTypes hop
      split at hs
      · rename_i s x st xt har hat
        split at hs
        · rename_i v h' happ
          cases hs
          have hat' : argTypes = #[st, xt] := by apply Array.ext'; simpa using hat
          have har' : args = #[s, x] := by apply Array.ext'; simpa using har
          subst hat' har'
          obtain ⟨W', w', u, r1, r2, r3, r4⟩ := append_ok (ty := o.type) hY h happ (h.ev s) (h.ev x)
          refine StepR.heap h r2 r3 r4 ?_ (.inl rfl)
          have e3 : (#[s, x].map a.eval) = #[a.eval s, a.eval x] := by simp
          have hres : (resolve a.eval ⟨.builtin .append, #[s, x], #[st, xt]⟩ o.type).run Y.P w = .ok { target := .builtin .append #[st, xt] o.type (#[s, x].map fun | .const _ => true | _ => false), args := #[s, x].map a.eval } w := rfl
          simp only [execOp, hop, Sem.run_bind, hres, Result.andThen_ok, invoke, builtin, e3, r1, Sem.run_pure]
        · cases hs
      · cases hs
    · split at hs <;> cases hs
    · cases hs

theorem stepY_call (h : Rel W σ a w) {loc : Nat → Bool} {o : Oper} {f : FuncId} {args : List V} (hs : stepY Y loc σ o = some (.call f args)) :
    ∃ us, VRs W args us ∧ (execOp a.eval o).run Y.P w = (callFunc f us.toArray).run Y.P w := by
  unfold stepY at hs
  split at hs
  · simp only [Option.map_eq_some_iff] at hs
    obtain ⟨_, _, he⟩ := hs
    cases he
  · split at hs
    · split at hs
      · simp only [Option.map_eq_some_iff] at hs; obtain ⟨_, _, he⟩ := hs; cases he
      · cases hs
    · split at hs
      · split at hs
        · simp only [Option.map_eq_some_iff] at hs; obtain ⟨_, _, he⟩ := hs; cases he
        · cases hs
      · cases hs
    · split at hs
      · split at hs
        · simp only [Option.map_eq_some_iff] at hs; obtain ⟨_, _, he⟩ := hs; cases he
        · cases hs
      · cases hs
    · split at hs
      · split at hs
        · split at hs
          · cases hs
          · split at hs <;> cases hs
        · cases hs
      · cases hs
    · split at hs
      · split at hs
        · split at hs <;> cases hs
        · cases hs
      · cases hs
    · split at hs
      · split at hs
        · split at hs <;> cases hs
        · cases hs
      · cases hs
    · split at hs
      · split at hs <;> cases hs
      · cases hs
    · rename_i fo ops ats hop
      split at hs
      · rename_i g fa fc hf
        simp only [Option.some.injEq, R.call.injEq] at hs
        obtain ⟨rfl, rfl⟩ := hs
        have hfo := h.ev fo
        rw [hf] at hfo
        generalize hfe : a.eval fo = uf at hfo
        cases hfo with
        | fn _ _ _ ua uc ha hc =>
          refine ⟨ua ++ ops.toList.map a.eval ++ uc, (ha.append (h.evs ops.toList)).append hc, ?_⟩
          have e1 : (ua.toArray ++ ops.map a.eval) ++ uc.toArray = (ua ++ ops.toList.map a.eval ++ uc).toArray := by
            apply Array.ext'; simp
          simp only [execOp, hop, resolve, hfe, Deferred.ofValue, Sem.run_bind, Sem.run_pure, Result.andThen_ok, invoke, e1]
      · cases hs
    · cases hs

/-- A call: from every world in which memory and arguments read so, it comes back, to such a value and such memory. -/
def CallTr (Y : YP) (f : FuncId) (args : List V) (h : Heap) (Q : V → Heap → Prop) : Prop :=
  ∀ (W : Vw) (w : World) (us : List Value), HRel W h w → VRs W args us → Calls Y.P f us.toArray w fun e w' =>
    ∃ (v : V) (h' : Heap) (W' : Vw) (u : Value), Q v h' ∧ e = .returned u ∧ HRel W' h' w' ∧ VR W' v u ∧ Stp W W.own w W' W'.own w'

theorem CallTr.mono {f : FuncId} {args : List V} {h : Heap} {Q Q' : V → Heap → Prop} (hc : CallTr Y f args h Q) (hq : ∀ v h', Q v h' → Q' v h') : CallTr Y f args h Q' :=
  fun W w us hr hv => (hc W w us hr hv).mono fun _ _ ⟨v, h', W', u, h1, h2⟩ => ⟨v, h', W', u, hq _ _ h1, h2⟩

/-- Only functions with a body. -/
def hasBody (Y : YP) (f : FuncId) : Prop := ∃ fn body, Y.P.funcs[f]? = some fn ∧ fn.body = some body

/-- The operations of a region, one behind the other; a call by what is known of it. -/
def opsW (Y : YP) (loc : Nat → Bool) (ops : Array Oper) : List Oper → St → (St → Prop) → Prop
  | [], σ, K => K σ
  | o :: r, σ, K =>
    match guardY ops σ.env o with
    | none => False
    | some false => opsW Y loc ops r (putV σ o.dst (.tup [])) K
    | some true =>
      match stepY Y loc σ o with
      | none => False
      | some (.st σ') => opsW Y loc ops r σ' K
      | some (.call f args) => hasBody Y f ∧ CallTr Y f args σ.h fun v h => opsW Y loc ops r (putV { σ with h := h } o.dst v) K

theorem opsW_mono {loc : Nat → Bool} {ops : Array Oper} {K K' : St → Prop} (hk : ∀ σ, K σ → K' σ) : ∀ (l : List Oper) (σ : St), opsW Y loc ops l σ K → opsW Y loc ops l σ K'
  | [], σ, h => hk σ h
  | o :: r, σ, h => by
    simp only [opsW] at h ⊢
    split at h
    · exact h.elim
    · exact opsW_mono hk r _ h
    · split at h
      · exact h.elim
      · exact opsW_mono hk r _ h
      · exact ⟨h.1, h.2.mono fun v h' hh => opsW_mono hk r _ hh⟩

theorem guard_ok (h : Rel W σ a w) {ops : Array Oper} {o : Oper} {b : Bool} (hg : guardY ops σ.env o = some b) : Region.wanted o (yielded ops a.tmps) = b := by
  unfold guardY at hg
  unfold Region.wanted
  cases hgo : o.guard with
  | none => simp [hgo] at hg; subst hg; rfl
  | some jw =>
    obtain ⟨j, want⟩ := jw
    simp only [hgo] at hg
    split at hg
    · rename_i d hd
      have key : ∀ v, σ.env.getD d .undef = v → v ≠ .undef → σ.env[d]? = some v := by
        intro v hv hne
        simp only [List.getD] at hv
        cases he : σ.env[d]? with
        | none => rw [he] at hv; simp at hv; exact absurd hv.symm hne
        | some x => rw [he] at hv; simp at hv; rw [hv]
      split at hg
      · rename_i x hx
        simp at hg
        obtain ⟨u, h1, h2⟩ := h.env d _ (key _ hx (fun e => nomatch e))
        cases h2
        simp [yielded, hd, h1, hg]
      · rename_i hx
        simp at hg; subst hg
        obtain ⟨u, h1, h2⟩ := h.env d _ (key _ hx (fun e => nomatch e))
        cases h2 with
        | tup _ us hr =>
          cases hr
          simp [yielded, hd, h1]
      · cases hg
    · cases hg

/-- The relation behind some code. -/
def Post (Q : St → Prop) (W : Vw) (own : Nat → Prop) (w : World) (a' : Act) (w' : World) : Prop :=
  ∃ (σ' : St) (W' : Vw), Q σ' ∧ Rel W' σ' a' w' ∧ Stp W own w W' (mine W' σ' a') w'

theorem opsW_ok (hY : YOK Y) {loc : Nat → Bool} {ops : Array Oper} {K : St → Prop} {Q : Exit → Act → World → Prop} {W0 : Vw} {own0 : Nat → Prop} {w0 : World} (hQ : ∀ a' w', Post K W0 own0 w0 a' w' → Q .normal a' w') :
    ∀ (l : List Oper) (k : Nat) (σ : St) (W : Vw) (a : Act) (w : World), (∀ j, l[j]? = ops[k + j]?) → Rel W σ a w → Stp W0 own0 w0 W (mine W σ a) w → opsW Y loc ops l σ K →
      wpOps Y.P ops Q (List.range' k l.length) a w
  | [], k, σ, W, a, w, _, hr, hs, h => hQ _ _ ⟨σ, W, h, hr, hs⟩
  | o :: r, k, σ, W, a, w, hl, hr, hs, h => by
    have h0 : ops[k]? = some o := by simpa using (hl 0).symm
    have hl' : ∀ j, r[j]? = ops[k + 1 + j]? := fun j => by have := hl (j + 1); simpa [Nat.add_assoc, Nat.add_comm 1 j] using this
    simp only [List.length_cons, List.range'_succ, wpOps, h0]
    simp only [opsW] at h
    split at h
    · exact h.elim
    · rename_i hg
      have hw := guard_ok hr hg
      rw [if_neg (by simp [hw])]
      have ht : VR W (.tup []) Go.undef := .tup [] [] .nil
      exact opsW_ok hY hQ r (k + 1) _ W _ w hl' (hr.putV ht o.dst) (hs.weaken fun b hb => mine_putV ht o.dst hb) h
    · rename_i hg
      have hw := guard_ok hr hg
      rw [if_pos hw]
      left
      split at h
      · exact h.elim
      · rename_i σ' hst
        obtain ⟨W', w', u, n, hrun, hn, hr', hs'⟩ := stepY_ok hY hr hst
        unfold Oper.wp
        rw [hrun]
        have ih := opsW_ok hY hQ r (k + 1) σ' W' _ w' hl' hr' (hs.trans hs') h
        rcases hn with rfl | ⟨rfl, rfl⟩
        · exact ih
        · exact ih
      · rename_i f args hst
        obtain ⟨⟨fn, body, hf, hb⟩, hct⟩ := h
        obtain ⟨us, hv, hrun⟩ := stepY_call hr hst
        unfold Oper.wp
        rw [hrun]
        have hcall : (callFunc f us.toArray).run Y.P w = .ok (.enter f us.toArray) w := by
          have hnm : ¬ fn.name = "runtime.NumGoroutine" := by simpa using hY.name f fn hf
          simp [callFunc, hf, hnm, hb]
        rw [hcall]
        simp only [Oper.upon]
        refine (hct W w us hr.heap hv).mono ?_
        rintro e w' ⟨v, h', W', u, hk, rfl, hh, hvu, hstp⟩
        have h1 := hr.call hstp hh
        exact opsW_ok hY hQ r (k + 1) _ W' _ w' hl' (h1.putV hvu o.dst) (hs.trans ((hstp.frame hr).weaken fun b hb => mine_putV hvu o.dst hb)) hk

/-- How the two endings of code go together. -/
def OutR : Out → Exit → Prop
  | .normal, .normal => True
  | .exit i, .exit j => i = j
  | .ret, .ret => True
  | _, _ => False

def PostX (Q : Out → St → Prop) (W : Vw) (own : Nat → Prop) (w : World) (e : Exit) (a' : Act) (w' : World) : Prop :=
  ∃ (o : Out) (σ' : St) (W' : Vw), OutR o e ∧ Q o σ' ∧ Rel W' σ' a' w' ∧ Stp W own w W' (mine W' σ' a') w'

/-- Code, from a state: it comes to one of these ends. -/
def Tri (Y : YP) (c : Code) (σ : St) (Q : Out → St → Prop) : Prop :=
  ∀ (W : Vw) (a : Act) (w : World) (W0 : Vw) (own0 : Nat → Prop) (w0 : World), Rel W σ a w → Stp W0 own0 w0 W (mine W σ a) w → c.wp Y.P (PostX Q W0 own0 w0) a w

theorem Tri.mono {c : Code} {Q Q' : Out → St → Prop} (h : Tri Y c σ Q) (hq : ∀ o σ', Q o σ' → Q' o σ') : Tri Y c σ Q' :=
  fun W a w W0 own0 w0 hr hs => wp_mono (h W a w W0 own0 w0 hr hs) fun _ _ _ ⟨o, σ', W', h1, h2, h3⟩ => ⟨o, σ', W', h1, hq _ _ h2, h3⟩

theorem tri_skip {Q : Out → St → Prop} (h : Q .normal σ) : Tri Y .skip σ Q := fun W _ _ _ _ _ hr hs => wp_skip ⟨.normal, σ, W, trivial, h, hr, hs⟩
theorem tri_label {l : Nat} {Q : Out → St → Prop} (h : Q .normal σ) : Tri Y (.label l) σ Q := fun W _ _ _ _ _ hr hs => wp_label ⟨.normal, σ, W, trivial, h, hr, hs⟩
theorem tri_exit {id : Nat} {Q : Out → St → Prop} (h : Q (.exit id) σ) : Tri Y (.exit id) σ Q := fun W _ _ _ _ _ hr hs => wp_exit ⟨.exit id, σ, W, rfl, h, hr, hs⟩
theorem tri_ret {Q : Out → St → Prop} (h : Q .ret σ) : Tri Y .ret σ Q := fun W _ _ _ _ _ hr hs => wp_ret ⟨.ret, σ, W, trivial, h, hr, hs⟩

/-- What follows the first of two pieces of code. -/
def Then (Y : YP) (b : Code) (Q : Out → St → Prop) : Out → St → Prop
  | .normal, σ => Tri Y b σ Q
  | o, σ => Q o σ

theorem tri_seq {x y : Code} {Q : Out → St → Prop} (h : Tri Y x σ (Then Y y Q)) : Tri Y (.seq x y) σ Q := by
  intro W a w W0 own0 w0 hr hs
  refine wp_seq (wp_mono (h W a w W0 own0 w0 hr hs) ?_)
  rintro e a' w' ⟨o, σ', W', ho, hq, hr', hs'⟩
  cases o <;> cases e <;> simp only [OutR] at ho
  · exact hq W' a' w' W0 own0 w0 hr' hs'
  · subst ho; exact ⟨.exit _, σ', W', rfl, hq, hr', hs'⟩
  · exact ⟨.ret, σ', W', trivial, hq, hr', hs'⟩

theorem tri_cond {x : Operand} {c d : Code} {Q : Out → St → Prop} {b : Bool} (hx : ev σ.env x = .b b) (h : Tri Y (if b then c else d) σ Q) : Tri Y (.cond x c d) σ Q := by
  intro W a w W0 own0 w0 hr hs
  have hv := hr.ev x
  rw [hx] at hv
  generalize he : a.eval x = u at hv
  cases hv
  exact wp_cond he (h W a w W0 own0 w0 hr hs)

def InBlock (id : Nat) (Q : Out → St → Prop) : Out → St → Prop
  | .exit j, σ => if j = id then Q .normal σ else Q (.exit j) σ
  | o, σ => Q o σ

theorem tri_block {id : Nat} {c : Code} {Q : Out → St → Prop} (h : Tri Y c σ (InBlock id Q)) : Tri Y (.block id c) σ Q := by
  intro W a w W0 own0 w0 hr hs
  refine wp_block (wp_mono (h W a w W0 own0 w0 hr hs) ?_)
  rintro e a' w' ⟨o, σ', W', ho, hq, hr', hs'⟩
  cases o <;> cases e <;> simp only [OutR] at ho
  · exact ⟨.normal, σ', W', trivial, hq, hr', hs'⟩
  · rename_i i j
    subst ho
    simp only [InBlock, Exit.inBlock] at hq ⊢
    by_cases hi : i = id
    · rw [if_pos hi] at hq ⊢; exact ⟨.normal, σ', W', trivial, hq, hr', hs'⟩
    · rw [if_neg hi] at hq ⊢; exact ⟨.exit i, σ', W', rfl, hq, hr', hs'⟩
  · exact ⟨.ret, σ', W', trivial, hq, hr', hs'⟩

theorem tri_scope {c : Code} {Q : Out → St → Prop} (h : Tri Y c σ Q) : Tri Y (.scope c) σ Q := by
  intro W a w W0 own0 w0 hr hs
  refine wp_scope_straight (wp_mono (h W a w W0 own0 w0 hr hs) ?_)
  rintro e a' w' ⟨o, σ', W', ho, hq⟩
  cases e <;> first | exact ⟨o, σ', W', ho, hq⟩ | (cases o <;> exact ho.elim)

/-- A loop, by an invariant and a measure. -/
theorem tri_loop {c : Code} {Q : Out → St → Prop} (I : Nat → St → Prop) {n : Nat} (h0 : I n σ)
    (round : ∀ n σ, I n σ → Tri Y c σ fun o σ' => match o with | .normal => ∃ m, m < n ∧ I m σ' | o => Q o σ') : Tri Y (.loop c) σ Q := by
  intro W a w W0 own0 w0 hr hs
  have key : ∀ n, ∀ m σ W a w, m ≤ n → I m σ → Rel W σ a w → Stp W0 own0 w0 W (mine W σ a) w → Code.rounds Y.P c (PostX Q W0 own0 w0) (n + 1) a w := by
    intro n
    induction n with
    | zero =>
      intro m σ W a w hm hi hr hs
      rw [rounds_succ]
      refine wp_mono (round m σ hi W a w W0 own0 w0 hr hs) ?_
      rintro e a' w' ⟨o, σ', W', ho, hq, hr', hs'⟩
      cases o <;> cases e <;> simp only [OutR] at ho
      · obtain ⟨k, hk, _⟩ := hq; omega
      · exact ⟨.exit _, σ', W', ho, hq, hr', hs'⟩
      · exact ⟨.ret, σ', W', trivial, hq, hr', hs'⟩
    | succ n ih =>
      intro m σ W a w hm hi hr hs
      rw [rounds_succ]
      refine wp_mono (round m σ hi W a w W0 own0 w0 hr hs) ?_
      rintro e a' w' ⟨o, σ', W', ho, hq, hr', hs'⟩
      cases o <;> cases e <;> simp only [OutR] at ho
      · obtain ⟨k, hk, hi'⟩ := hq
        exact ih k σ' W' a' w' (by omega) hi' hr' hs'
      · exact ⟨.exit _, σ', W', ho, hq, hr', hs'⟩
      · exact ⟨.ret, σ', W', trivial, hq, hr', hs'⟩
  exact wp_loop_rounds (n + 1) (key n n σ W a w (Nat.le_refl _) h0 hr hs)

theorem Rel.noRefs (h : Rel W σ a w) : Rel W { σ with refs := [] } a w := ⟨h.heap, h.size, h.env, h.box, fun _ _ _ hm => by simp at hm, h.defers⟩

theorem mine_noRefs {b : Nat} : mine W { σ with refs := [] } a b ↔ mine W σ a b := Iff.rfl

theorem tri_region (hY : YOK Y) {loc : Nat → Bool} {id : Nat} {ops : Array Oper} {Q : Out → St → Prop} (h : opsW Y loc ops ops.toList { σ with refs := [] } fun σ' => Q .normal { σ' with refs := [] }) :
    Tri Y (.region id ops false) σ Q := by
  intro W a w W0 own0 w0 hr hs
  refine wp_region ?_
  have := opsW_ok hY (Q := PostX Q W0 own0 w0) (W0 := W0) (own0 := own0) (w0 := w0) (K := fun σ' => Q .normal { σ' with refs := [] }) ?_ ops.toList 0 _ W a w (by simp) hr.noRefs hs h
  · rw [List.range_eq_range']
    simpa using this
  · rintro a' w' ⟨σ', W', hk, hr', hs'⟩
    exact ⟨.normal, _, W', trivial, hk, hr'.noRefs, hs'⟩

/-! ### Functions -/
theorem VRs.undefs (n : Nat) : VRs W (List.replicate n .undef) (List.replicate n Go.undef) := by
  induction n with
  | zero => exact .nil
  | succ n ih => exact .cons _ _ _ _ (.undef _) ih

theorem Rel.start {h : Heap} (hr : HRel W h w) {args : List V} {us : List Value} (hv : VRs W args us) (n : Nat) :
    Rel W ⟨args ++ List.replicate (n - args.length) .undef, [], h⟩ { tmps := us.toArray ++ Array.replicate (n - us.toArray.size) Go.undef, defers := [] } w ∧
    ∀ b, mine W ⟨args ++ List.replicate (n - args.length) .undef, [], h⟩ { tmps := us.toArray ++ Array.replicate (n - us.toArray.size) Go.undef, defers := [] } b → W.own b := by
  have hl := hv.length
  have hall : VRs W (args ++ List.replicate (n - args.length) .undef) (us ++ List.replicate (n - us.length) Go.undef) := by
    rw [hl]; exact hv.append (VRs.undefs _)
  have hta : (us.toArray ++ Array.replicate (n - us.toArray.size) Go.undef) = (us ++ List.replicate (n - us.length) Go.undef).toArray := by
    apply Array.ext'; simp
  have hno : ∀ (t : Nat) (cs : List V), (args ++ List.replicate (n - args.length) .undef)[t]? ≠ some (V.lb cs) := by
    intro t cs he
    obtain ⟨u, _, h2⟩ := hall.get he
    exact h2.ne_box.1 cs rfl
  rw [hta]
  refine ⟨⟨hr, by simp [hl], fun t v ht => ?_, fun t t' b h1 _ => absurd h1.1.choose_spec (hno t _), fun _ _ _ hm => by simp at hm, rfl⟩, ?_⟩
  · obtain ⟨u, h1, h2⟩ := hall.get ht
    exact ⟨u, by simpa using h1, h2.srel⟩
  · rintro b (ho | ⟨t, ⟨cs, h1⟩, _⟩)
    · exact ho
    · exact absurd h1 (hno t cs)

theorem results_run {g : ResultVar → Sem Value} (hg : ∀ r x, resultY Y σ r = some x → ∃ u, VR W x u ∧ (g r).run Y.P w = .ok u w) {rs : Array ResultVar} {fn : Func} (hrs : fn.results = rs) {v : V} (hv : resultsY Y fn σ = some v) :
    ∃ u, VR W v u ∧ (do let vs ← rs.mapM g; pure (if h : vs.size = 1 then vs[0] else .tuple vs) : Sem Value).run Y.P w = .ok u w := by
  have many : ∀ (l : List ResultVar) (vs : List V), resultYs Y σ l = some vs → ∃ us, VRs W vs us ∧ (l.mapM g).run Y.P w = .ok us w := by
    intro l
    induction l with
    | nil => intro vs hvs; simp [resultYs] at hvs; subst hvs; exact ⟨[], .nil, by simp⟩
    | cons r l ih =>
      intro vs hvs
      simp only [resultYs] at hvs
      split at hvs
      · rename_i x xs h1 h2
        simp at hvs; subst hvs
        obtain ⟨u, g1, g2⟩ := hg r x h1
        obtain ⟨us, g3, g4⟩ := ih xs h2
        exact ⟨u :: us, .cons _ _ _ _ g1 g3, by simp only [List.mapM_cons, Sem.run_bind, g2, g4, Result.andThen_ok, Sem.run_pure]⟩
      · cases hvs
  unfold resultsY at hv
  rw [hrs] at hv
  have fin : ∀ vs, resultYs Y σ rs.toList = some vs → ∃ us, VRs W vs us ∧
      (do let vs ← rs.mapM g; pure (if h : vs.size = 1 then vs[0] else .tuple vs) : Sem Value).run Y.P w = .ok (if hh : us.toArray.size = 1 then us.toArray[0] else .tuple us.toArray) w := by
    intro vs hvs
    obtain ⟨us, h1, h2⟩ := many _ vs hvs
    refine ⟨us, h1, ?_⟩
    rw [Array.mapM_eq_mapM_toList, Sem.run_bind, Sem.run_map, h2]
    rfl
  split at hv
  · rename_i x hx
    simp at hv; subst hv
    obtain ⟨us, h1, h2⟩ := fin _ hx
    cases h1 with
    | cons _ u _ _ g1 g2 => cases g2; exact ⟨u, g1, by simpa using h2⟩
  · rename_i vs hne hx
    simp at hv; subst hv
    obtain ⟨us, h1, h2⟩ := fin _ hx
    refine ⟨.tuple us.toArray, .tup _ _ h1, ?_⟩
    rw [h2]
    have hl := h1.length
    have : ¬ us.toArray.size = 1 := by
      intro h1'
      simp at h1'
      rw [h1'] at hl
      match vs, hl with
      | [x], _ => exact hne x rfl
    rw [dif_neg this]
  · cases hv

/-- What a function hands back. -/
theorem results_ok (hY : YOK Y) (h : Rel W σ a w) {fn : Func} {v : V} (hv : resultsY Y fn σ = some v) : ∃ u, VR W v u ∧ (results fn a.tmps).run Y.P w = .ok u w := by
  unfold results
  refine results_run (fun r x hx => ?_) rfl hv
  cases r with
  | tmp t =>
    have he := h.ev (.tmp t)
    have hx' : ev σ.env (.tmp t) = x := by
      revert hx
      simp only [resultY]
      cases ev σ.env (.tmp t) <;> simp
    rw [hx'] at he
    exact ⟨_, he, rfl⟩
  | cell s t =>
    simp only [resultY] at hx
    split at hx
    · rename_i ti ad hti had
      obtain ⟨u, h1, h2⟩ := load_ok hY h hti had hx
      obtain ⟨y, hy, _⟩ := addr_ok h had
      refine ⟨u, h1, ?_⟩
      have := h2 w (.refl w)
      rw [hy] at this
      have hy' : a.tmps.getD s Go.undef = .pointer (some y) := hy
      simp only [hy', asAddr, Sem.run_bind, Sem.run_pure, Result.andThen_ok]
      simpa [Instr.loadAt, Instr.sureAddr] using this
    · cases hx

/-- A function by its body. -/
theorem callTr_of (hY : YOK Y) {f : FuncId} {fn : Func} {body : Code} (hf : Y.P.funcs[f]? = some fn) (hb : fn.body = some body) {args : List V} {h : Heap} {Q : V → Heap → Prop}
    (ht : Tri Y body ⟨args ++ List.replicate (fn.ntmps - args.length) .undef, [], h⟩ fun o σ => (o = .normal ∨ o = .ret) ∧ ∃ v, resultsY Y fn σ = some v ∧ Q v σ.h) : CallTr Y f args h Q := by
  intro W w us hr hv
  obtain ⟨h1, h2⟩ := Rel.start hr hv fn.ntmps
  refine calls_of_wp hf hb (wp_mono (ht W _ w W W.own w h1 ((Stp.refl W W.own w).weaken h2)) ?_)
  rintro e a' w' ⟨o, σ', W', ho, ⟨hor, v, hres, hq⟩, hr', hs'⟩
  obtain ⟨u, hu, hrun⟩ := results_ok hY hr' hres
  have fin : ∃ (v : V) (h' : Heap) (W' : Vw) (u' : Value), Q v h' ∧ Ending.returned u = .returned u' ∧ HRel W' h' w' ∧ VR W' v u' ∧ Stp W W.own w W' W'.own w' :=
    ⟨v, σ'.h, W', u, hq, rfl, hr'.heap, hu, hs'.weaken fun b hb => .inl hb⟩
  rcases hor with rfl | rfl <;> cases e <;> simp only [OutR] at ho
  · exact ⟨hr'.defers, u, hrun, fin⟩
  · exact ⟨hr'.defers, u, hrun, fin⟩

/-! ### Running -/
theorem opsY_opsW {call : FuncId → List V → Heap → Option (V × Heap)} (hc : ∀ f args h v h', call f args h = some (v, h') → hasBody Y f ∧ CallTr Y f args h fun v' k => v' = v ∧ k = h') {loc : Nat → Bool} {ops : Array Oper} {K : St → Prop} :
    ∀ (l : List Oper) (σ σ' : St), opsY Y call loc ops l σ = some σ' → K σ' → opsW Y loc ops l σ K
  | [], σ, σ', h, hk => by simp [opsY] at h; subst h; exact hk
  | o :: r, σ, σ', h, hk => by
    simp only [opsY] at h
    simp only [opsW]
    cases hg : guardY ops σ.env o with
    | none => simp [hg] at h
    | some b =>
      cases b with
      | false => simp only [hg] at h ⊢; exact opsY_opsW hc r _ σ' h hk
      | true =>
        simp only [hg] at h ⊢
        cases hst : stepY Y loc σ o with
        | none => simp [hst] at h
        | some x =>
          cases x with
          | st σ2 => simp only [hst] at h ⊢; exact opsY_opsW hc r _ σ' h hk
          | call f args =>
            simp only [hst] at h ⊢
            cases hcall : call f args σ.h with
            | none => simp [hcall] at h
            | some vh =>
              obtain ⟨v, h1⟩ := vh
              simp only [hcall] at h
              obtain ⟨hb, ht⟩ := hc f args _ v h1 hcall
              exact ⟨hb, ht.mono fun v' k ⟨e1, e2⟩ => by subst e1 e2; exact opsY_opsW hc r _ σ' h hk⟩

theorem Stp.same {own : Nat → Prop} (s : Same w w') (hstr : Str w w') : Stp W own w W own w' where
  str := hstr
  le := .refl W
  size := s.size
  keep b hb _ := by rw [Array.getElem?_eq_getElem hb]; exact s b _ (Array.getElem?_eq_getElem hb)
  owns b h := .inl h
  new b h := .inl h

theorem opsQ_ok (hY : YOK Y) {ops : Array Oper} {w0 : World} {K : Act → Prop} {σ' : St} (hK : ∀ a', Rel W σ' a' w0 → (∀ b, mine W σ' a' b → mine W σ a b) → K a') :
    ∀ (l : List Oper) (τ : St) (a' : Act), Rel W τ a' w0 → (∀ b, mine W τ a' b → mine W σ a b) → opsQ Y ops l τ = some σ' → wpQuiet Y.P ops (Same w0) K l a'
  | [], τ, a', hr, hm, h => by simp [opsQ] at h; subst h; exact hK a' hr hm
  | o :: r, τ, a', hr, hm, h => by
    simp only [opsQ] at h
    simp only [wpQuiet]
    split at h
    · cases h
    · rename_i hg
      rw [if_neg (by simp [guard_ok hr hg])]
      have ht : VR W (.tup []) Go.undef := .tup [] [] .nil
      exact opsQ_ok hY hK r _ _ (hr.putV ht o.dst) (fun b hb => hm b (mine_putV ht o.dst hb)) h
    · rename_i hg
      rw [if_pos (guard_ok hr hg)]
      split at h
      · rename_i q hq
        split at h
        · rename_i σ2 hp
          obtain ⟨u, h1, h2⟩ := opQ_ok hY hr hq
          refine ⟨u, fun w' hw' => ?_, ?_⟩
          · unfold Oper.quietAt
            rw [h2 w' hw']
            exact ⟨rfl, rfl⟩
          · have : Rel W σ2 (a'.put o.dst u) w0 ∧ ∀ b, mine W σ2 (a'.put o.dst u) b → mine W τ a' b := by
              cases q with
              | val v =>
                have hσ : σ2 = putV τ o.dst v := by cases hd : o.dst <;> simp [putQ, hd] at hp <;> simp [putV, hp]
                subst hσ
                exact ⟨hr.putV h1 o.dst, fun b hb => mine_putV h1 o.dst hb⟩
              | ref s off =>
                obtain ⟨b, hb, rfl⟩ := h1
                cases hd : o.dst with
                | none => simp [putQ, hd] at hp; subst hp; exact ⟨hr, fun b hb => hb⟩
                | some d =>
                  simp [putQ, hd] at hp; subst hp
                  exact ⟨hr.putRef hb d, fun c hc => mine_putRef d _ hc⟩
            exact opsQ_ok hY hK r _ _ this.1 (fun b hb => hm b (this.2 b hb)) h
        · cases h
      · cases h

end
end Go.Y
