/- Code: what the abstract machine says of it holds in the model. -/
import Derived.Test.YteennilbmmlikaaGreatDoorYApp2
import Derived.Scope
import Derived.LoopN
import Derived.Deep.Quiet
import Derived.LoopNIn
import Derived.RangeFuncRecord
namespace Go.Y
section
variable {Y : YP} {W W' : Vw} {σ σ' : St} {a : Act} {w w' : World}

theorem stepY_ok (hY : YOK Y) (h : Rel W σ a w) {loc : Nat → Bool} {o : Oper} {σ' : St} (hs : stepY Y loc σ o = some (.st σ')) : StepR Y W σ a w o σ' := by
  unfold stepY at hs
  split at hs
  · rename_i q hq
    simp only [Option.map_eq_some_iff] at hs
    obtain ⟨σ2, hp, he⟩ := hs
    cases he
    exact StepR.quiet hY h hq hp
  · split at hs
    · rename_i t hop
      split at hs
      · rename_i ti hti
        simp only [Option.map_eq_some_iff] at hs
        obtain ⟨σ2, hp, he⟩ := hs
        cases he
        exact step_alloc hY h hop hti hp
      · cases hs
    · rename_i t x hop
      split at hs
      · split at hs
        · rename_i hc
          simp only [Option.map_eq_some_iff] at hs
          obtain ⟨σ2, hp, he⟩ := hs
          cases he
          exact step_box hY h hop hc.2 hp
        · cases hs
      · cases hs
    · rename_i t x y hop
      split at hs
      · rename_i ti ad hti had
        split at hs
        · rename_i hc
          simp only [Option.map_eq_some_iff] at hs
          obtain ⟨σ2, hp, he⟩ := hs
          cases he
          exact step_store hY h hop hti had hc.1 hc.2 hp
        · cases hs
      · cases hs
    · rename_i t n parts hop
      split at hs
      · rename_i et hk
        split at hs
        · rename_i te hte
          split at hs
          · cases hs
          · rename_i hsz
            split at hs
            · rename_i cs hf
              cases hs
              exact step_buildSlice hY h hop hk hte hsz hf
            · cases hs
        · cases hs
      · cases hs
    · rename_i t xl xc hop
      split at hs
      · rename_i et kl l kc c hk hl hc
        split at hs
        · rename_i te hte
          split at hs
          · rename_i hin
            cases hs
            exact step_makeSlice hY h hop hk hl hc hte hin
          · cases hs
        · cases hs
      · cases hs
    · rename_i src dst x hop
      split at hs
      · rename_i et l hks hkd hx
        split at hs
        · rename_i te hte
          split at hs
          · rename_i hke
            cases hs
            exact step_convert hY h hop hks hkd hx hte hke
          · cases hs
        · cases hs
      · cases hs
    · rename_i args argTypes hop
      split at hs
      · rename_i s x st xt har hat
        split at hs
        · rename_i v h' happ
          cases hs
          have hat' : argTypes = #[st, xt] := by apply Array.ext'; simpa using hat
          have har' : args = #[s, x] := by apply Array.ext'; simpa using har
          subst hat' har'
          obtain ⟨W', w', u, r1, r2, r3, r4⟩ := append_ok (ty := o.type) hY h happ (h.ev s) (h.ev x)
          refine StepR.heap h r2 r3 r4 ?_ (.inl rfl)
          have e3 : (#[s, x].map a.eval) = #[a.eval s, a.eval x] := by simp
          have hres : (resolve a.eval ⟨.builtin .append, #[s, x], #[st, xt]⟩ o.type).run Y.P w = .ok { target := .builtin .append #[st, xt] o.type (#[s, x].map fun | .const _ => true | _ => false), args := #[s, x].map a.eval } w := rfl
          simp only [execOp, hop, Sem.run_bind, hres, Result.andThen_ok, invoke, builtin, e3, r1, Sem.run_pure]
        · cases hs
      · cases hs
    · split at hs <;> cases hs
    · cases hs

theorem stepY_call (h : Rel W σ a w) {loc : Nat → Bool} {o : Oper} {f : FuncId} {args : List V} (hs : stepY Y loc σ o = some (.call f args)) :
    ∃ us, VRs W args us ∧ (execOp a.eval o).run Y.P w = (callFunc f us.toArray).run Y.P w := by
  unfold stepY at hs
  split at hs
  · simp only [Option.map_eq_some_iff] at hs
    obtain ⟨_, _, he⟩ := hs
    cases he
  · split at hs
    · split at hs
      · simp only [Option.map_eq_some_iff] at hs; obtain ⟨_, _, he⟩ := hs; cases he
      · cases hs
    · split at hs
      · split at hs
        · simp only [Option.map_eq_some_iff] at hs; obtain ⟨_, _, he⟩ := hs; cases he
        · cases hs
      · cases hs
    · split at hs
      · split at hs
        · simp only [Option.map_eq_some_iff] at hs; obtain ⟨_, _, he⟩ := hs; cases he
        · cases hs
      · cases hs
    · split at hs
      · split at hs
        · split at hs
          · cases hs
          · split at hs <;> cases hs
        · cases hs
      · cases hs
    · split at hs
      · split at hs
        · split at hs <;> cases hs
        · cases hs
      · cases hs
    · split at hs
      · split at hs
        · split at hs <;> cases hs
        · cases hs
      · cases hs
    · split at hs
      · split at hs <;> cases hs
      · cases hs
    · rename_i fo ops ats hop
      split at hs
      · rename_i g fa fc hf
        simp only [Option.some.injEq, R.call.injEq] at hs
        obtain ⟨rfl, rfl⟩ := hs
        have hfo := h.ev fo
        rw [hf] at hfo
        generalize hfe : a.eval fo = uf at hfo
        cases hfo with
        | fn _ _ _ ua uc ha hc =>
          refine ⟨ua ++ ops.toList.map a.eval ++ uc, (ha.append (h.evs ops.toList)).append hc, ?_⟩
          have e1 : (ua.toArray ++ ops.map a.eval) ++ uc.toArray = (ua ++ ops.toList.map a.eval ++ uc).toArray := by
            apply Array.ext'; simp
          simp only [execOp, hop, resolve, hfe, Deferred.ofValue, Sem.run_bind, Sem.run_pure, Result.andThen_ok, invoke, e1]
      · cases hs
    · cases hs

def CallTr (Y : YP) (f : FuncId) (args : List V) (h : Heap) (Q : V → Heap → Prop) : Prop :=
  ∀ (W : Vw) (w : World) (us : List Value), HRel W h w → VRs W args us → Calls Y.P f us.toArray w fun e w' =>
    ∃ (v : V) (h' : Heap) (W' : Vw) (u : Value), Q v h' ∧ e = .returned u ∧ HRel W' h' w' ∧ VR W' v u ∧ Stp W W.own w W' W'.own w'

theorem CallTr.mono {f : FuncId} {args : List V} {h : Heap} {Q Q' : V → Heap → Prop} (hc : CallTr Y f args h Q) (hq : ∀ v h', Q v h' → Q' v h') : CallTr Y f args h Q' :=
  fun W w us hr hv => (hc W w us hr hv).mono fun _ _ ⟨v, h', W', u, h1, h2⟩ => ⟨v, h', W', u, hq _ _ h1, h2⟩

structure RdCon (Y : YP) (id : Nat) (args : List V) (h : Heap) (Q : V → Heap → Prop) : Prop where
  tr : ∀ (W : Vw) (w : World) (us : List Value), HRel W h w → VRs W args us → W.lv id ∧ ∃ (f : FuncId) (tmps : Array Value) (assign body : Code),
    (Instr.yield (W.mu id).1 us.toArray).run Y.P w = .ok (.round (W.mu id).1 f tmps assign body) w ∧
    RoundIn Fence.wide 0 Y.P (W.mu id).1 f tmps assign body w fun e w' => ∃ (v : V) (h' : Heap) (W' : Vw) (u : Value), Q v h' ∧ e = .returned u ∧ HRel W' h' w' ∧ VR W' v u ∧ Stp W W.own w W' W'.own w'

theorem RdCon.mono {id : Nat} {args : List V} {h : Heap} {Q Q' : V → Heap → Prop} (hc : RdCon Y id args h Q) (hq : ∀ v h', Q v h' → Q' v h') : RdCon Y id args h Q' :=
  ⟨fun W w us hr hv => by
    obtain ⟨h1, f, t, as, bd, h2, h3⟩ := hc.tr W w us hr hv
    exact ⟨h1, f, t, as, bd, h2, h3.mono fun _ _ ⟨v, h', W', u, q1, q2⟩ => ⟨v, h', W', u, hq _ _ q1, q2⟩⟩⟩

def hasBody (Y : YP) (f : FuncId) : Prop := ∃ fn body, Y.P.funcs[f]? = some fn ∧ fn.body = some body

theorem guard_ok (h : Rel W σ a w) {ops : Array Oper} {o : Oper} {b : Bool} (hg : guardY ops σ.env o = some b) : Region.wanted o (yielded ops a.tmps) = b := by
  unfold guardY at hg
  unfold Region.wanted
  cases hgo : o.guard with
  | none => simp [hgo] at hg; subst hg; rfl
  | some jw =>
    obtain ⟨j, want⟩ := jw
    simp only [hgo] at hg
    split at hg
    · rename_i d hd
      have key : ∀ v, σ.env.getD d .undef = v → v ≠ .undef → σ.env[d]? = some v := by
        intro v hv hne
        simp only [List.getD] at hv
        cases he : σ.env[d]? with
        | none => rw [he] at hv; simp at hv; exact absurd hv.symm hne
        | some x => rw [he] at hv; simp at hv; rw [hv]
      split at hg
      · rename_i x hx
        simp at hg
        obtain ⟨u, h1, h2⟩ := h.env d _ (key _ hx (fun e => nomatch e))
        cases h2
        simp [yielded, hd, h1, hg]
      · rename_i hx
        simp at hg; subst hg
        obtain ⟨u, h1, h2⟩ := h.env d _ (key _ hx (fun e => nomatch e))
        cases h2 with
        | tup _ us hr =>
          cases hr
          simp [yielded, hd, h1]
      · cases hg
    · cases hg

def OutR : Out → Exit → Prop
  | .normal, .normal => True
  | .exit i, .exit j => i = j
  | .ret, .ret => True
  | _, _ => False

def PostX (Q : Out → St → Prop) (W : Vw) (own : Nat → Prop) (w : World) (e : Exit) (a' : Act) (w' : World) : Prop :=
  ∃ (o : Out) (σ' : St) (W' : Vw), OutR o e ∧ Q o σ' ∧ Rel W' σ' a' w' ∧ Stp W own w W' (mine W' σ' a') w'

abbrev FrR (r : Option Nat) : Fence := { Fence.wide with round := r }

def TriG (r : Option Nat) (Y : YP) (c : Code) (σ : St) (Q : Out → St → Prop) : Prop :=
  ∀ (W : Vw) (a : Act) (w : World) (W0 : Vw) (own0 : Nat → Prop) (w0 : World), Rel W σ a w → Stp W0 own0 w0 W (mine W σ a) w → c.wpIn (FrR r) 0 Y.P (PostX Q W0 own0 w0) a w
abbrev Tri (Y : YP) (c : Code) (σ : St) (Q : Out → St → Prop) : Prop := TriG none Y c σ Q

variable {ro : Option Nat}

theorem TriG.mono {c : Code} {Q Q' : Out → St → Prop} (h : TriG ro Y c σ Q) (hq : ∀ o σ', Q o σ' → Q' o σ') : TriG ro Y c σ Q' :=
  fun W a w W0 own0 w0 hr hs => wpIn_mono (h W a w W0 own0 w0 hr hs) fun _ _ _ ⟨o, σ', W', h1, h2, h3⟩ => ⟨o, σ', W', h1, hq _ _ h2, h3⟩
theorem Tri.mono {c : Code} {Q Q' : Out → St → Prop} (h : Tri Y c σ Q) (hq : ∀ o σ', Q o σ' → Q' o σ') : Tri Y c σ Q' := TriG.mono h hq

theorem tri_skip {Q : Out → St → Prop} (h : Q .normal σ) : TriG ro Y .skip σ Q := fun W _ _ _ _ _ hr hs => wpIn_skip ⟨.normal, σ, W, trivial, h, hr, hs⟩
theorem tri_label {l : Nat} {Q : Out → St → Prop} (h : Q .normal σ) : TriG ro Y (.label l) σ Q := fun W _ _ _ _ _ hr hs => wpIn_label ⟨.normal, σ, W, trivial, h, hr, hs⟩
theorem tri_exit {id : Nat} {Q : Out → St → Prop} (h : Q (.exit id) σ) : TriG ro Y (.exit id) σ Q := fun W _ _ _ _ _ hr hs => wpIn_exit ⟨.exit id, σ, W, rfl, h, hr, hs⟩
theorem tri_ret {Q : Out → St → Prop} (h : Q .ret σ) : TriG ro Y .ret σ Q := fun W _ _ _ _ _ hr hs => wpIn_ret ⟨.ret, σ, W, trivial, h, hr, hs⟩

def ThenG (ro : Option Nat) (Y : YP) (b : Code) (Q : Out → St → Prop) : Out → St → Prop
  | .normal, σ => TriG ro Y b σ Q
  | o, σ => Q o σ

theorem tri_seq {x y : Code} {Q : Out → St → Prop} (h : TriG ro Y x σ (ThenG ro Y y Q)) : TriG ro Y (.seq x y) σ Q := by
  intro W a w W0 own0 w0 hr hs
  refine wpIn_seq (wpIn_mono (h W a w W0 own0 w0 hr hs) ?_)
  rintro e a' w' ⟨o, σ', W', ho, hq, hr', hs'⟩
  cases o <;> cases e <;> simp only [OutR] at ho
  · exact hq W' a' w' W0 own0 w0 hr' hs'
  · subst ho; exact ⟨.exit _, σ', W', rfl, hq, hr', hs'⟩
  · exact ⟨.ret, σ', W', trivial, hq, hr', hs'⟩

theorem tri_cond {x : Operand} {c d : Code} {Q : Out → St → Prop} {b : Bool} (hx : ev σ.env x = .b b) (h : TriG ro Y (if b then c else d) σ Q) : TriG ro Y (.cond x c d) σ Q := by
  intro W a w W0 own0 w0 hr hs
  have hv := hr.ev x
  rw [hx] at hv
  generalize he : a.eval x = u at hv
  cases hv
  exact wpIn_cond he (h W a w W0 own0 w0 hr hs)

def InBlock (id : Nat) (Q : Out → St → Prop) : Out → St → Prop
  | .exit j, σ => if j = id then Q .normal σ else Q (.exit j) σ
  | o, σ => Q o σ

theorem tri_block {id : Nat} {c : Code} {Q : Out → St → Prop} (h : TriG ro Y c σ (InBlock id Q)) : TriG ro Y (.block id c) σ Q := by
  intro W a w W0 own0 w0 hr hs
  refine wpIn_block (wpIn_mono (h W a w W0 own0 w0 hr hs) ?_)
  rintro e a' w' ⟨o, σ', W', ho, hq, hr', hs'⟩
  cases o <;> cases e <;> simp only [OutR] at ho
  · exact ⟨.normal, σ', W', trivial, hq, hr', hs'⟩
  · rename_i i j
    subst ho
    simp only [InBlock, Exit.inBlock] at hq ⊢
    by_cases hi : i = id
    · rw [if_pos hi] at hq ⊢; exact ⟨.normal, σ', W', trivial, hq, hr', hs'⟩
    · rw [if_neg hi] at hq ⊢; exact ⟨.exit i, σ', W', rfl, hq, hr', hs'⟩
  · exact ⟨.ret, σ', W', trivial, hq, hr', hs'⟩

theorem stepR_scope {P : Program} {b : Frame} {a : Act} {k : List Item} {cs : List Frame} {w : World} {c : Code} : step P (lone (b.atR a (.code (.scope c) :: k)) cs w) = .next (lone (b.atR a (.code c :: .inScope c :: k)) cs w) :=
  step_lone_go (by simp [stepG, stepG.exec, Frame.atR])
theorem stepR_inScope {P : Program} {b : Frame} {a : Act} {k : List Item} {cs : List Frame} {w : World} {c : Code} : step P (lone (b.atR a (.inScope c :: k)) cs w) = .next (lone (b.atR a k) cs w) :=
  step_lone_go (by simp [stepG, stepG.exec, Frame.atR])

theorem wpIn_scope_straight {F : Fence} {n : Nat} {P : Program} {a : Act} {w : World} {Q : Exit → Act → World → Prop} {c : Code} (h : c.wpIn F n P (Exit.noGoto Q) a w) : (Code.scope c).wpIn F n P Q a w := by
  intro b k cs hro hb hr
  have h0 : (lone (b.atR a (.code (.scope c) :: k)) cs w).fenced P F := fenced_calm hb hr rfl
  obtain ⟨e, a₁, w₁, hq, harr⟩ := h b (.inScope c :: k) cs hro hb hr
  cases e with
  | normal => exact ⟨.normal, a₁, w₁, hq, .head h0 stepR_scope (StepsIn.trans harr (.one (fenced_calm hb hr rfl) stepR_inScope))⟩
  | exit id =>
    have hx : exitTo id (.inScope c :: k) = exitTo id k := by simp [exitTo]
    exact ⟨.exit id, a₁, w₁, hq, fun k' hk => .head h0 stepR_scope (harr.1 k' (by rw [hx]; exact hk)),
      fun hr' hk => let ⟨k₁, h1, h2⟩ := harr.2 hr' (by rw [hx]; exact hk); ⟨k₁, h1, .head h0 stepR_scope h2⟩⟩
  | goto l => exact hq.elim
  | ret => exact ⟨_, a₁, w₁, hq, .of_steps (.one h0 stepR_scope) harr⟩
  | panic ch => exact ⟨_, a₁, w₁, hq, .of_steps (.one h0 stepR_scope) harr⟩
  | outgrown => exact ⟨_, a₁, w₁, hq, .of_steps (.one h0 stepR_scope) harr⟩

theorem tri_scope {c : Code} {Q : Out → St → Prop} (h : TriG ro Y c σ Q) : TriG ro Y (.scope c) σ Q := by
  intro W a w W0 own0 w0 hr hs
  refine wpIn_scope_straight (wpIn_mono (h W a w W0 own0 w0 hr hs) ?_)
  rintro e a' w' ⟨o, σ', W', ho, hq⟩
  cases e <;> first | exact ⟨o, σ', W', ho, hq⟩ | (cases o <;> exact ho.elim)

theorem tri_loop {c : Code} {Q : Out → St → Prop} (I : Nat → St → Prop) {n : Nat} (h0 : I n σ)
    (round : ∀ n σ, I n σ → TriG ro Y c σ fun o σ' => match o with | .normal => ∃ m, m < n ∧ I m σ' | o => Q o σ') : TriG ro Y (.loop c) σ Q := by
  intro W a w W0 own0 w0 hr hs
  have key : ∀ n, ∀ m σ W a w, m ≤ n → I m σ → Rel W σ a w → Stp W0 own0 w0 W (mine W σ a) w → Code.roundsIn (FrR ro) 0 Y.P c (PostX Q W0 own0 w0) (n + 1) a w := by
    intro n
    induction n with
    | zero =>
      intro m σ W a w hm hi hr hs
      rw [roundsIn_succ]
      refine wpIn_mono (round m σ hi W a w W0 own0 w0 hr hs) ?_
      rintro e a' w' ⟨o, σ', W', ho, hq, hr', hs'⟩
      cases o <;> cases e <;> simp only [OutR] at ho
      · obtain ⟨k, hk, _⟩ := hq; omega
      · exact ⟨.exit _, σ', W', ho, hq, hr', hs'⟩
      · exact ⟨.ret, σ', W', trivial, hq, hr', hs'⟩
    | succ n ih =>
      intro m σ W a w hm hi hr hs
      rw [roundsIn_succ]
      refine wpIn_mono (round m σ hi W a w W0 own0 w0 hr hs) ?_
      rintro e a' w' ⟨o, σ', W', ho, hq, hr', hs'⟩
      cases o <;> cases e <;> simp only [OutR] at ho
      · obtain ⟨k, hk, hi'⟩ := hq
        exact ih k σ' W' a' w' (by omega) hi' hr' hs'
      · exact ⟨.exit _, σ', W', ho, hq, hr', hs'⟩
      · exact ⟨.ret, σ', W', trivial, hq, hr', hs'⟩
  exact wpIn_loop_rounds (n + 1) (key n n σ W a w (Nat.le_refl _) h0 hr hs)

theorem Rel.noRefs (h : Rel W σ a w) : Rel W { σ with refs := [] } a w := ⟨h.heap, h.size, h.env, h.box, fun _ _ _ hm => by simp at hm, h.defers⟩

theorem mine_noRefs {b : Nat} : mine W { σ with refs := [] } a b ↔ mine W σ a b := Iff.rfl

theorem VRs.undefs (n : Nat) : VRs W (List.replicate n .undef) (List.replicate n Go.undef) := by
  induction n with
  | zero => exact .nil
  | succ n ih => exact .cons _ _ _ _ (.undef _) ih

theorem Rel.start {h : Heap} (hr : HRel W h w) {args : List V} {us : List Value} (hv : VRs W args us) (n : Nat) :
    Rel W ⟨args ++ List.replicate (n - args.length) .undef, [], h⟩ { tmps := us.toArray ++ Array.replicate (n - us.toArray.size) Go.undef, defers := [] } w ∧
    ∀ b, mine W ⟨args ++ List.replicate (n - args.length) .undef, [], h⟩ { tmps := us.toArray ++ Array.replicate (n - us.toArray.size) Go.undef, defers := [] } b → W.own b := by
  have hl := hv.length
  have hall : VRs W (args ++ List.replicate (n - args.length) .undef) (us ++ List.replicate (n - us.length) Go.undef) := by
    rw [hl]; exact hv.append (VRs.undefs _)
  have hta : (us.toArray ++ Array.replicate (n - us.toArray.size) Go.undef) = (us ++ List.replicate (n - us.length) Go.undef).toArray := by
    apply Array.ext'; simp
  have hno : ∀ (t : Nat) (cs : List V), (args ++ List.replicate (n - args.length) .undef)[t]? ≠ some (V.lb cs) := by
    intro t cs he
    obtain ⟨u, _, h2⟩ := hall.get he
    exact h2.ne_box.1 cs rfl
  rw [hta]
  refine ⟨⟨hr, by simp [hl], fun t v ht => ?_, fun t t' b h1 _ => absurd h1.1.choose_spec (hno t _), fun _ _ _ hm => by simp at hm, .none rfl⟩, ?_⟩
  · obtain ⟨u, h1, h2⟩ := hall.get ht
    exact ⟨u, by simpa using h1, h2.srel⟩
  · rintro b (ho | ⟨t, ⟨cs, h1⟩, _⟩ | hm)
    · exact ho
    · exact absurd h1 (hno t cs)
    · simp at hm

theorem results_run {g : ResultVar → Sem Value} (hg : ∀ r x, resultY Y σ r = some x → ∃ u, VR W x u ∧ (g r).run Y.P w = .ok u w) {rs : Array ResultVar} {fn : Func} (hrs : fn.results = rs) {v : V} (hv : resultsY Y fn σ = some v) :
    ∃ u, VR W v u ∧ (do let vs ← rs.mapM g; pure (if h : vs.size = 1 then vs[0] else .tuple vs) : Sem Value).run Y.P w = .ok u w := by
  have many : ∀ (l : List ResultVar) (vs : List V), resultYs Y σ l = some vs → ∃ us, VRs W vs us ∧ (l.mapM g).run Y.P w = .ok us w := by
    intro l
    induction l with
    | nil => intro vs hvs; simp [resultYs] at hvs; subst hvs; exact ⟨[], .nil, by simp⟩
    | cons r l ih =>
      intro vs hvs
      simp only [resultYs] at hvs
      split at hvs
      · rename_i x xs h1 h2
        simp at hvs; subst hvs
        obtain ⟨u, g1, g2⟩ := hg r x h1
        obtain ⟨us, g3, g4⟩ := ih xs h2
        exact ⟨u :: us, .cons _ _ _ _ g1 g3, by simp only [List.mapM_cons, Sem.run_bind, g2, g4, Result.andThen_ok, Sem.run_pure]⟩
      · cases hvs
  unfold resultsY at hv
  rw [hrs] at hv
  have fin : ∀ vs, resultYs Y σ rs.toList = some vs → ∃ us, VRs W vs us ∧
      (do let vs ← rs.mapM g; pure (if h : vs.size = 1 then vs[0] else .tuple vs) : Sem Value).run Y.P w = .ok (if hh : us.toArray.size = 1 then us.toArray[0] else .tuple us.toArray) w := by
    intro vs hvs
    obtain ⟨us, h1, h2⟩ := many _ vs hvs
    refine ⟨us, h1, ?_⟩
    rw [Array.mapM_eq_mapM_toList, Sem.run_bind, Sem.run_map, h2]
    rfl
  split at hv
  · rename_i x hx
    simp at hv; subst hv
    obtain ⟨us, h1, h2⟩ := fin _ hx
    cases h1 with
    | cons _ u _ _ g1 g2 => cases g2; exact ⟨u, g1, by simpa using h2⟩
  · rename_i vs hne hx
    simp at hv; subst hv
    obtain ⟨us, h1, h2⟩ := fin _ hx
    refine ⟨.tuple us.toArray, .tup _ _ h1, ?_⟩
    rw [h2]
    have hl := h1.length
    have : ¬ us.toArray.size = 1 := by
      intro h1'
      simp at h1'
      rw [h1'] at hl
      match vs, hl with
      | [x], _ => exact hne x rfl
    rw [dif_neg this]
  · cases hv

theorem results_ok (hY : YOK Y) (h : Rel W σ a w) {fn : Func} {v : V} (hv : resultsY Y fn σ = some v) : ∃ u, VR W v u ∧ (results fn a.tmps).run Y.P w = .ok u w := by
  unfold results
  refine results_run (fun r x hx => ?_) rfl hv
  cases r with
  | tmp t =>
    have he := h.ev (.tmp t)
    have hx' : ev σ.env (.tmp t) = x := by
      revert hx
      simp only [resultY]
      cases ev σ.env (.tmp t) <;> simp
    rw [hx'] at he
    exact ⟨_, he, rfl⟩
  | cell s t =>
    simp only [resultY] at hx
    split at hx
    · rename_i ti ad hti had
      obtain ⟨u, h1, h2⟩ := load_ok hY h hti had hx
      obtain ⟨y, hy, _⟩ := addr_ok h had
      refine ⟨u, h1, ?_⟩
      have := h2 w (.refl w)
      rw [hy] at this
      have hy' : a.tmps.getD s Go.undef = .pointer (some y) := hy
      simp only [hy', asAddr, Sem.run_bind, Sem.run_pure, Result.andThen_ok]
      simpa [Instr.loadAt, Instr.sureAddr] using this
    · cases hx

theorem Rel.take (h : Rel W σ a w) {d : Deferred} {ds : List Deferred} (hd : a.defers = d :: ds) : ∃ (r : Nat) (w' : World), d.target = .collected r ∧ (Instr.takeDeferred r).run Y.P w = .ok [] w' ∧
    Rel W σ { a with defers := ds } w' ∧ Stp W (mine W σ a) w W (mine W σ { a with defers := ds }) w' := by
  obtain ⟨r, rfl, h2, h3, h4⟩ := h.defers.at_ d (by rw [hd]; simp)
  have hlt := lt_of_block h2
  have hk : ∀ x, x ≠ r → (w.putB r (.deferred none)).heap[x]? = w.heap[x]? := fun x hx => putB_other _ _ _ _ (fun e => hx e.symm)
  have hnd := h.defers.nd
  rw [hd, List.nodup_cons] at hnd
  refine ⟨r, w.putB r (.deferred none), rfl, run_takeDeferred h2, ⟨⟨h.heap.kn, h.heap.lk, h.heap.lv, h.heap.lt, fun b o hb => ?_, fun id o ho => ?_, h.heap.inj, h.heap.apart, fun p hp => ⟨(h.heap.tg p hp).1, fun hl => ?_⟩, h.heap.gl⟩, h.size, fun t v ht => ?_, h.box, h.refs, ⟨hnd.2, fun d hd' => ?_⟩⟩,
    ⟨.refl W, by simp, fun b _ hn => hk b (fun e => hn (.inr (.inr (by rw [hd, e]; simp)))), fun b hb => ?_, fun b hb => .inl hb, ⟨rfl, rfl, rfl⟩⟩⟩
  · rw [hk b (fun e => by rw [e, h3] at hb; cases hb)]; exact h.heap.snap b o hb
  · exact h.heap.others hk ho (fun e => h4 ⟨id, (h.heap.lv id).2 (by simp [ho]), e⟩)
  · obtain ⟨g1, c, fr, g2, g3⟩ := (h.heap.tg p hp).2 hl
    exact ⟨g1, c, fr, by rw [hk _ (fun e => by rw [e, h2] at g2; cases g2)]; exact g2, g3⟩
  · obtain ⟨u, h5, h6⟩ := h.env t v ht
    refine ⟨u, h5, ?_⟩
    cases v with
    | lb cs =>
      obtain ⟨b, c, e, hu, hb, hq⟩ := h6
      exact ⟨b, c, e, hu, by rw [hk b (fun e' => by rw [e', h2] at hb; cases hb)]; exact hb, hq⟩
    | _ => exact h6
  · obtain ⟨r', rfl, q2, q3, q4⟩ := h.defers.at_ d (by rw [hd]; exact List.mem_cons_of_mem _ hd')
    exact ⟨r', rfl, by rw [hk r' (fun e => by rw [e] at hd'; exact hnd.1 hd')]; exact q2, q3, q4⟩
  · rcases hb with hb | hb | hb
    · exact .inl (.inl hb)
    · exact .inl (.inr (.inl hb))
    · exact .inl (.inr (.inr (by rw [hd]; exact List.mem_cons_of_mem _ hb)))

theorem leaves_ok (hY : YOK Y) {fn : Func} {v : V} (hres : resultsY Y fn σ = some v) {R : Ending → World → Prop} {own0 : Nat → Prop} {W0 : Vw} {w0 : World}
    (hR : ∀ (u : Value) (w' : World), VR W v u → HRel W σ.h w' → Stp W0 own0 w0 W W.own w' → R (.returned u) w') :
    ∀ (ds : List Deferred) (a : Act) (w : World), a.defers = ds → Rel W σ a w → Stp W0 own0 w0 W (mine W σ a) w → LeavesInM (FrR none) 0 Y.P fn a.tmps R ds .returning w
  | [], a, w, hd, hr, hs => by
    obtain ⟨u, hu, hrun⟩ := results_ok hY hr hres
    exact ⟨u, hrun, hR u w hu hr.heap (hs.weaken fun b hb => .inl hb)⟩
  | d :: ds, a, w, hd, hr, hs => by
    obtain ⟨r, w', h1, h2, h3, h4⟩ := hr.take (Y := Y) hd
    exact ⟨by simp, .inl ⟨r, w', h1, h2, leaves_ok hY hres hR ds { a with defers := ds } w' rfl h3 (hs.trans h4)⟩⟩

theorem callTr_of (hY : YOK Y) {f : FuncId} {fn : Func} {body : Code} (hf : Y.P.funcs[f]? = some fn) (hb : fn.body = some body) {args : List V} {h : Heap} {Q : V → Heap → Prop}
    (ht : Tri Y body ⟨args ++ List.replicate (fn.ntmps - args.length) .undef, [], h⟩ fun o σ => (o = .normal ∨ o = .ret) ∧ ∃ v, resultsY Y fn σ = some v ∧ Q v σ.h) : CallTr Y f args h Q := by
  intro W w us hr hv
  obtain ⟨h1, h2⟩ := Rel.start hr hv fn.ntmps
  refine (callsIn_wide (n := 0)).1 (callsIn_of_wp_marks (F := FrR none) hf hb trivial (wpIn_mono (ht W _ w W W.own w h1 ((Stp.refl W W.own w).weaken h2)) ?_))
  rintro e a' w' ⟨o, σ', W', ho, ⟨hor, v, hres, hq⟩, hr', hs'⟩
  have fin : LeavesInM (FrR none) 0 Y.P fn a'.tmps (fun e w' => ∃ (v : V) (h' : Heap) (W' : Vw) (u : Value), Q v h' ∧ e = .returned u ∧ HRel W' h' w' ∧ VR W' v u ∧ Stp W W.own w W' W'.own w') a'.defers .returning w' :=
    leaves_ok hY hres (W0 := W) (own0 := W.own) (w0 := w) (fun u w2 hu hh hst => ⟨v, σ'.h, W', u, hq, rfl, hh, hu, hst⟩) a'.defers a' w' rfl hr' hs'
  rcases hor with rfl | rfl <;> cases e <;> simp only [OutR] at ho
  · exact fin
  · exact fin

theorem Stp.same {own : Nat → Prop} (s : Same w w') (hstr : Str w w') : Stp W own w W own w' where
  str := hstr
  le := .refl W
  size := s.size
  keep b hb _ := by rw [Array.getElem?_eq_getElem hb]; exact s b _ (Array.getElem?_eq_getElem hb)
  owns b h := .inl h
  new b h := .inl h


end
end Go.Y
