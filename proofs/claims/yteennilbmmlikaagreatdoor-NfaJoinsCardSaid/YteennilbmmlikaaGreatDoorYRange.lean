/- A range over a function: its rounds, and the statement. -/
import Derived.Test.YteennilbmmlikaaGreatDoorYEff
import Derived.RangeFuncIn
namespace Go.Y

def Out.isN : Out → Bool | .normal => true | _ => false
def Out.jump : Out → Option Code
  | .normal => none
  | .exit i => some (.exit i)
  | .ret => some .ret

def setPs : List Tmp → List V → List V → List V
  | t :: ts, v :: vs, env => setPs ts vs (env.set t v)
  | _, _, env => env

section
variable {Y : YP} {W W' : Vw} {σ σ' : St} {a : Act} {w w' : World}

theorem VRs.set : ∀ {l : List V} {m : List Value}, VRs W l m → ∀ {v : V} {u : Value}, VR W v u → ∀ t, VRs W (l.set t v) (m.set t u)
  | _, _, .nil, v, u, _, t => by simp; exact .nil
  | _, _, .cons _ _ _ _ hv hs, v, u, h, 0 => .cons _ _ _ _ h hs
  | _, _, .cons _ _ _ _ hv hs, v, u, h, t + 1 => .cons _ _ _ _ hv (hs.set h t)

theorem setPs_rel : ∀ {ts : List Tmp} {vs env : List V} {us tm : List Value}, VRs W vs us → VRs W env tm → VRs W (setPs ts vs env) ((ts.zip us).foldl (fun (t : Array Value) x => t.setIfInBounds x.1 x.2) tm.toArray).toList
  | [], vs, env, us, tm, _, he => by simpa [setPs] using he
  | t :: ts, _, env, _, tm, .nil, he => by simpa [setPs] using he
  | t :: ts, _, env, _, tm, .cons v u vs us hv hs, he => by
    simp only [setPs, List.zip_cons_cons, List.foldl_cons]
    have := setPs_rel (ts := ts) hs (he.set hv t)
    simpa using this

theorem Rel.plainOf {h : Heap} (hr : HRel W h w) {env : List V} {us : List Value} (hall : VRs W env us) :
    Rel W ⟨env, [], h⟩ { tmps := us.toArray, defers := [] } w ∧ ∀ b, mine W ⟨env, [], h⟩ { tmps := us.toArray, defers := [] } b → W.own b := by
  have hno : ∀ (t : Nat) (cs : List V), env[t]? ≠ some (V.lb cs) := by
    intro t cs he
    obtain ⟨u, _, h2⟩ := hall.get he
    exact h2.ne_box.1 cs rfl
  refine ⟨⟨hr, by simp [hall.length], fun t v ht => ?_, fun t t' b h1 _ => absurd h1.1.choose_spec (hno t _), fun _ _ _ hm => by simp at hm, .none rfl⟩, ?_⟩
  · obtain ⟨u, h1, h2⟩ := hall.get ht
    exact ⟨u, by simpa using h1, h2.srel⟩
  · rintro b (ho | ⟨t, ⟨cs, h1⟩, _⟩ | hm)
    · exact ho
    · exact absurd h1 (hno t cs)
    · simp at hm

theorem HRel.loopSet {h : Heap} (hr : HRel W h w) {id : Nat} {L L' : YLp} (hg : h.get id = some (.loop L)) {r' : Loop}
    (he : ∀ fn us df, r' = { state := L'.st, pending := L'.pend, fn := fn, tmps := us.toArray, params := L'.ps, assign := L'.assign, body := L'.body, defers := df } → VRs W L'.env us → True)
    (ho : ∃ (fn : FuncId) (us : List Value) (df : Nat), r' = { state := L'.st, pending := L'.pend, fn, tmps := us.toArray, params := L'.ps, assign := L'.assign, body := L'.body, defers := df } ∧ VRs W L'.env us) :
    HRel W (h.set id (some (.loop L'))) (w.putObj (W.mu id).1 (.loop r')) ∧ Stp W W.own w W W.own (w.putObj (W.mu id).1 (.loop r')) := by
  have hlv : W.lv id := (hr.lv id).2 (by simp [hg])
  obtain ⟨fn0, us0, df0, hb, _⟩ := hr.obj id _ hg
  have hlt := lt_of_block hb
  refine hr.write (w' := w.putObj (W.mu id).1 (.loop r')) ⟨rfl, rfl, rfl⟩ hlv (fun c hc => putB_other w _ _ _ (fun e => hc e.symm)) (putB_size w _ _) (fun c e fr h1 => by rw [hb] at h1; cases h1) ?_
  obtain ⟨fn, us, df, rfl, hv⟩ := ho
  exact ⟨fn, us, df, putB_same w _ _ hlt, hv⟩

theorem round_of {id : Nat} {args : List V} {h : Heap} {L : YLp} {Q : V → Heap → Prop} (hg : h.get id = some (.loop L)) (hl : args.length = L.ps.size)
    (ht : ∀ ro, TriG ro Y L.assign ⟨setPs L.ps.toList args L.env, [], h⟩ fun o σ1 => o = .normal ∧ ∃ L1, σ1.h.get id = some (.loop L1) ∧ L1.st = .ready ∧
      ∀ ro, TriG ro Y L.body { σ1 with h := σ1.h.set id (some (.loop { L1 with st := .busy })) } fun o2 σ2 => ∃ L2, σ2.h.get id = some (.loop L2) ∧
        Q (.b o2.isN) (σ2.h.set id (some (.loop { L2 with st := if o2.isN then .ready else .done, pend := o2.jump })))) : RdCon Y id args h Q := by
  refine ⟨fun W w us hr hv => ?_⟩
  have hlv : W.lv id := (hr.lv id).2 (by simp [hg])
  have hid : W.kn id := hr.known (by simp [hg])
  obtain ⟨fn, tm, df, hb, hve⟩ := hr.obj id _ hg
  have hy := run_yield (P := Y.P) (args := us.toArray) hb (by simp [← hv.length, hl])
  refine ⟨hlv, fn, _, L.assign, L.body, hy, ?_⟩
  have hset := setPs_rel (ts := L.ps.toList) hv hve
  have hfold : (L.ps.zip us.toArray).foldl (fun (tmps : Array Value) (x : Tmp × Value) => tmps.setIfInBounds x.1 x.2) tm.toArray = ((L.ps.toList.zip us).foldl (fun (t : Array Value) x => t.setIfInBounds x.1 x.2) tm.toArray).toList.toArray := by
    rw [← Array.foldl_toList]
    simp
  obtain ⟨hrel, hmine⟩ := Rel.plainOf hr hset
  refine roundIn_of_wpIn (F := Fence.wide) trivial ?_
  have h1 := ht (some (W.mu id).1) W _ w W W.own w hrel ((Stp.refl W W.own w).weaken hmine)
  rw [← hfold] at h1
  refine wpIn_mono h1 ?_
  rintro e a1 w1 ⟨o, σ1, W1, ho, ⟨rfl, L1, hg1, hst, hb2⟩, hr1, hs1⟩
  cases e <;> simp only [OutR] at ho
  have hmu : W1.mu id = W.mu id := hs1.le.mu id hid
  obtain ⟨fn1, tm1, df1, hb1, hve1⟩ := hr1.heap.obj id _ hg1
  obtain ⟨g1, g2⟩ := hr1.heap.loopSet (L' := { L1 with st := .busy }) hg1 (fun _ _ _ _ _ => trivial) ⟨fn1, tm1, df1, rfl, hve1⟩
  have hbeg := run_beginRound (P := Y.P) hb1 hst
  refine ⟨_, by rw [← hmu]; exact hbeg, ?_⟩
  have hrel2 := hr1.call g2 g1
  have hst2 := hs1.trans (g2.frame hr1 (h' := σ1.h.set id (some (.loop { L1 with st := .busy }))))
  refine wpIn_mono (hb2 (some (W.mu id).1) W1 a1 _ W W.own w hrel2 hst2) ?_
  rintro e a2 w3 ⟨o2, σ2, W2, ho2, ⟨L2, hg2, hq⟩, hr2, hs2⟩
  have hmu2 : W2.mu id = W.mu id := hs2.le.mu id hid
  obtain ⟨fn2, tm2, df2, hb3, hve2⟩ := hr2.heap.obj id _ hg2
  have fin : ∀ j, j = o2.jump → ∃ v w', (Instr.endRound (W.mu id).1 j).run Y.P w3 = .ok v w' ∧ ∃ (v' : V) (h' : Heap) (W' : Vw) (u : Value), Q v' h' ∧ Ending.returned v = .returned u ∧ HRel W' h' w' ∧ VR W' v' u ∧ Stp W W.own w W' W'.own w' := by
    intro j hj
    have hend := run_endRound (P := Y.P) j hb3
    obtain ⟨g3, g4⟩ := hr2.heap.loopSet (L' := { L2 with st := if o2.isN then .ready else .done, pend := o2.jump }) hg2 (fun _ _ _ _ _ => trivial) ⟨fn2, tm2, df2, rfl, hve2⟩
    have hjn : o2.jump.isNone = o2.isN := by cases o2 <;> rfl
    subst hj
    rw [hjn] at hend
    rw [← hmu2]
    exact ⟨_, _, hend, _, _, W2, _, hq, rfl, g3, .b _, (hs2.weaken fun b hb => .inl hb).trans g4⟩
  cases o2 <;> cases e <;> simp only [OutR] at ho2
  · exact fin none rfl
  · subst ho2; exact fin _ rfl
  · exact fin _ rfl

theorem Rel.mark (h : Rel W σ a w) : Rel W σ { a with defers := mkD w.heap.size :: a.defers } (w.alloc (.deferred (some []))) ∧
    Stp W (mine W σ a) w W (mine W σ { a with defers := mkD w.heap.size :: a.defers }) (w.alloc (.deferred (some []))) := by
  have hs := alloc_same w (.deferred (some []))
  have h1 := h.same hs
  refine ⟨⟨h1.heap, h1.size, h1.env, h1.box, h1.refs, ⟨?_, fun d hd => ?_⟩⟩, ⟨.refl W, by simp, fun b hb _ => alloc_other _ _ _ (by omega), fun b hb => ?_, fun b hb => .inl hb, ⟨rfl, rfl, rfl⟩⟩⟩
  · refine List.nodup_cons.2 ⟨fun hm => ?_, h.defers.nd⟩
    obtain ⟨r, h2, h3, _⟩ := h.defers.at_ _ hm
    have := mkD_inj h2
    have := lt_of_block h3
    omega
  · rcases List.mem_cons.1 hd with rfl | hd
    · refine ⟨_, rfl, alloc_at _ _, ?_, ?_⟩
      · cases hsn : W.snap w.heap.size with
        | none => rfl
        | some o => have := lt_of_block (h.heap.snap _ _ hsn); omega
      · rintro ⟨id, hl, he⟩
        have := h.heap.blk hl; omega
    · exact h1.defers.at_ d hd
  · rcases hb with hb | hb | hb
    · exact .inl (.inl hb)
    · exact .inl (.inr (.inl hb))
    · rcases List.mem_cons.1 hb with he | hb
      · have := mkD_inj he; exact .inr (by omega)
      · exact .inl (.inr (.inr hb))

theorem Rel.plains (h : Rel W σ a w) : VRs W (σ.env.map V.plain) a.tmps.toList := by
  refine VRs.of_get (by simp [h.size]) fun j v u hv hu => ?_
  simp only [List.getElem?_map, Option.map_eq_some_iff] at hv
  obtain ⟨v0, h1, rfl⟩ := hv
  obtain ⟨u0, h2, h3⟩ := h.env j v0 h1
  have : u = u0 := by
    have hu' : a.tmps[j]? = some u := by simpa using hu
    rw [h2] at hu'; simpa using hu'.symm
  subst this
  exact h3.plain

theorem tri_range (hY : YOK Y) {g : Operand} {ps : Array Tmp} {as bd : Code} {Q : Out → St → Prop} {f : FuncId} {fa fc : List V} {loc : Nat → Bool} (hg : ev σ.env g = .fn (.func f) fa fc)
    (hc : Con Y f (fa ++ [.yl σ.h.nx] ++ fc) (σ.h.push (.loop ⟨.ready, none, σ.env.map V.plain, ps, as, bd, loc⟩)) fun _ h2 => ∃ L, h2.get σ.h.nx = some (.loop L) ∧ ¬ L.st = .busy ∧ match L.pend with
      | none => Q .normal { σ with refs := [], h := h2.set σ.h.nx none }
      | some (.exit i) => Q (.exit i) { σ with refs := [], h := h2.set σ.h.nx none }
      | some .ret => Q .ret { σ with refs := [], h := h2.set σ.h.nx none }
      | _ => False) : Tri Y (.rangeFunc g ps as bd) σ Q := by
  intro W a w W0 own0 w0 hr hs
  have hgv := hr.ev g
  rw [hg] at hgv
  generalize hge : a.eval g = ug at hgv
  cases hgv with
  | fn _ _ _ ua uc ha hcc =>
  refine wpIn_rangeFunc (F := FrR none) fun fn _ => ?_
  obtain ⟨hm1, hm2⟩ := hr.mark
  -- the record
  have hA : HRel W σ.h (w.alloc (.deferred (some []))) := hm1.heap
  have hnn : ¬ W.kn σ.h.nx := hr.heap.new (Nat.le_refl _)
  obtain ⟨p1, p2⟩ := hA.push (o := .loop ⟨.ready, none, σ.env.map V.plain, ps, as, bd, loc⟩) (sz := 0) (w' := (w.alloc (.deferred (some []))).alloc (.loop { state := .ready, pending := none, fn, tmps := a.tmps, params := ps, assign := as, body := bd, defers := w.heap.size }))
    ⟨rfl, rfl, rfl⟩ (alloc_same _ _) (by simp) (alloc_at _ _) ⟨fn, a.tmps.toList, w.heap.size, by simpa [Vw.push] using alloc_at (w.alloc (.deferred (some []))) _, hr.plains.mono (W.push_le hnn _ _)⟩
  have hsz : (w.alloc (.deferred (some []))).heap.size = w.heap.size + 1 := by simp
  rw [hsz] at p1 p2
  have hle := W.push_le hnn (w.heap.size + 1) 0
  have hv : VRs (W.push σ.h.nx (w.heap.size + 1) 0) (fa ++ [.yl σ.h.nx] ++ fc) (ua ++ [.func (.yield (w.heap.size + 1)) #[] #[]] ++ uc) :=
    ((ha.mono hle).append (.cons _ _ _ _ (.yl _ _ (.inr rfl) (fun _ => by simp [Vw.push])) .nil)).append (hcc.mono hle)
  have e1 : ((ua.toArray ++ #[Value.func (.yield (w.heap.size + 1)) #[] #[]]) ++ uc.toArray) = (ua ++ [Value.func (.yield (w.heap.size + 1)) #[] #[]] ++ uc).toArray := by
    apply Array.ext'; simp
  let w1 := (w.alloc (.deferred (some []))).alloc (.loop { state := .ready, pending := none, fn, tmps := a.tmps, params := ps, assign := as, body := bd, defers := w.heap.size })
  have hres : (resolve a.eval (rangeCall g (w.heap.size + 1)) 0).run Y.P w1 = .ok { target := .fn (.func f) uc.toArray, args := ua.toArray ++ #[.func (.yield (w.heap.size + 1)) #[] #[]] } w1 := by
    have e0 : (#[Operand.const (Value.func (.yield (w.heap.size + 1)) #[] #[])].map a.eval) = #[Value.func (.yield (w.heap.size + 1)) #[] #[]] := by simp [Act.eval]
    simp only [rangeCall, resolve, hge, Deferred.ofValue, Sem.run_pure, e0]
  have hinv : (invoke (.fn (.func f) uc.toArray) (ua.toArray ++ #[.func (.yield (w.heap.size + 1)) #[] #[]])).run Y.P w1 = .ok (.enter f (ua ++ [Value.func (.yield (w.heap.size + 1)) #[] #[]] ++ uc).toArray) w1 := by
    simp only [invoke]
    rw [e1]
    exact run_callFunc hY hc.body _ _
  refine ⟨w.heap.size + 1, [mkD w.heap.size], w1, _, w1, f, _, w1, run_enterLoop_outer fn a.tmps ps as bd, hres, fun _ _ => trivial, hinv, fun h => by simp [FrR, Fence.wide] at h, ?_⟩
  · refine (callsIn_wide (n := 0)).2 ((hc.tr _ _ _ p1 hv).mono ?_)
    rintro e w3 ⟨v, h2, W2, u, ⟨L, hL, hst, hq⟩, rfl, hh, hvu, hstp⟩
    have hid : (W.push σ.h.nx (w.heap.size + 1) 0).kn σ.h.nx := .inr rfl
    have hmu : (W2.mu σ.h.nx).1 = w.heap.size + 1 := by
      rw [hstp.le.mu _ hid]; simp [Vw.push]
    obtain ⟨fn2, tm2, df2, hb, hve⟩ := hh.obj _ _ hL
    obtain ⟨g1, g2⟩ := hh.loopSet (L' := { L with st := .exhausted }) hL (fun _ _ _ _ _ => trivial) ⟨fn2, tm2, df2, rfl, hve⟩
    have hend := run_endLoop (P := Y.P) hb (by exact hst)
    rw [hmu] at hend g1 g2
    obtain ⟨k1, k2⟩ := g1.kill (i := σ.h.nx) (g1.lt _ (g1.kn _ (hstp.le.kn _ hid)))
    have k3 : HRel (W2.kill σ.h.nx) (h2.set σ.h.nx none) _ := k1.ext (fun i => by simp only [Heap.raw_set]; split <;> rfl) rfl rfl
    have hall := ((p2.trans hstp).trans g2).trans k2
    have hrel := (hm1.noRefs.call hall k3)
    have hst4 := (hs.trans hm2).trans (hall.frame hm1.noRefs (h' := h2.set σ.h.nx none))
    obtain ⟨w4, hend, hrel, hst4⟩ : ∃ w4, (Instr.endLoop (w.heap.size + 1)).run Y.P w3 = .ok L.pend w4 ∧ Rel (W2.kill σ.h.nx) { σ with refs := [], h := h2.set σ.h.nx none } { tmps := a.tmps, defers := [mkD w.heap.size] ++ a.defers } w4 ∧
        Stp W0 own0 w0 (W2.kill σ.h.nx) (mine (W2.kill σ.h.nx) { σ with refs := [], h := h2.set σ.h.nx none } { tmps := a.tmps, defers := [mkD w.heap.size] ++ a.defers }) w4 := ⟨_, hend, hrel, hst4⟩
    refine ⟨L.pend, w4, hend, ?_⟩
    cases hp : L.pend with
    | none =>
      rw [hp] at hq
      exact ⟨.normal, _, _, trivial, hq, hrel, hst4⟩
    | some c =>
      rw [hp] at hq
      cases c with
      | exit i => exact wpIn_exit ⟨.exit i, _, _, rfl, hq, hrel, hst4⟩
      | ret => exact wpIn_ret ⟨.ret, _, _, trivial, hq, hrel, hst4⟩
      | _ => exact hq.elim
end
end Go.Y
