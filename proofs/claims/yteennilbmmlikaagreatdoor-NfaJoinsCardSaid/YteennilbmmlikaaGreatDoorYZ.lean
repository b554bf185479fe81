/- Closed runs, calls from nothing where they may be. -/
import Derived.Test.YteennilbmmlikaaGreatDoorYAny3
import Derived.Test.YteennilbmmlikaaGreatDoorYRange
namespace Go.Y

def mapO (f : V → Option V) : List V → Option (List V)
  | [] => some []
  | v :: r => match f v, mapO f r with
    | some v', some r' => some (v' :: r')
    | _, _ => none

def frzZ : Nat → Heap → V → Option V
  | 0, _, _ => none
  | n + 1, h, v =>
    match v with
    | .undef => some .undef
    | .b x => some (.b x)
    | .i k n => some (.i k n)
    | .s l => some (.s l)
    | .p none => some (.p none)
    | .sl none 0 _ _ => some (.ts [] 0 (some 0))
    | .sl (some (id, off)) len cap k =>
      if k = 0 then none else
      match h.get id with
      | some (.arr cs _) => match takeX (len * k) (cs.drop off) with
        | some c1 => (mapO (frzZ n h) c1).map fun cs' => .ts cs' len cap
        | none => none
      | _ => none
    | .ts cs len cap => some (.ts cs len cap)
    | .tp cs => some (.tp cs)
    | .mp none => some (.mp none)
    | .fn f a c => match mapO (frzZ n h) a, mapO (frzZ n h) c with
      | some a', some c' => some (.fn f a' c')
      | _, _ => none
    | .nilfn => some .nilfn
    | .ifc t v => (frzZ n h v).map (.ifc t)
    | .nilifc => some .nilifc
    | .agg cs => (mapO (frzZ n h) cs).map .agg
    | .tup cs => (mapO (frzZ n h) cs).map .tup
    | _ => none

theorem mapO_ok {f : V → Option V} {h : Heap} (hf : ∀ v v', f v = some v' → Frz h v v') : ∀ {l l' : List V}, mapO f l = some l' → FrzL h l l'
  | [], l', e => by simp [mapO] at e; subst e; exact .nil
  | v :: r, l', e => by
    simp only [mapO] at e
    split at e
    · rename_i v' r' h1 h2
      simp at e; subst e
      exact .cons _ _ _ _ (hf _ _ h1) (mapO_ok hf h2)
    · cases e

theorem frzZ_ok {h : Heap} : ∀ (n : Nat) (v v' : V), frzZ n h v = some v' → Frz h v v'
  | 0, _, _, e => by simp [frzZ] at e
  | n + 1, v, v', e => by
    have ih := fun v v' => frzZ_ok (h := h) n v v'
    unfold frzZ at e
    split at e
    · cases e; exact .undef
    · cases e; exact .b _
    · cases e; exact .i _ _
    · cases e; exact .s _
    · cases e; exact .pn
    · cases e; exact .sln _ _ _ (fun x hx => by simpa using hx.symm)
    · split at e
      · cases e
      · rename_i hk
        split at e
        · rename_i cs wr hg
          split at e
          · rename_i c1 ht
            simp only [Option.map_eq_some_iff] at e
            obtain ⟨cs', h1, rfl⟩ := e
            exact .sl _ _ _ _ _ cs wr c1 cs' _ hg ht (fun _ h => h) hk (mapO_ok ih h1)
          · cases e
        · cases e
    · cases e; exact .ts _ _ _ _ fun _ h => h
    · cases e; exact .tp _
    · cases e; exact .mpn
    · split at e
      · rename_i a' c' h1 h2
        cases e
        exact .fn _ _ _ _ _ (mapO_ok ih h1) (mapO_ok ih h2)
      · cases e
    · cases e; exact .nilfn
    · simp only [Option.map_eq_some_iff] at e
      obtain ⟨w, h1, rfl⟩ := e
      exact .ifc _ _ _ (ih _ _ h1)
    · cases e; exact .nilifc
    · simp only [Option.map_eq_some_iff] at e
      obtain ⟨w, h1, rfl⟩ := e
      exact .agg _ _ (mapO_ok ih h1)
    · simp only [Option.map_eq_some_iff] at e
      obtain ⟨w, h1, rfl⟩ := e
      exact .tup _ _ (mapO_ok ih h1)
    · cases e

def frzD : Nat := 30

section
variable (Y : YP)

def idsZ : Nat → Heap → V → List Nat
  | n + 1, h, .sl (some (id, _)) _ _ _ => id :: match h.get id with
    | some (.arr cs _) => cs.flatMap (idsZ n h)
    | _ => []
  | n + 1, h, .agg cs => cs.flatMap (idsZ n h)
  | _, _, _ => []

def aggIds (h : Heap) : V → List Nat
  | .agg cs => cs.flatMap (idsZ frzD h)
  | _ => []

def frzC (h : Heap) (v : V) : V := match frzZ frzD h v with | some v' => v' | none => v
def frzAgg (h : Heap) : V → V
  | .agg cs => .agg (cs.map (frzC h))
  | v => v

theorem frzC_ok (h : Heap) (v : V) : FrzA h v (frzC h v) := by
  unfold frzC
  split
  · rename_i v' hv; exact .frz _ _ (frzZ_ok _ _ _ hv)
  · exact .same _
theorem frzCs_ok (h : Heap) : ∀ l : List V, FrzAL h l (l.map (frzC h))
  | [] => .nil
  | v :: l => .cons _ _ _ _ (frzC_ok h v) (frzCs_ok h l)
theorem frzAgg_ok (h : Heap) (v : V) : FrzA h v (frzAgg h v) := by
  unfold frzAgg
  split
  · exact .agg _ _ (frzCs_ok h _)
  · exact .same _
theorem frzAggs_ok (h : Heap) : ∀ l : List V, FrzAL h l (l.map (frzAgg h))
  | [] => .nil
  | v :: l => .cons _ _ _ _ (frzAgg_ok h v) (frzAggs_ok h l)

def impE (imp : FuncId → List V → Heap → Option (V × Heap)) (σ : St) (f : FuncId) (args : List V) : Option Ef :=
  match args.flatMap (aggIds σ.h) with
  | [] => match imp f args { σ.h with lo := σ.h.nx } with
    | some (v, h1) => if flatV v && decide (σ.h.nx ≤ h1.lo) && !coldAll args then some (.q (.val v)) else some (.hp { h1 with lo := min σ.h.lo h1.lo } v)
    | none => none
  | D => (imp f (args.map (frzAgg (takeD σ.h D))) (killD σ.h D)).map fun r => Ef.hp r.2 r.1

def impD (imp : FuncId → List V → Heap → Option (V × Heap)) (σ : St) (f : FuncId) (args : List V) : Option Ef :=
  match imp f args { σ.h with lo := σ.h.nx } with
  | some (v, h1) => if flatV v && decide (σ.h.nx ≤ h1.lo) && !coldAll args then some (.q (.val v)) else some (.hp { h1 with lo := min σ.h.lo h1.lo } v)
  | none => none

def alV : List V → Heap → Option (V × YObj)
  | [.ts cs (n + 1) _], h => match takeX (n + 1) cs with
    | some c => if allCells c = true ∧ n + 1 ≤ 2 ^ 30 then some (.sl (some (h.nx, 0)) (n + 1) none 1, .arr c true) else none
    | none => none
  | _, _ => none
def emptyA : List V → Bool
  | [.ts _ 0 _] => true
  | [.sl none 0 _ _] => true
  | _ => false
def AOK (Y : YP) : Prop := ∀ f args h v x, Y.mode f = 5 → alV args h = some (v, x) → Con Y f args h fun v' k => v' = v ∧ k = h.push x

def callE (pure : FuncId → List V → Option V) (imp : FuncId → List V → Heap → Option (V × Heap)) (σ : St) (f : FuncId) (args : List V) : Option Ef :=
  let im := impE imp σ f args
  match Y.mode f with
  | 0 => im
  | 6 => impD imp σ f args
  | 5 => match alV args σ.h with
    | some (v, x) => some (.al σ.h.nx x v)
    | none => if emptyA args && coldAll args then (pure f args).map fun r => .q (.val r) else im
  | m => if coldAll args then (pure f args).map fun r => .q (.val r) else
    if m = 2 ∨ m = 7 then match mapO (frzZ frzD σ.h) args with
      | some args' => if coldAll args' then match pure f args' with
        | some r => if flatV r then some (.q (.val r)) else none
        | none => none
        else im
      | none => im
    else im

def efZ1 (pure : FuncId → List V → Option V) (imp : FuncId → List V → Heap → Option (V × Heap)) (rd : Nat → List V → Heap → Option (V × Heap)) (loc : Nat → Bool) (σ : St) (o : Oper) : Option Ef :=
    let hp := (stepH Y loc σ o).map fun r => Ef.hp r.1 r.2
    match o.op with
    | .alloc t => match Y.ty t, o.dst with
      | some ti, some d => if loc d then some (.box ti.zero) else hp
      | _, _ => none
    | .box t x => match Y.ty t, o.dst with
      | some ti, some d => if loc d then
          if (ev σ.env x).cells.length = ti.size ∧ allCells (ev σ.env x).cells = true then some (.box (ev σ.env x).cells) else none
        else hp
      | _, _ => none
    | .store t a x => match Y.ty t, addr σ a with
      | some ti, some (.lb s off) => match σ.env.getD s .undef with
        | .lb cs => if (ev σ.env x).cells.length = ti.size ∧ allCells (ev σ.env x).cells = true ∧ off + (ev σ.env x).cells.length ≤ cs.length then some (.st s (splice cs off (ev σ.env x).cells)) else none
        | _ => none
      | _, _ => hp
    | .buildSlice t n parts =>
      match Y.kd t with
      | some (.slice et) => match Y.ty et with
        | some te =>
          if te.size = 0 ∨ n * te.size > 2 ^ 20 then none else
          match fillY (ev σ.env) (fun j => some (j * te.size, te.size)) parts.toList (List.replicate n te.zero).flatten with
          | some cs => if coldAll cs then some (.q (.val (.ts cs n (some n)))) else hp
          | none => none
        | none => none
      | _ => none
    | .call { callee := .value f, args, .. } => match ev σ.env f with
      | .fn (.func g) a c => callE Y pure imp σ g (a ++ args.toList.map (ev σ.env) ++ c)
      | .yl id => (rd id (args.toList.map (ev σ.env)) σ.h).map fun r => .hp r.2 r.1
      | _ => none
    | _ => hp

def efZ (pure : FuncId → List V → Option V) (imp : FuncId → List V → Heap → Option (V × Heap)) (rd : Nat → List V → Heap → Option (V × Heap)) (loc : Nat → Bool) (σ : St) (o : Oper) : Option Ef :=
  match opQ Y σ o with
  | some q => some (.q q)
  | none => match exoQ Y σ o with
    | some v => some (.q (.val v))
    | none => match exoH Y σ o with
      | some r => some (.hp r.1 r.2)
      | none => match mapH Y σ o with
        | some r => some (.hp r.1 r.2)
        | none => match newO Y σ o with
          | some r => some (.nw σ.h.nx r.1 (r.2 σ.h.nx))
          | none => efZ1 Y pure imp rd loc σ o

def opsZ (pure : FuncId → List V → Option V) (imp : FuncId → List V → Heap → Option (V × Heap)) (rd : Nat → List V → Heap → Option (V × Heap)) (loc : Nat → Bool) (ops : Array Oper) : List Oper → St → List Foot → Option (St × List Foot)
  | [], σ, fs => some (σ, fs)
  | o :: r, σ, fs =>
    match guardY ops σ.env o with
    | none => none
    | some false => opsZ pure imp rd loc ops r (Ef.skip.app o.dst σ) (footOf σ o .skip :: fs)
    | some true =>
      match efZ Y pure imp rd loc σ o with
      | none => none
      | some e => if keysOK σ o e then opsZ pure imp rd loc ops r (e.app o.dst σ) (footOf σ o e :: fs) else none

def roundZ (cz : (Nat → Bool) → Code → St → Option (Out × St)) (id : Nat) (args : List V) (h : Heap) : Option (V × Heap) :=
  match h.get id with
  | some (.loop L) =>
    if args.length = L.ps.size then
      match cz L.loc L.assign ⟨setPs L.ps.toList args L.env, [], h⟩ with
      | some (.normal, σ1) => match σ1.h.get id with
        | some (.loop L1) => if L1.st = .ready then
            match cz L.loc L.body { σ1 with h := σ1.h.set id (some (.loop { L1 with st := .busy })) } with
            | some (o, σ2) => match σ2.h.get id with
              | some (.loop L2) => some (.b o.isN, σ2.h.set id (some (.loop { L2 with st := if o.isN then .ready else .done, pend := o.jump })))
              | _ => none
            | none => none
          else none
        | _ => none
      | _ => none
    else none
  | _ => none

def endZ (σ : St) (id : Nat) (h2 : Heap) : Option (Out × St) :=
  match h2.get id with
  | some (.loop L) => if L.st = .busy then none else
    match L.pend with
    | none => some (.normal, { σ with h := h2.set id none })
    | some (.exit i) => some (.exit i, { σ with h := h2.set id none })
    | some .ret => some (.ret, { σ with h := h2.set id none })
    | _ => none
  | _ => none

def codeZ (pure : FuncId → List V → Option V) (imp : FuncId → List V → Heap → Option (V × Heap)) : Bool → (Nat → Bool) → Nat → Code → St → Option (Out × St)
  | _, _, 0, _, _ => none
  | rd, loc, n + 1, c, σ =>
    match c with
    | .skip | .label _ => some (.normal, σ)
    | .region _ ops draw =>
      match opsZ Y pure imp (roundZ fun loc c σ => codeZ pure imp true loc n c σ) loc ops ops.toList { σ with refs := [] } [] with
      | some (σ', fs) => if draw then (if chk ops fs.reverse then some (.normal, { σ' with refs := [] }) else none) else some (.normal, { σ' with refs := [] })
      | none => none
    | .seq a b =>
      match codeZ pure imp rd loc n a σ with
      | some (.normal, σ') => codeZ pure imp rd loc n b σ'
      | r => r
    | .cond x a b =>
      match ev σ.env x with
      | .b true => codeZ pure imp rd loc n a σ
      | .b false => codeZ pure imp rd loc n b σ
      | _ => none
    | .block id a =>
      match codeZ pure imp rd loc n a σ with
      | some (.exit j, σ') => if j = id then some (.normal, σ') else some (.exit j, σ')
      | r => r
    | .loop a =>
      match codeZ pure imp rd loc n a σ with
      | some (.normal, σ') => codeZ pure imp rd loc n (.loop a) σ'
      | r => r
    | .scope a => codeZ pure imp rd loc n a σ
    | .exit id => some (.exit id, σ)
    | .ret => some (.ret, σ)
    | .rangeFunc g ps as bd => if rd then none else
      match ev σ.env g with
      | .fn (.func f) a c => match imp f (a ++ [.yl σ.h.nx] ++ c) (σ.h.push (.loop ⟨.ready, none, σ.env.map V.plain, ps, as, bd, loc⟩)) with
        | some (_, h2) => endZ { σ with refs := [] } σ.h.nx h2
        | none => none
      | _ => none
    | _ => none

def callZ (kn : FuncId → List V → Heap → Option (V × Heap)) : Nat → FuncId → List V → Heap → Option (V × Heap)
  | 0, _, _, _ => none
  | n + 1, f, args, h =>
    match kn f args h with
    | some r => some r
    | none =>
    match Y.P.funcs[f]? with
    | none => none
    | some fn =>
      match fn.body with
      | none => none
      | some body =>
        match codeZ Y (fun f args => match callZ kn n f args .empty with | some (v, h) => frzZ frzD h v | none => none) (callZ kn n) false (Y.loc f) n body ⟨args ++ List.replicate (fn.ntmps - args.length) .undef, [], h⟩ with
        | some (.normal, σ) | some (.ret, σ) => (resultsY Y fn σ).map (·, σ.h)
        | _ => none

def callN (kn : FuncId → List V → Heap → Option (V × Heap)) (n : Nat) (f : FuncId) (args : List V) : Option V := match callZ Y kn n f args .empty with
  | some (v, h) => frzZ frzD h v
  | none => none
end

section
variable {Y : YP} {σ σ' : St}

def Tame (h h' : Heap) : Prop := h'.lo ≤ h.lo ∧ h.nx ≤ h'.nx ∧ (∀ i, i < h'.lo → i < h.nx → h'.get i = h.get i) ∧ ∀ p, p ∈ h.tg → p ∈ h'.tg

theorem Tame.refl (h : Heap) : Tame h h := ⟨Nat.le_refl _, Nat.le_refl _, fun _ _ _ => rfl, fun _ h => h⟩
theorem Tame.trans {a b c : Heap} (h : Tame a b) (g : Tame b c) : Tame a c :=
  ⟨Nat.le_trans g.1 h.1, Nat.le_trans h.2.1 g.2.1, fun i h1 h2 => by
    rw [g.2.2.1 i h1 (Nat.lt_of_lt_of_le h2 h.2.1), h.2.2.1 i (Nat.lt_of_lt_of_le h1 g.1) h2], fun p hp => g.2.2.2 p (h.2.2.2 p hp)⟩
theorem Tame.set (h : Heap) (i : Nat) (o : Option YObj) : Tame h (h.set i o) :=
  ⟨Nat.min_le_left _ _, Nat.le_refl _, fun j h1 _ => by
    have : j < min h.lo i := h1
    rw [Heap.get_set, if_neg (by omega)], fun _ h => h⟩
theorem Tame.push (h : Heap) (o : YObj) : Tame h (h.push o) :=
  ⟨Nat.le_refl _, Nat.le_succ _, fun j _ h2 => by rw [Heap.get_push, if_neg (by omega)], fun _ h => h⟩
theorem Tame.pushT (h : Heap) (t : Option TypeId) (o : YObj) : Tame h (h.pushT t o) := by
  cases t with
  | none => exact Tame.push h o
  | some t => exact ⟨Nat.le_refl _, Nat.le_succ _, fun j _ h2 => by rw [Heap.get_pushT, if_neg (by omega)], fun p hp => List.mem_cons_of_mem _ hp⟩
theorem Tame.kill : ∀ (D : List Nat) (h : Heap), Tame h (killD h D)
  | [], h => .refl h
  | i :: D, h => by
    have : Tame h (if (h.get i).isSome then h.set i none else h) := by split; exact .set h i none; exact .refl h
    exact this.trans (Tame.kill D _)

theorem append_tame {st xt : TypeId} {s x v : V} {h : Heap} (ha : appendY Y σ st xt s x = some (v, h)) : Tame σ.h h := by
  unfold appendY at ha
  repeat' (split at ha <;> try (cases ha; done))
  all_goals (simp only [Option.some.injEq, Prod.mk.injEq] at ha; obtain ⟨_, rfl⟩ := ha)
  all_goals first
    | exact .refl _
    | exact .push _ _
    | exact .pushT _ _ _
    | exact .set _ _ _
    | exact (Tame.set _ _ _).trans (.pushT _ _ _)

theorem stepH_tame {loc : Nat → Bool} {o : Oper} {h : Heap} {v : V} (hs : stepH Y loc σ o = some (h, v)) : Tame σ.h h := by
  unfold stepH at hs
  repeat' (split at hs <;> try (cases hs; done))
  all_goals (simp only [Option.some.injEq, Prod.mk.injEq] at hs; obtain ⟨rfl, _⟩ := hs)
  all_goals first
    | exact .push _ _
    | exact .pushT _ _ _
    | exact .set _ _ _
    | (exact append_tame (by assumption))

theorem app_tame {d : Option Tmp} {e : Ef} (h : ∀ h' v, e = .hp h' v → Tame σ.h h') (ha : ∀ i x v, e = .al i x v → i = σ.h.nx) (hn : ∀ i x v, e = .nw i x v → i = σ.h.nx) : Tame σ.h (e.app d σ).h := by
  rw [app_h]
  split
  · exact h _ _ rfl
  · rw [ha _ _ _ rfl, Heap.putAt_nx]; exact .push _ _
  · rw [hn _ _ _ rfl, Heap.putM_nx]; exact .push _ _
  · exact .refl _

theorem impE_tame {imp : FuncId → List V → Heap → Option (V × Heap)} (hi : ∀ f args h v h', imp f args h = some (v, h') → Tame h h') {f : FuncId} {args : List V} {h : Heap} {v : V} (he : impE imp σ f args = some (.hp h v)) : Tame σ.h h := by
  unfold impE at he
  split at he
  · split at he
    · rename_i v1 h1 h2
      split at he
      · cases he
      · simp only [Option.some.injEq, Ef.hp.injEq] at he
        obtain ⟨rfl, rfl⟩ := he
        have := hi _ _ _ _ _ h2
        exact ⟨Nat.min_le_left _ _, this.2.1, fun i g1 g2 => this.2.2.1 i (Nat.lt_of_lt_of_le g1 (Nat.min_le_right _ _)) g2, this.2.2.2⟩
    · cases he
  · simp only [Option.map_eq_some_iff] at he
    obtain ⟨⟨v', h'⟩, h1, h2⟩ := he
    simp only [Ef.hp.injEq] at h2
    obtain ⟨rfl, rfl⟩ := h2
    exact (Tame.kill _ _).trans (hi _ _ _ _ _ h1)

theorem impD_tame {imp : FuncId → List V → Heap → Option (V × Heap)} (hi : ∀ f args h v h', imp f args h = some (v, h') → Tame h h') {f : FuncId} {args : List V} {h : Heap} {v : V} (he : impD imp σ f args = some (.hp h v)) : Tame σ.h h := by
  unfold impD at he
  split at he
  · rename_i v1 h1 h2
    split at he
    · cases he
    · simp only [Option.some.injEq, Ef.hp.injEq] at he
      obtain ⟨rfl, rfl⟩ := he
      have := hi _ _ _ _ _ h2
      exact ⟨Nat.min_le_left _ _, this.2.1, fun i g1 g2 => this.2.2.1 i (Nat.lt_of_lt_of_le g1 (Nat.min_le_right _ _)) g2, this.2.2.2⟩
  · cases he

theorem callE_tame {pure : FuncId → List V → Option V} {imp : FuncId → List V → Heap → Option (V × Heap)} (hi : ∀ f args h v h', imp f args h = some (v, h') → Tame h h') {f : FuncId} {args : List V} {h : Heap} {v : V}
    (he : callE Y pure imp σ f args = some (.hp h v)) : Tame σ.h h := by
  unfold callE at he
  simp only at he
  split at he
  · exact impE_tame hi he
  · exact impD_tame hi he
  · split at he
    · cases he
    · split at he
      · simp only [Option.map_eq_some_iff] at he
        obtain ⟨r, _, h2⟩ := he
        cases h2
      · exact impE_tame hi he
  · split at he
    · simp only [Option.map_eq_some_iff] at he
      obtain ⟨r, _, h2⟩ := he
      cases h2
    · split at he
      · split at he
        · split at he
          · split at he
            · split at he
              · cases he
              · cases he
            · cases he
          · exact impE_tame hi he
        · exact impE_tame hi he
      · exact impE_tame hi he

theorem exoH_tame {o : Oper} {h : Heap} {v : V} (hs : exoH Y σ o = some (h, v)) : Tame σ.h h := by
  unfold exoH at hs
  repeat' (split at hs <;> try (cases hs; done))
  all_goals first
    | (simp only [Option.some.injEq, Prod.mk.injEq] at hs; obtain ⟨rfl, _⟩ := hs; exact .refl _)
    | (simp only [Option.map_eq_some_iff, Prod.mk.injEq] at hs; obtain ⟨_, _, rfl, _⟩ := hs; exact .set _ _ _)

theorem mapH_tame {o : Oper} {h : Heap} {v : V} (hs : mapH Y σ o = some (h, v)) : Tame σ.h h := by
  unfold mapH at hs
  repeat' (split at hs <;> try (cases hs; done))
  all_goals (simp only [Option.some.injEq, Prod.mk.injEq] at hs; obtain ⟨rfl, _⟩ := hs)
  all_goals first
    | exact .refl _
    | exact .set _ _ _

theorem callE_nw {pure : FuncId → List V → Option V} {imp : FuncId → List V → Heap → Option (V × Heap)} {f : FuncId} {args : List V} {i : Nat} {x : YObj} {v : V} (he : callE Y pure imp σ f args = some (.nw i x v)) : False := by
  unfold callE impE impD at he
  simp only at he
  repeat' (first | (cases he; done) | (simp only [Option.map_eq_some_iff] at he; obtain ⟨_, _, h2⟩ := he; cases h2; done) | split at he)

theorem efZ_tame {pure : FuncId → List V → Option V} {imp : FuncId → List V → Heap → Option (V × Heap)} (hi : ∀ f args h v h', imp f args h = some (v, h') → Tame h h') {rd : Nat → List V → Heap → Option (V × Heap)} (hrt : ∀ id args h v h', rd id args h = some (v, h') → Tame h h') {loc : Nat → Bool} {o : Oper} {h : Heap} {v : V}
    (he : efZ Y pure imp rd loc σ o = some (.hp h v)) : Tame σ.h h := by
  have hhp : ((stepH Y loc σ o).map fun r => Ef.hp r.1 r.2) = some (.hp h v) → Tame σ.h h := by
    intro he
    simp only [Option.map_eq_some_iff] at he
    obtain ⟨⟨h', v'⟩, h1, h2⟩ := he
    simp only [Ef.hp.injEq] at h2
    obtain ⟨rfl, rfl⟩ := h2
    exact stepH_tame h1
  unfold efZ at he
  split at he
  · cases he
  · split at he
    · cases he
    split at he
    · rename_i r hr
      simp only [Option.some.injEq, Ef.hp.injEq] at he
      obtain ⟨rfl, rfl⟩ := he
      exact exoH_tame hr
    split at he
    · rename_i r hr
      simp only [Option.some.injEq, Ef.hp.injEq] at he
      obtain ⟨rfl, rfl⟩ := he
      exact mapH_tame hr
    split at he
    · cases he
    unfold efZ1 at he
    simp only at he
    split at he
    · split at he
      · split at he
        · cases he
        · exact hhp he
      · cases he
    · split at he
      · split at he
        · split at he <;> cases he
        · exact hhp he
      · cases he
    · split at he
      · split at he
        · split at he <;> cases he
        · cases he
      · exact hhp he
    · split at he
      · split at he
        · split at he
          · cases he
          · split at he
            · split at he
              · cases he
              · exact hhp he
            · cases he
        · cases he
      · cases he
    · split at he
      · exact callE_tame hi he
      · simp only [Option.map_eq_some_iff] at he
        obtain ⟨⟨v', h'⟩, h1, h2⟩ := he
        simp only [Ef.hp.injEq] at h2
        obtain ⟨rfl, rfl⟩ := h2
        exact hrt _ _ _ _ _ h1
      · cases he
    · exact hhp he

theorem impE_al {imp : FuncId → List V → Heap → Option (V × Heap)} {f : FuncId} {args : List V} {i : Nat} {x : YObj} {v : V} (he : impE imp σ f args = some (.al i x v)) : False := by
  unfold impE at he
  split at he
  · split at he
    · split at he <;> cases he
    · cases he
  · simp only [Option.map_eq_some_iff] at he
    obtain ⟨_, _, h2⟩ := he
    cases h2
theorem callE_al {pure : FuncId → List V → Option V} {imp : FuncId → List V → Heap → Option (V × Heap)} {f : FuncId} {args : List V} {i : Nat} {x : YObj} {v : V} (he : callE Y pure imp σ f args = some (.al i x v)) : i = σ.h.nx := by
  unfold callE at he
  simp only at he
  split at he
  · exact (impE_al he).elim
  · unfold impD at he
    split at he
    · split at he <;> cases he
    · cases he
  · split at he
    · simp only [Option.some.injEq, Ef.al.injEq] at he; exact he.1.symm
    · split at he
      · simp only [Option.map_eq_some_iff] at he
        obtain ⟨r, _, h2⟩ := he
        cases h2
      · exact (impE_al he).elim
  · split at he
    · simp only [Option.map_eq_some_iff] at he
      obtain ⟨r, _, h2⟩ := he
      cases h2
    · split at he
      · split at he
        · split at he
          · split at he
            · split at he
              · cases he
              · cases he
            · cases he
          · exact (impE_al he).elim
        · exact (impE_al he).elim
      · exact (impE_al he).elim
theorem efZ_al {pure : FuncId → List V → Option V} {imp : FuncId → List V → Heap → Option (V × Heap)} {rd : Nat → List V → Heap → Option (V × Heap)} {loc : Nat → Bool} {o : Oper} {i : Nat} {x : YObj} {v : V}
    (he : efZ Y pure imp rd loc σ o = some (.al i x v)) : i = σ.h.nx := by
  have hhp : ((stepH Y loc σ o).map fun r => Ef.hp r.1 r.2) = some (.al i x v) → i = σ.h.nx := by
    intro he
    simp only [Option.map_eq_some_iff] at he
    obtain ⟨_, _, h2⟩ := he
    cases h2
  unfold efZ at he
  split at he
  · cases he
  · split at he
    · cases he
    split at he
    · cases he
    split at he
    · cases he
    split at he
    · cases he
    unfold efZ1 at he
    simp only at he
    split at he
    · split at he
      · split at he
        · cases he
        · exact hhp he
      · cases he
    · split at he
      · split at he
        · split at he <;> cases he
        · exact hhp he
      · cases he
    · split at he
      · split at he
        · split at he <;> cases he
        · cases he
      · exact hhp he
    · split at he
      · split at he
        · split at he
          · cases he
          · split at he
            · split at he
              · cases he
              · exact hhp he
            · cases he
        · cases he
      · cases he
    · split at he
      · exact callE_al he
      · simp only [Option.map_eq_some_iff] at he
        obtain ⟨_, _, h2⟩ := he
        cases h2
      · cases he
    · exact hhp he

theorem efZ_nw {pure : FuncId → List V → Option V} {imp : FuncId → List V → Heap → Option (V × Heap)} {rd : Nat → List V → Heap → Option (V × Heap)} {loc : Nat → Bool} {o : Oper} {i : Nat} {x : YObj} {v : V}
    (he : efZ Y pure imp rd loc σ o = some (.nw i x v)) : i = σ.h.nx := by
  have hhp : ((stepH Y loc σ o).map fun r => Ef.hp r.1 r.2) = some (.nw i x v) → i = σ.h.nx := by
    intro he
    simp only [Option.map_eq_some_iff] at he
    obtain ⟨_, _, h2⟩ := he
    cases h2
  unfold efZ at he
  split at he
  · cases he
  · split at he
    · cases he
    split at he
    · cases he
    split at he
    · cases he
    split at he
    · cases he; rfl
    unfold efZ1 at he
    simp only at he
    split at he
    · split at he
      · split at he
        · cases he
        · exact hhp he
      · cases he
    · split at he
      · split at he
        · split at he <;> cases he
        · exact hhp he
      · cases he
    · split at he
      · split at he
        · split at he <;> cases he
        · cases he
      · exact hhp he
    · split at he
      · split at he
        · split at he
          · cases he
          · split at he
            · split at he
              · cases he
              · exact hhp he
            · cases he
        · cases he
      · cases he
    · split at he
      · exact (callE_nw he).elim
      · simp only [Option.map_eq_some_iff] at he
        obtain ⟨_, _, h2⟩ := he
        cases h2
      · cases he
    · exact hhp he

theorem opsZ_tame {pure : FuncId → List V → Option V} {imp : FuncId → List V → Heap → Option (V × Heap)} (hi : ∀ f args h v h', imp f args h = some (v, h') → Tame h h') {rd : Nat → List V → Heap → Option (V × Heap)} (hrt : ∀ id args h v h', rd id args h = some (v, h') → Tame h h') {loc : Nat → Bool} {ops : Array Oper} :
    ∀ (os : List Oper) (σ : St) (fs : List Foot) (τ : St) (gs : List Foot), opsZ Y pure imp rd loc ops os σ fs = some (τ, gs) → Tame σ.h τ.h
  | [], σ, fs, τ, gs, h => by simp [opsZ] at h; obtain ⟨rfl, rfl⟩ := h; exact .refl _
  | o :: r, σ, fs, τ, gs, h => by
    simp only [opsZ] at h
    split at h
    · cases h
    · have := opsZ_tame hi hrt r _ _ _ _ h
      exact (app_tame (fun h' v he => by cases he) (fun i x v he => by cases he) (fun i x v he => by cases he)).trans this
    · split at h
      · cases h
      · rename_i e he
        split at h
        · have := opsZ_tame hi hrt r _ _ _ _ h
          exact (app_tame (fun h' v hh => by subst hh; exact efZ_tame hi hrt he) (fun i x v hh => by subst hh; exact efZ_al he) (fun i x v hh => by subst hh; exact efZ_nw he)).trans this
        · cases h

theorem roundZ_tame {cz : (Nat → Bool) → Code → St → Option (Out × St)} (hc : ∀ loc c σ o σ', cz loc c σ = some (o, σ') → Tame σ.h σ'.h) (id : Nat) (args : List V) (h : Heap) (v : V) (h' : Heap) (hs : roundZ cz id args h = some (v, h')) : Tame h h' := by
  unfold roundZ at hs
  split at hs
  · rename_i L hg
    split at hs
    · rename_i hl
      split at hs
      · rename_i σ1 h1
        split at hs
        · rename_i L1 hg1
          split at hs
          · rename_i hst
            split at hs
            · rename_i o σ2 h2
              split at hs
              · rename_i L2 hg2
                simp only [Option.some.injEq, Prod.mk.injEq] at hs
                obtain ⟨_, rfl⟩ := hs
                have t1 := hc _ _ _ _ _ h1
                have t2 := hc _ _ _ _ _ h2
                exact ((t1.trans (Tame.set _ _ _)).trans t2).trans (Tame.set _ _ _)
              · cases hs
            · cases hs
          · cases hs
        · cases hs
      · cases hs
    · cases hs
  · cases hs

theorem endZ_tame {id : Nat} {h2 : Heap} {o : Out} {σ' : St} (h : endZ σ id h2 = some (o, σ')) : Tame h2 σ'.h := by
  unfold endZ at h
  repeat' (split at h <;> try (cases h; done))
  all_goals
    simp only [Option.some.injEq, Prod.mk.injEq] at h
    obtain ⟨_, rfl⟩ := h
    exact Tame.set _ _ _

theorem codeZ_tame {pure : FuncId → List V → Option V} {imp : FuncId → List V → Heap → Option (V × Heap)} (hi : ∀ f args h v h', imp f args h = some (v, h') → Tame h h') :
    ∀ n rd loc c σ o σ', codeZ Y pure imp rd loc n c σ = some (o, σ') → Tame σ.h σ'.h
  | 0, rd, loc, c, σ, o, σ', h => by simp [codeZ] at h
  | n + 1, rd, loc, c, σ, o, σ', h => by
    have ih := codeZ_tame (pure := pure) hi n
    have two : ∀ (c d : Code) (σ : St), (match codeZ Y pure imp rd loc n c σ with | some (.normal, σ') => codeZ Y pure imp rd loc n d σ' | r => r) = some (o, σ') → Tame σ.h σ'.h := by
      intro c d σ h
      split at h
      · rename_i σ1 h1
        exact (ih _ _ _ _ _ _ h1).trans (ih _ _ _ _ _ _ h)
      · exact ih _ _ _ _ _ _ h
    cases c with
    | skip => simp only [codeZ, Option.some.injEq, Prod.mk.injEq] at h; obtain ⟨_, rfl⟩ := h; exact .refl _
    | label l => simp only [codeZ, Option.some.injEq, Prod.mk.injEq] at h; obtain ⟨_, rfl⟩ := h; exact .refl _
    | exit l => simp only [codeZ, Option.some.injEq, Prod.mk.injEq] at h; obtain ⟨_, rfl⟩ := h; exact .refl _
    | ret => simp only [codeZ, Option.some.injEq, Prod.mk.injEq] at h; obtain ⟨_, rfl⟩ := h; exact .refl _
    | region id ops draw =>
      simp only [codeZ] at h
      split at h
      · rename_i σ2 fs h1
        have := opsZ_tame hi (roundZ_tame fun _ _ _ _ _ h => ih _ _ _ _ _ _ h) _ _ _ _ _ h1
        split at h
        · split at h
          · simp only [Option.some.injEq, Prod.mk.injEq] at h; obtain ⟨_, rfl⟩ := h; exact this
          · cases h
        · simp only [Option.some.injEq, Prod.mk.injEq] at h; obtain ⟨_, rfl⟩ := h; exact this
      · cases h
    | seq x y => simp only [codeZ] at h; exact two _ _ _ h
    | cond x p q =>
      simp only [codeZ] at h
      split at h
      · exact ih _ _ _ _ _ _ h
      · exact ih _ _ _ _ _ _ h
      · cases h
    | block id p =>
      simp only [codeZ] at h
      split at h
      · rename_i j σ1 h1
        have := ih _ _ _ _ _ _ h1
        split at h <;> (simp only [Option.some.injEq, Prod.mk.injEq] at h; obtain ⟨_, rfl⟩ := h; exact this)
      · exact ih _ _ _ _ _ _ h
    | scope p => simp only [codeZ] at h; exact ih _ _ _ _ _ _ h
    | loop p => simp only [codeZ] at h; exact two _ _ _ h
    | rangeFunc g ps as bd =>
      simp only [codeZ] at h
      split at h
      · cases h
      · split at h
        · split at h
          · rename_i h1
            exact ((Tame.push _ _).trans (hi _ _ _ _ _ h1)).trans (endZ_tame h)
          · cases h
        · cases h
    | goto | refuse => simp [codeZ] at h

def noK : FuncId → List V → Heap → Option (V × Heap) := fun _ _ _ => none
def KOK (Y : YP) (kn : FuncId → List V → Heap → Option (V × Heap)) : Prop := (∀ f args h v h', kn f args h = some (v, h') → (Con Y f args h fun v' k => v' = v ∧ k = h') ∧ Tame h h') ∧ AOK Y
theorem noK_ok (h : AOK Y) : KOK Y noK := ⟨(fun _ _ _ _ _ h => by cases h), h⟩

variable {kn : FuncId → List V → Heap → Option (V × Heap)}
theorem callZ_tame (hkn : KOK Y kn) : ∀ n f args h v h', callZ Y kn n f args h = some (v, h') → Tame h h'
  | 0, _, _, _, _, _, hc => by simp [callZ] at hc
  | n + 1, f, args, h, v, h', hc => by
    simp only [callZ] at hc
    have ih := callZ_tame hkn n
    split at hc
    · rename_i r hk
      simp only [Option.some.injEq] at hc
      subst hc
      exact (hkn.1 _ _ _ _ _ hk).2
    split at hc
    · cases hc
    · split at hc
      · cases hc
      · split at hc
        · rename_i τ hco
          simp only [Option.map_eq_some_iff, Prod.mk.injEq] at hc
          obtain ⟨_, _, _, rfl⟩ := hc
          exact codeZ_tame ih _ _ _ _ _ _ _ hco
        · rename_i τ hco
          simp only [Option.map_eq_some_iff, Prod.mk.injEq] at hc
          obtain ⟨_, _, _, rfl⟩ := hc
          exact codeZ_tame ih _ _ _ _ _ _ _ hco
        · cases hc

theorem callE_ok {pure : FuncId → List V → Option V} {imp : FuncId → List V → Heap → Option (V × Heap)} (hp : ∀ f args r, pure f args = some r → coldAll args = true → PCon Y f args (· = r))
    (hi : ∀ f args h v h', imp f args h = some (v, h') → Con Y f args h fun v' k => v' = v ∧ k = h') (ht : ∀ f args h v h', imp f args h = some (v, h') → Tame h h') (hka : AOK Y) {loc : Nat → Bool} {o : Oper} {f : FuncId} {args : List V} (hs : stepY Y loc σ o = some (.call f args)) {e : Ef}
    (h : callE Y pure imp σ f args = some e) : StepE Y loc σ o e := by
  have him : ∀ e, impE imp σ f args = some e → StepE Y loc σ o e := by
    intro e he
    unfold impE at he
    split at he
    · split at he
      · rename_i v h1 h2
        have c := hi _ _ _ _ _ h2
        split at he
        · rename_i hb
          simp only [Bool.and_eq_true, decide_eq_true_eq, Bool.not_eq_true'] at hb
          cases he
          exact .icallR f args _ h1 .empty v v hs hb.2 c (fun i hi' => (ht _ _ _ _ _ h2).2.2.1 i (by omega) hi') (ht _ _ _ _ _ h2).2.2.2 (fun i o ho => by simp [get_empty] at ho) (flatV_ok hb.1.1 _)
        · cases he
          exact .icall f args _ v hs c.lo
      · cases he
    · simp only [Option.map_eq_some_iff] at he
      obtain ⟨⟨v, h'⟩, h1, rfl⟩ := he
      exact .icallz f args _ _ h' v hs (frzAggs_ok _ _) (hi _ _ _ _ _ h1)
  unfold callE at h
  simp only at h
  split at h
  · exact him _ h
  · unfold impD at h
    split at h
    · rename_i v h1 h2
      have c := hi _ _ _ _ _ h2
      split at h
      · rename_i hb
        simp only [Bool.and_eq_true, decide_eq_true_eq, Bool.not_eq_true'] at hb
        cases h
        exact .icallR f args _ h1 .empty v v hs hb.2 c (fun i hi' => (ht _ _ _ _ _ h2).2.2.1 i (by omega) hi') (ht _ _ _ _ _ h2).2.2.2 (fun i o ho => by simp [get_empty] at ho) (flatV_ok hb.1.1 _)
      · cases h
        exact .icall f args _ v hs c.lo
    · cases h
  · rename_i hm
    split at h
    · rename_i v x hal
      cases h
      exact .icallA f args x v hs (hka _ _ _ _ _ hm hal)
    · split at h
      · rename_i hc
        simp only [Bool.and_eq_true] at hc
        simp only [Option.map_eq_some_iff] at h
        obtain ⟨r, h1, rfl⟩ := h
        exact .pcall f args args r hs (coldAll_ok _ hc.2) (.inl ⟨coldAll_cold hc.2, rfl⟩) (hp _ _ _ h1 hc.2)
      · exact him _ h
  · split at h
    · rename_i hc
      simp only [Option.map_eq_some_iff] at h
      obtain ⟨r, h1, rfl⟩ := h
      exact .pcall f args args r hs (coldAll_ok _ hc) (.inl ⟨coldAll_cold hc, rfl⟩) (hp _ _ _ h1 hc)
    · split at h
      · split at h
        · rename_i args' ha
          split at h
          · rename_i hc
            split at h
            · rename_i r hr
              split at h
              · rename_i hf
                cases h
                exact .pcall f args args' r hs (mapO_ok (frzZ_ok _) ha) (.inr hf) (hp _ _ _ hr hc)
              · cases h
            · cases h
          · exact him _ h
        · exact him _ h
      · exact him _ h

theorem efZ_ok {pure : FuncId → List V → Option V} {imp : FuncId → List V → Heap → Option (V × Heap)} {rd : Nat → List V → Heap → Option (V × Heap)} (hrd : ∀ id args h v h', rd id args h = some (v, h') → RdCon Y id args h fun v' k => v' = v ∧ k = h') (hp : ∀ f args r, pure f args = some r → coldAll args = true → PCon Y f args (· = r))
    (hi : ∀ f args h v h', imp f args h = some (v, h') → Con Y f args h fun v' k => v' = v ∧ k = h') (ht : ∀ f args h v h', imp f args h = some (v, h') → Tame h h') (hka : AOK Y) {loc : Nat → Bool} {o : Oper} {e : Ef} (h : efZ Y pure imp rd loc σ o = some e) : StepE Y loc σ o e := by
  unfold efZ at h
  split at h
  · rename_i q hq; cases h; exact .quiet q hq
  · rename_i hq
    split at h
    · rename_i v hv; cases h; exact .exq v hv
    split at h
    · rename_i r hr; cases h; exact .exh _ _ hr
    split at h
    · rename_i r hr; cases h; exact .mph _ _ hr
    split at h
    · rename_i r hr; cases h; exact .nw _ _ hr
    unfold efZ1 at h
    have hhp : ∀ e, ((stepH Y loc σ o).map fun r => Ef.hp r.1 r.2) = some e → StepE Y loc σ o e := by
      intro e he
      simp only [Option.map_eq_some_iff] at he
      obtain ⟨⟨h', v⟩, h1, rfl⟩ := he
      exact .heap h' v h1
    simp only at h
    split at h
    · rename_i t hop
      split at h
      · rename_i ti d hti hd
        split at h
        · rename_i hl; cases h; exact .alloc t ti d hop hti hd hl
        · exact hhp _ h
      · cases h
    · rename_i t x hop
      split at h
      · rename_i ti d hti hd
        split at h
        · rename_i hl
          split at h
          · rename_i hc; cases h; exact .boxl t x ti d hop hti hd hl hc.1 hc.2
          · cases h
        · exact hhp _ h
      · cases h
    · rename_i t a x hop
      split at h
      · rename_i ti s off hti ha
        split at h
        · rename_i cs hcs
          split at h
          · rename_i hc; cases h; exact .stl t a x ti s off cs hop hti ha hcs hc.1 hc.2.1 hc.2.2
          · cases h
        · cases h
      · exact hhp _ h
    · rename_i t n parts hop
      split at h
      · rename_i et hk
        split at h
        · rename_i te hte
          split at h
          · cases h
          · rename_i hsz
            split at h
            · rename_i cs hf
              split at h
              · rename_i hc; cases h; exact .bs t n parts et te cs hop hk hte hsz hf (coldAll_cold hc)
              · exact hhp _ h
            · cases h
        · cases h
      · cases h
    · rename_i f args ats hop
      split at h
      · rename_i g a c hf
        exact callE_ok hp hi ht hka (stepY_callI hop hf) h
      · rename_i id hf
        simp only [Option.map_eq_some_iff] at h
        obtain ⟨⟨v, h'⟩, h1, rfl⟩ := h
        exact .round id h' v f args ats hop hf (hrd _ _ _ _ _ h1)
      · cases h
    · exact hhp _ h

theorem opsZ_ok {pure : FuncId → List V → Option V} {imp : FuncId → List V → Heap → Option (V × Heap)} {rd : Nat → List V → Heap → Option (V × Heap)} (hrd : ∀ id args h v h', rd id args h = some (v, h') → RdCon Y id args h fun v' k => v' = v ∧ k = h') (hp : ∀ f args r, pure f args = some r → coldAll args = true → PCon Y f args (· = r))
    (hi : ∀ f args h v h', imp f args h = some (v, h') → Con Y f args h fun v' k => v' = v ∧ k = h') (ht : ∀ f args h v h', imp f args h = some (v, h') → Tame h h') (hka : AOK Y) {loc : Nat → Bool} {ops : Array Oper} :
    ∀ (os : List Oper) (σ : St) (fs : List Foot) (τ : St) (gs : List Foot), opsZ Y pure imp rd loc ops os σ fs = some (τ, gs) → ∃ l : List (Ef × Foot), Lex Y loc ops os σ l τ ∧ gs = (l.map (·.2)).reverse ++ fs
  | [], σ, fs, τ, gs, h => by simp [opsZ] at h; obtain ⟨rfl, rfl⟩ := h; exact ⟨[], .nil _, by simp⟩
  | o :: r, σ, fs, τ, gs, h => by
    simp only [opsZ] at h
    split at h
    · cases h
    · rename_i hg
      obtain ⟨l, h1, h2⟩ := opsZ_ok hrd hp hi ht hka r _ _ _ _ h
      exact ⟨(.skip, footOf σ o .skip) :: l, .cons _ _ _ _ _ _ (.inl ⟨hg, rfl⟩) rfl h1, by rw [h2]; simp⟩
    · rename_i hg
      split at h
      · cases h
      · rename_i e he
        split at h
        · rename_i hk
          obtain ⟨l, h1, h2⟩ := opsZ_ok hrd hp hi ht hka r _ _ _ _ h
          exact ⟨(e, footOf σ o e) :: l, .cons _ _ _ _ _ _ (.inr ⟨hg, efZ_ok hrd hp hi ht hka he⟩) hk h1, by rw [h2]; simp⟩
        · cases h

def TriR (ro : Option Nat) (Y : YP) (n : Nat) (c : Code) (σ : St) (Q : Out → St → Prop) : Prop :=
  ∀ (W : Vw) (a : Act) (w : World) (W0 : Vw) (own0 : Nat → Prop) (w0 : World), Rel W σ a w → Stp W0 own0 w0 W (mine W σ a) w → Code.roundsIn (FrR ro) 0 Y.P c (PostX Q W0 own0 w0) n a w

theorem roundZ_ok {cz : (Nat → Bool) → Code → St → Option (Out × St)} (hc : ∀ ro loc c σ o σ', cz loc c σ = some (o, σ') → TriG ro Y c σ fun o' τ => o' = o ∧ τ = σ') (id : Nat) (args : List V) (h : Heap) (v : V) (h' : Heap) (hs : roundZ cz id args h = some (v, h')) :
    RdCon Y id args h fun v' k => v' = v ∧ k = h' := by
  unfold roundZ at hs
  split at hs
  · rename_i L hg
    split at hs
    · rename_i hl
      split at hs
      · rename_i σ1 h1
        split at hs
        · rename_i L1 hg1
          split at hs
          · rename_i hst
            split at hs
            · rename_i o σ2 h2
              split at hs
              · rename_i L2 hg2
                simp only [Option.some.injEq, Prod.mk.injEq] at hs
                obtain ⟨rfl, rfl⟩ := hs
                refine round_of hg hl (fun ro => (hc ro _ _ _ _ _ h1).mono ?_)
                rintro o1 τ ⟨rfl, rfl⟩
                refine ⟨rfl, L1, hg1, hst, fun ro => (hc ro _ _ _ _ _ h2).mono ?_⟩
                rintro o2 τ2 ⟨rfl, rfl⟩
                exact ⟨L2, hg2, rfl, rfl⟩
              · cases hs
            · cases hs
          · cases hs
        · cases hs
      · cases hs
    · cases hs
  · cases hs

theorem codeZ_ok (hY : YOK Y) {pure : FuncId → List V → Option V} {imp : FuncId → List V → Heap → Option (V × Heap)} (hp : ∀ f args r, pure f args = some r → coldAll args = true → PCon Y f args (· = r))
    (hi : ∀ f args h v h', imp f args h = some (v, h') → Con Y f args h fun v' k => v' = v ∧ k = h') (ht : ∀ f args h v h', imp f args h = some (v, h') → Tame h h') (hka : AOK Y) :
    ∀ n, (∀ rd loc c σ o σ' ro, (rd = false → ro = none) → codeZ Y pure imp rd loc n c σ = some (o, σ') → TriG ro Y c σ fun o' τ => o' = o ∧ τ = σ') ∧
      (∀ rd loc c σ o σ' ro, (rd = false → ro = none) → codeZ Y pure imp rd loc n (.loop c) σ = some (o, σ') → TriR ro Y n c σ fun o' τ => o' = o ∧ τ = σ')
  | 0 => ⟨fun rd loc c σ o σ' ro _ h => by simp [codeZ] at h, fun rd loc c σ o σ' ro _ h => by simp [codeZ] at h⟩
  | n + 1 => by
    have ih := codeZ_ok hY hp hi ht hka n
    have hloop : ∀ rd loc c σ o σ' ro, (rd = false → ro = none) → codeZ Y pure imp rd loc (n + 1) (.loop c) σ = some (o, σ') → TriR ro Y (n + 1) c σ fun o' τ => o' = o ∧ τ = σ' := by
      intro rd loc c σ o σ' ro hro h W a w W0 own0 w0 hr hs
      simp only [codeZ] at h
      rw [roundsIn_succ]
      cases hb : codeZ Y pure imp rd loc n c σ with
      | none => rw [hb] at h; cases h
      | some r =>
        obtain ⟨o1, σ1⟩ := r
        rw [hb] at h
        refine wpIn_mono ((ih.1 rd loc c σ o1 σ1 ro hro hb) W a w W0 own0 w0 hr hs) ?_
        rintro e a' w' ⟨o2, σ2, W', ho, ⟨rfl, rfl⟩, hr', hs'⟩
        cases o2 with
        | normal =>
          cases e <;> simp only [OutR] at ho
          exact ih.2 rd loc c σ2 o σ' ro hro h W' a' w' W0 own0 w0 hr' hs'
        | exit i =>
          simp only [Option.some.injEq, Prod.mk.injEq] at h
          obtain ⟨rfl, rfl⟩ := h
          cases e <;> simp only [OutR] at ho
          exact ⟨.exit i, σ2, W', ho, ⟨rfl, rfl⟩, hr', hs'⟩
        | ret =>
          simp only [Option.some.injEq, Prod.mk.injEq] at h
          obtain ⟨rfl, rfl⟩ := h
          cases e <;> simp only [OutR] at ho
          exact ⟨.ret, σ2, W', ho, ⟨rfl, rfl⟩, hr', hs'⟩
    refine ⟨?_, hloop⟩
    intro rd loc c σ o σ' ro hro h
    cases c with
    | skip => simp only [codeZ, Option.some.injEq, Prod.mk.injEq] at h; obtain ⟨rfl, rfl⟩ := h; exact tri_skip ⟨rfl, rfl⟩
    | label l => simp only [codeZ, Option.some.injEq, Prod.mk.injEq] at h; obtain ⟨rfl, rfl⟩ := h; exact tri_label ⟨rfl, rfl⟩
    | exit l => simp only [codeZ, Option.some.injEq, Prod.mk.injEq] at h; obtain ⟨rfl, rfl⟩ := h; exact tri_exit ⟨rfl, rfl⟩
    | ret => simp only [codeZ, Option.some.injEq, Prod.mk.injEq] at h; obtain ⟨rfl, rfl⟩ := h; exact tri_ret ⟨rfl, rfl⟩
    | region id ops draw =>
      simp only [codeZ] at h
      split at h
      · rename_i σ2 fs h1
        obtain ⟨l, h2, h3⟩ := opsZ_ok (roundZ_ok fun ro loc c σ o σ' h => ih.1 true loc c σ o σ' ro (fun e => by cases e) h) hp hi ht hka _ _ _ _ _ h1
        cases draw with
        | false =>
          simp only [Bool.false_eq_true, if_false, Option.some.injEq, Prod.mk.injEq] at h
          obtain ⟨rfl, rfl⟩ := h
          exact tri_text hY h2 ⟨rfl, rfl⟩
        | true =>
          simp only [if_true] at h
          split at h
          · rename_i hc
            simp only [Option.some.injEq, Prod.mk.injEq] at h
            obtain ⟨rfl, rfl⟩ := h
            exact tri_draw hY h2 (by rw [h3] at hc; simpa using hc) ⟨rfl, rfl⟩
          · cases h
      · cases h
    | seq x y =>
      simp only [codeZ] at h
      refine tri_seq ?_
      cases hb : codeZ Y pure imp rd loc n x σ with
      | none => rw [hb] at h; cases h
      | some r =>
        obtain ⟨o1, σ1⟩ := r
        rw [hb] at h
        refine (ih.1 rd loc x σ o1 σ1 ro hro hb).mono ?_
        rintro o2 σ2 ⟨rfl, rfl⟩
        cases o2 with
        | normal => exact ih.1 rd loc y σ2 o σ' ro hro h
        | exit i => simp only [Option.some.injEq, Prod.mk.injEq] at h; obtain ⟨rfl, rfl⟩ := h; exact ⟨rfl, rfl⟩
        | ret => simp only [Option.some.injEq, Prod.mk.injEq] at h; obtain ⟨rfl, rfl⟩ := h; exact ⟨rfl, rfl⟩
    | cond x p q =>
      simp only [codeZ] at h
      split at h
      · rename_i hx; exact tri_cond hx (ih.1 rd loc _ σ o σ' ro hro h)
      · rename_i hx; exact tri_cond hx (ih.1 rd loc _ σ o σ' ro hro h)
      · cases h
    | block id p =>
      simp only [codeZ] at h
      refine tri_block ?_
      cases hb : codeZ Y pure imp rd loc n p σ with
      | none => rw [hb] at h; cases h
      | some r =>
        obtain ⟨o1, σ1⟩ := r
        rw [hb] at h
        refine (ih.1 rd loc p σ o1 σ1 ro hro hb).mono ?_
        rintro o2 σ2 ⟨rfl, rfl⟩
        cases o2 with
        | normal => simp only [Option.some.injEq, Prod.mk.injEq] at h; obtain ⟨rfl, rfl⟩ := h; exact ⟨rfl, rfl⟩
        | ret => simp only [Option.some.injEq, Prod.mk.injEq] at h; obtain ⟨rfl, rfl⟩ := h; exact ⟨rfl, rfl⟩
        | exit i =>
          simp only [InBlock]
          by_cases hi : i = id
          · simp only [hi, if_true, Option.some.injEq, Prod.mk.injEq] at h ⊢; obtain ⟨rfl, rfl⟩ := h; exact ⟨rfl, rfl⟩
          · simp only [hi, if_false, Option.some.injEq, Prod.mk.injEq] at h ⊢; obtain ⟨rfl, rfl⟩ := h; exact ⟨rfl, rfl⟩
    | scope p => simp only [codeZ] at h; exact tri_scope (ih.1 rd loc p σ o σ' ro hro h)
    | loop p => exact fun W a w W0 own0 w0 hr hs => wpIn_loop_rounds (n + 1) (hloop rd loc p σ o σ' ro hro h W a w W0 own0 w0 hr hs)
    | rangeFunc g ps as bd =>
      simp only [codeZ] at h
      split at h
      · cases h
      · rename_i hrd
        have hn := hro (by simpa using hrd)
        subst hn
        split at h
        · rename_i f fa fc hg
          split at h
          · rename_i v h2 h1
            refine tri_range hY hg (loc := loc) ((hi _ _ _ _ _ h1).mono ?_)
            rintro v' k ⟨rfl, rfl⟩
            unfold endZ at h
            split at h
            · rename_i L hL
              split at h
              · cases h
              · rename_i hst
                refine ⟨L, hL, hst, ?_⟩
                split at h <;> first
                  | (rename_i hpn; simp only [hpn, Option.some.injEq, Prod.mk.injEq] at h ⊢; obtain ⟨rfl, rfl⟩ := h; exact ⟨rfl, rfl⟩)
                  | cases h
            · cases h
          · cases h
        · cases h
    | goto | refuse => simp [codeZ] at h

theorem callZ_ok (hY : YOK Y) (hkn : KOK Y kn) : ∀ n f args h v h', callZ Y kn n f args h = some (v, h') → Con Y f args h fun v' k => v' = v ∧ k = h'
  | 0, _, _, _, _, _, hc => by simp [callZ] at hc
  | n + 1, f, args, h, v, h', hc => by
    simp only [callZ] at hc
    have ih := callZ_ok hY hkn n
    have hpure : ∀ f args r, (match callZ Y kn n f args .empty with | some (v, h) => frzZ frzD h v | none => none) = some r → coldAll args = true → PCon Y f args (· = r) := by
      intro f args r hr hcold
      split at hr
      · rename_i v h h1
        have c := ih _ _ _ _ _ h1
        exact ⟨c.body, PTr.of (coldAll_cold hcold) c.tr fun v' h' ⟨e1, e2⟩ => by subst e1 e2; exact ⟨r, frzZ_ok _ _ _ hr, rfl⟩⟩
      · cases hr
    split at hc
    · rename_i r hk
      simp only [Option.some.injEq] at hc
      subst hc
      exact (hkn.1 _ _ _ _ _ hk).1
    split at hc
    · cases hc
    · rename_i fn hf
      split at hc
      · cases hc
      · rename_i body hb
        refine ⟨⟨fn, body, hf, hb⟩, ?_⟩
        have key : ∀ o τ, codeZ Y (fun f args => match callZ Y kn n f args .empty with | some (v, h) => frzZ frzD h v | none => none) (callZ Y kn n) false (Y.loc f) n body ⟨args ++ List.replicate (fn.ntmps - args.length) .undef, [], h⟩ = some (o, τ) → (o = .normal ∨ o = .ret) →
            (resultsY Y fn τ).map (·, τ.h) = some (v, h') → CallTr Y f args h fun v' k => v' = v ∧ k = h' := by
          intro o τ hco ho hres
          simp only [Option.map_eq_some_iff, Prod.mk.injEq] at hres
          obtain ⟨v1, hres, rfl, rfl⟩ := hres
          refine callTr_of hY hf hb ((((codeZ_ok hY hpure ih (callZ_tame hkn n) hkn.2 n).1 false _ _ _ _ _ none (fun _ => rfl) hco)).mono ?_)
          rintro o2 σ2 ⟨rfl, rfl⟩
          exact ⟨ho, v1, hres, rfl, rfl⟩
        split at hc
        · rename_i τ hco; exact key _ _ hco (.inl rfl) hc
        · rename_i τ hco; exact key _ _ hco (.inr rfl) hc
        · cases hc

theorem callN_ok (hY : YOK Y) (hkn : KOK Y kn) {n : Nat} {f : FuncId} {args : List V} {r : V} (h : callN Y kn n f args = some r) (hc : coldAll args = true) : PCon Y f args (· = r) := by
  unfold callN at h
  split at h
  · rename_i v h' h1
    have c := callZ_ok hY hkn _ _ _ _ _ _ h1
    exact ⟨c.body, PTr.of (coldAll_cold hc) c.tr fun v' h' ⟨e1, e2⟩ => by subst e1 e2; exact ⟨r, frzZ_ok _ _ _ h, rfl⟩⟩
  · cases h
end
end Go.Y
