/- What an operation looks at: it does the same where that is the same. -/
import Derived.Test.YteennilbmmlikaaGreatDoorYEff
namespace Go.Y

def Agr (v v' : V) : Prop := v = v' ∨ ∃ cs cs', v = .lb cs ∧ v' = .lb cs'

theorem Agr.refl (v : V) : Agr v v := .inl rfl
theorem Agr.plain {v v' : V} (h : Agr v v') : v.plain = v'.plain := by
  rcases h with rfl | ⟨_, _, rfl, rfl⟩ <;> rfl

structure AgT (σ σ' : St) (t : Nat) : Prop where
  env : Agr (σ.env.getD t .undef) (σ'.env.getD t .undef)
  ref : lookRef σ.refs t = lookRef σ'.refs t

def tmpsOf (o : Oper) : List Nat := o.op.operands.toList.filterMap fun | .tmp t => some t | _ => none

theorem mem_tmpsOf {o : Oper} {t : Nat} (h : Operand.tmp t ∈ o.op.operands) : t ∈ tmpsOf o := List.mem_filterMap.2 ⟨.tmp t, by simpa using h, rfl⟩

def refTo (σ : St) (t : Nat) : Option Nat := match σ.env.getD t .undef with
  | .rf => (lookRef σ.refs t).map (·.1)
  | _ => none

def boxR (σ : St) (o : Oper) : List Nat := match o.op with
  | .load _ a | .store _ a _ => match addr σ a with
    | some (.lb s _) => [s]
    | _ => []
  | _ => []

def objR (σ : St) (o : Oper) : List Nat := match o.op with
  | .load _ a => match addr σ a with
    | some (.hp k _) => [k]
    | _ => []
  | .lookup _ m _ _ => match ev σ.env m with
    | .mp (some r) => [r]
    | _ => []
  | _ => []

def heapR (σ : St) (o : Oper) : Bool := match o.op with
  | .convert _ _ x => match ev σ.env x with
    | .sl (some _) _ _ _ => true
    | _ => false
  | .call { callee := .builtin .len, args, .. } => match args.toList.map (ev σ.env) with
    | [.mp (some _)] => true
    | _ => false
  | .call { callee := .value f, args, .. } => match ev σ.env f with
    | .fn _ a c => !(coldAll a && coldAll (args.toList.map (ev σ.env)) && coldAll c)
    | _ => true
  | _ => false

structure AgO (σ σ' : St) (o : Oper) : Prop where
  t : ∀ t ∈ tmpsOf o, AgT σ σ' t
  s : ∀ t ∈ tmpsOf o, ∀ s, refTo σ t = some s → Agr (σ.env.getD s .undef) (σ'.env.getD s .undef)
  b : ∀ s ∈ boxR σ o, σ.env.getD s .undef = σ'.env.getD s .undef
  h : heapR σ o = true → σ.h = σ'.h
  o : ∀ k ∈ objR σ o, σ.h.get k = σ'.h.get k

section
variable {Y : YP} {σ σ' : St} {o : Oper}

theorem AgO.ev (h : AgO σ σ' o) {x : Operand} (hx : x ∈ o.op.operands) : ev σ'.env x = ev σ.env x := by
  cases x with
  | tmp t => exact (h.t t (mem_tmpsOf hx)).env.plain.symm
  | _ => rfl

theorem AgO.addr (h : AgO σ σ' o) {x : Operand} (hx : x ∈ o.op.operands) : addr σ' x = addr σ x := by
  cases x with
  | tmp t =>
    have h1 := h.t t (mem_tmpsOf hx)
    have h2 := h.s t (mem_tmpsOf hx)
    simp only [Go.Y.addr]
    rcases h1.env with he | ⟨cs, cs', e1, e2⟩
    · simp only [refTo] at h2
      rw [← he, ← h1.ref]
      split
      · rfl
      · rfl
      · rfl
      · rename_i hr
        rw [hr] at h2
        cases hl : lookRef σ.refs t with
        | none => rfl
        | some so =>
          obtain ⟨s, off⟩ := so
          have h3 := h2 s (by simp [hl])
          simp only
          rcases h3 with h3 | ⟨_, _, e1, e2⟩
          · rw [h3]
          · rw [e1, e2]
      · rfl
    · rw [e1, e2]
  | _ => rfl

theorem fillY_congr {e e' : Operand → V} {place : Nat → Option (Nat × Nat)} : ∀ {l : List (Nat × Operand)} {cs : List V}, (∀ p ∈ l, e' p.2 = e p.2) → fillY e' place l cs = fillY e place l cs
  | [], _, _ => rfl
  | p :: r, cs, h => by
    simp only [fillY]
    rw [h p (by simp)]
    split
    · split
      · exact fillY_congr fun q hq => h q (by simp [hq])
      · rfl
    · rfl

theorem map_congr {e e' : Operand → V} {l : List Operand} (h : ∀ x ∈ l, e' x = e x) : l.map e' = l.map e := List.map_congr_left h

theorem elemsS_heap {k : Nat} {v : V} (hh : ∀ p l c k', v = .sl (some p) l c k' → σ.h = σ'.h) : elemsS σ' k v = elemsS σ k v := by
  unfold elemsS
  split
  · rfl
  · rename_i id off len cap k'
    have := hh _ _ _ _ rfl
    simp only [cellsAt, this]
  · rfl
  · rfl

theorem fieldA_local (h : AgO σ σ' o) {t : TypeId} {x : Operand} {f : Nat} (hx : x ∈ o.op.operands) : fieldA Y σ' t x f = fieldA Y σ t x f := by
  unfold fieldA; rw [h.addr hx]

theorem indexA_local (h : AgO σ σ' o) {t : TypeId} {x : Operand} {v : V} (hx : x ∈ o.op.operands) : indexA Y σ' t x v = indexA Y σ t x v := by
  unfold indexA; rw [h.addr hx, h.ev hx]

theorem opQ_local (h : AgO σ σ' o) : opQ Y σ' o = opQ Y σ o := by
  have hev := @AgO.ev σ σ' o h
  have had := @AgO.addr σ σ' o h
  have hb := h.b
  have hh := h.h
  have ho := h.o
  unfold boxR at hb
  unfold heapR at hh
  unfold objR at ho
  unfold opQ
  cases hop : o.op with
  | move x => rw [hop] at hev; simp only [hev (x := x) (by simp [Op.operands])]
  | assign x => rw [hop] at hev; simp only [hev (x := x) (by simp [Op.operands])]
  | pick c x y => rw [hop] at hev; simp only [hev (x := c) (by simp [Op.operands]), hev (x := x) (by simp [Op.operands]), hev (x := y) (by simp [Op.operands])]
  | nilCheck x => rw [hop] at hev had; simp only [hev (x := x) (by simp [Op.operands]), had (x := x) (by simp [Op.operands])]
  | binOp op t x y g => rw [hop] at hev; simp only [hev (x := x) (by simp [Op.operands]), hev (x := y) (by simp [Op.operands])]
  | unOp op t x => rw [hop] at hev; simp only [hev (x := x) (by simp [Op.operands])]
  | makeFunc f a c =>
    rw [hop] at hev
    simp only
    rw [map_congr (e' := Go.Y.ev σ'.env) (e := Go.Y.ev σ.env) (l := a.toList) fun x hx => hev (by simp at hx; simp [Op.operands, hx]), map_congr (e' := Go.Y.ev σ'.env) (e := Go.Y.ev σ.env) (l := c.toList) fun x hx => hev (by simp at hx; simp [Op.operands, hx])]
  | makeInterface t x => rw [hop] at hev; simp only [hev (x := x) (by simp [Op.operands])]
  | build t parts =>
    rw [hop] at hev
    have hp : ∀ p ∈ parts.toList, Go.Y.ev σ'.env p.2 = Go.Y.ev σ.env p.2 := fun p hp => hev (by simp only [Op.operands, List.mem_toArray, List.mem_map]; exact ⟨p, hp, rfl⟩)
    simp only [fillY_congr (e' := Go.Y.ev σ'.env) (e := Go.Y.ev σ.env) hp]
  | load t x =>
    rw [hop] at had hb ho
    simp only [had (x := x) (by simp [Op.operands])]
    cases ha : Go.Y.addr σ x with
    | none => cases Y.ty t <;> rfl
    | some ad =>
      cases ad with
      | lb s off =>
        simp only [ha] at hb
        have := hb s (by simp)
        cases Y.ty t with
        | none => rfl
        | some ti => simp only [cellsAt, this]
      | hp id off =>
        simp only [ha] at ho
        have := ho id (by simp)
        cases Y.ty t with
        | none => rfl
        | some ti => simp only [cellsAt, this]
      | ro cs => cases Y.ty t <;> rfl
  | fieldAddr t x f => simp only [fieldA_local (Y := Y) h (t := t) (x := x) (f := f) (by simp [hop, Op.operands])]
  | indexAddr t x ix =>
    have e1 : Go.Y.ev σ'.env ix = Go.Y.ev σ.env ix := h.ev (by simp [hop, Op.operands])
    simp only [e1, indexA_local (Y := Y) h (t := t) (x := x) (by simp [hop, Op.operands])]
  | field t x f => rw [hop] at hev; simp only [hev (x := x) (by simp [Op.operands])]
  | index t x ix => rw [hop] at hev; simp only [hev (x := x) (by simp [Op.operands]), hev (x := ix) (by simp [Op.operands])]
  | extract t ix => rw [hop] at hev; simp only [hev (x := t) (by simp [Op.operands])]
  | slice t x lo hi mx =>
    rw [hop] at hev
    have e1 : lo.map (Go.Y.ev σ'.env) = lo.map (Go.Y.ev σ.env) := by cases lo with | none => rfl | some y => simp only [Option.map_some, hev (x := y) (by simp [Op.operands])]
    have e2 : hi.map (Go.Y.ev σ'.env) = hi.map (Go.Y.ev σ.env) := by cases hi with | none => rfl | some y => simp only [Option.map_some, hev (x := y) (by simp [Op.operands])]
    have e3 : mx.map (Go.Y.ev σ'.env) = mx.map (Go.Y.ev σ.env) := by cases mx with | none => rfl | some y => simp only [Option.map_some, hev (x := y) (by simp [Op.operands])]
    simp only [hev (x := x) (by simp [Op.operands]), e1, e2, e3]
  | convert s d x =>
    rw [hop] at hev hh
    have e1 : ∀ k v, v = Go.Y.ev σ.env x → elemsS σ' k v = elemsS σ k v := fun k v hv => elemsS_heap fun p l c k' he => hh (by simp only [← hv, he])
    simp only [hev (x := x) (by simp [Op.operands])]
    split <;> try rfl
    rename_i hk hd _ _ _ _
    split
    · rw [e1 _ _ rfl]
    · rfl
  | call c =>
    obtain ⟨callee, args, ats⟩ := c
    rw [hop] at hev hh
    cases callee with
    | builtin b =>
      have hm : args.toList.map (Go.Y.ev σ'.env) = args.toList.map (Go.Y.ev σ.env) := map_congr fun x hx => hev (by simp at hx; simp [Op.operands, Call.operands, hx])
      cases b with
      | len =>
        simp only
        split
        · rename_i t x h1 h2
          have e1 : Go.Y.ev σ'.env x = Go.Y.ev σ.env x := by
            have := hm
            rw [h2] at this
            simpa using this
          rw [e1]
          split <;> try rfl
          rename_i r _ hr
          have := hh (by simp only [h2, List.map_cons, List.map_nil, hr])
          rw [this]
        · rfl
      | cap =>
        simp only
        split
        · rename_i t x h1 h2
          have e1 : Go.Y.ev σ'.env x = Go.Y.ev σ.env x := by
            have := hm
            rw [h2] at this
            simpa using this
          rw [e1]
        · rfl
      | max => simp only [hm]
      | min => simp only [hm]
      | _ => rfl
    | _ => rfl
  | _ => rfl

theorem stepY_callE {loc : Nat → Bool} {f : FuncId} {args : List V} (hs : stepY Y loc σ o = some (.call f args)) :
    ∃ (fo : Operand) (as : Array Operand) (ats : Array TypeId) (a c : List V), o.op = .call ⟨.value fo, as, ats⟩ ∧ ev σ.env fo = .fn (.func f) a c ∧ args = a ++ as.toList.map (ev σ.env) ++ c := by
  unfold stepY at hs
  split at hs
  · simp only [Option.map_eq_some_iff] at hs
    obtain ⟨_, _, he⟩ := hs
    cases he
  · split at hs
    · split at hs
      · simp only [Option.map_eq_some_iff] at hs; obtain ⟨_, _, he⟩ := hs; cases he
      · cases hs
    · split at hs
      · split at hs
        · simp only [Option.map_eq_some_iff] at hs; obtain ⟨_, _, he⟩ := hs; cases he
        · cases hs
      · cases hs
    · split at hs
      · split at hs
        · simp only [Option.map_eq_some_iff] at hs; obtain ⟨_, _, he⟩ := hs; cases he
        · cases hs
      · cases hs
    · split at hs
      · split at hs
        · split at hs
          · cases hs
          · split at hs <;> cases hs
        · cases hs
      · cases hs
    · split at hs
      · split at hs
        · split at hs <;> cases hs
        · cases hs
      · cases hs
    · split at hs
      · split at hs
        · split at hs <;> cases hs
        · cases hs
      · cases hs
    · split at hs
      · split at hs <;> cases hs
      · cases hs
    · rename_i fo ops ats hop
      split at hs
      · rename_i g fa fc hf
        simp only [Option.some.injEq, R.call.injEq] at hs
        obtain ⟨rfl, rfl⟩ := hs
        exact ⟨fo, ops, ats, fa, fc, hop, hf, rfl⟩
      · cases hs
    · cases hs

theorem stepY_callI {loc : Nat → Bool} {f : FuncId} {fo : Operand} {as : Array Operand} {ats : Array TypeId} {a c : List V} (hop : o.op = .call ⟨.value fo, as, ats⟩) (hf : ev σ.env fo = .fn (.func f) a c) :
    stepY Y loc σ o = some (.call f (a ++ as.toList.map (ev σ.env) ++ c)) := by
  simp [stepY, opQ, hop, hf]

theorem call_local (h : AgO σ σ' o) {loc : Nat → Bool} {f : FuncId} {args : List V} (hs : stepY Y loc σ o = some (.call f args)) : stepY Y loc σ' o = some (.call f args) := by
  obtain ⟨fo, as, ats, a, c, hop, hf, rfl⟩ := stepY_callE hs
  have hev := @AgO.ev σ σ' o h
  rw [hop] at hev
  rw [← map_congr (e' := Go.Y.ev σ'.env) (e := Go.Y.ev σ.env) (l := as.toList) fun x hx => hev (by simp at hx; simp [Op.operands, Call.operands, hx])]
  exact stepY_callI hop (by rw [hev (x := fo) (by simp [Op.operands, Call.operands])]; exact hf)

theorem flat1_frz {v v' : V} (h : flat1 v = true) {h1 h2 : Heap} (f : Frz h1 v v') : Frz h2 v v' := by
  unfold flat1 at h
  split at h <;> first
    | (cases f <;> first | exact .b _ | exact .i _ _ | exact .s _ | exact .pn | exact .mpn | exact .nilfn | exact .nilifc | (rename_i h1 h2; cases h1; cases h2; exact .fn _ _ _ _ _ .nil .nil) | exact .sln _ _ _ (by assumption) | exact .sln0 _ _)
    | cases h
theorem flats1_frz {h1 h2 : Heap} : ∀ {l l' : List V}, flats1 l = true → FrzL h1 l l' → FrzL h2 l l'
  | [], _, _, f => by cases f; exact .nil
  | v :: r, _, h, f => by
    simp only [flats1, Bool.and_eq_true] at h
    cases f with | cons _ _ _ _ hv hl => exact .cons _ _ _ _ (flat1_frz h.1 hv) (flats1_frz h.2 hl)
theorem cold1_frz {v v' : V} (h : cold1 v = true) {h1 h2 : Heap} (f : Frz h1 v v') : Frz h2 v v' := by
  unfold cold1 at h
  split at h
  · cases f with | ts _ _ _ _ hp => exact .ts _ _ _ _ hp
  · cases f; exact .tp _
  · exact flat1_frz h f
theorem colds1_frz {h1 h2 : Heap} : ∀ {l l' : List V}, colds1 l = true → FrzL h1 l l' → FrzL h2 l l'
  | [], _, _, f => by cases f; exact .nil
  | v :: r, _, h, f => by
    simp only [colds1, Bool.and_eq_true] at h
    cases f with | cons _ _ _ _ hv hl => exact .cons _ _ _ _ (cold1_frz h.1 hv) (colds1_frz h.2 hl)
theorem cold2_frz {v v' : V} (h : cold2 v = true) {h1 h2 : Heap} (f : Frz h1 v v') : Frz h2 v v' := by
  unfold cold2 at h
  split at h
  · cases f with | agg _ _ hc => exact .agg _ _ (colds1_frz h hc)
  · exact cold1_frz h f
theorem coldAll_frz {h1 h2 : Heap} : ∀ {l l' : List V}, coldAll l = true → FrzL h1 l l' → FrzL h2 l l'
  | [], _, _, f => by cases f; exact .nil
  | v :: r, _, h, f => by
    simp only [coldAll, Bool.and_eq_true] at h
    cases f with | cons _ _ _ _ hv hl => exact .cons _ _ _ _ (cold2_frz h.1 hv) (coldAll_frz h.2 hl)

theorem cold1_ok {v : V} (h : cold1 v = true) (h0 : Heap) : Frz h0 v v := by
  unfold cold1 at h
  split at h
  · exact .ts _ _ _ _ fun _ h => h
  · exact .tp _
  · exact flat1_ok h h0
theorem colds1_ok (h0 : Heap) : ∀ {l : List V}, colds1 l = true → FrzL h0 l l
  | [], _ => .nil
  | v :: r, h => by simp only [colds1, Bool.and_eq_true] at h; exact .cons _ _ _ _ (cold1_ok h.1 h0) (colds1_ok h0 h.2)
theorem cold2_ok {v : V} (h : cold2 v = true) (h0 : Heap) : Frz h0 v v := by
  unfold cold2 at h
  split at h
  · exact .agg _ _ (colds1_ok h0 h)
  · exact cold1_ok h h0
theorem coldAll_ok (h0 : Heap) : ∀ {l : List V}, coldAll l = true → FrzL h0 l l
  | [], _ => .nil
  | v :: r, h => by simp only [coldAll, Bool.and_eq_true] at h; exact .cons _ _ _ _ (cold2_ok h.1 h0) (coldAll_ok h0 h.2)
theorem coldAll_cold {l : List V} (h : coldAll l = true) : Cold l := coldAll_ok _ h
theorem coldAll_append {l m : List V} : coldAll (l ++ m) = (coldAll l && coldAll m) := by
  induction l with
  | nil => rfl
  | cons v r ih => simp only [List.cons_append, coldAll, ih, Bool.and_assoc]

theorem stepH_local (h : AgO σ σ' o) (hh : σ.h = σ'.h) {loc : Nat → Bool} : stepH Y loc σ' o = stepH Y loc σ o := by
  have hev := @AgO.ev σ σ' o h
  have had := @AgO.addr σ σ' o h
  unfold stepH
  cases hop : o.op with
  | alloc t => simp only [hh]
  | box t x => rw [hop] at hev; simp only [hev (x := x) (by simp [Op.operands]), hh]
  | store t x y => rw [hop] at hev had; simp only [hev (x := y) (by simp [Op.operands]), had (x := x) (by simp [Op.operands]), hh]
  | buildSlice t n parts =>
    rw [hop] at hev
    have hp : ∀ p ∈ parts.toList, Go.Y.ev σ'.env p.2 = Go.Y.ev σ.env p.2 := fun p hp => hev (by simp only [Op.operands, List.mem_toArray, List.mem_map]; exact ⟨p, hp, rfl⟩)
    simp only [fillY_congr (e' := Go.Y.ev σ'.env) (e := Go.Y.ev σ.env) hp, hh]
  | makeSlice t x y => rw [hop] at hev; simp only [hev (x := x) (by simp [Op.operands]), hev (x := y) (by simp [Op.operands]), hh]
  | convert s d x => rw [hop] at hev; simp only [hev (x := x) (by simp [Op.operands]), hh]
  | call c =>
    obtain ⟨callee, args, ats⟩ := c
    rw [hop] at hev
    cases callee with
    | builtin b =>
      cases b with
      | append =>
        simp only
        split
        · rename_i s x st xt h1 h2
          have e1 : Go.Y.ev σ'.env s = Go.Y.ev σ.env s := hev (by
            have : s ∈ args.toList := by rw [h1]; simp
            simp at this; simp [Op.operands, Call.operands, this])
          have e2 : Go.Y.ev σ'.env x = Go.Y.ev σ.env x := hev (by
            have : x ∈ args.toList := by rw [h1]; simp
            simp at this; simp [Op.operands, Call.operands, this])
          have e3 : ∀ s x, appendY Y σ' st xt s x = appendY Y σ st xt s x := fun s x => by
            show appendY Y ⟨[], [], σ'.h⟩ st xt s x = appendY Y ⟨[], [], σ.h⟩ st xt s x
            rw [hh]
          rw [e1, e2, e3]
        · rfl
      | _ => rfl
    | _ => rfl
  | _ => rfl

theorem exoQ_local (h : AgO σ σ' o) : exoQ Y σ' o = exoQ Y σ o := by
  have hev := @AgO.ev σ σ' o h
  unfold exoQ
  cases hop : o.op with
  | slice t x lo hi mx => rw [hop] at hev; cases lo <;> cases hi <;> cases mx <;> first | rfl | simp only [hev (x := x) (by simp [Op.operands])]
  | call c =>
    obtain ⟨callee, args, ats⟩ := c
    rw [hop] at hev
    cases callee with
    | value fo =>
      simp only [hev (x := fo) (by simp [Op.operands, Call.operands])]
      rw [← map_congr (e' := Go.Y.ev σ'.env) (e := Go.Y.ev σ.env) (l := args.toList) fun x hx => hev (by simp at hx; simp [Op.operands, Call.operands, hx])]
    | builtin b =>
      cases b with
      | unsafeSliceData =>
        simp only
        split
        · rename_i x h1
          rw [hev (x := x) (by
            have : x ∈ args.toList := by rw [h1]; simp
            simp at this; simp [Op.operands, Call.operands, this])]
        · rfl
      | _ => rfl
    | _ => rfl
  | _ => rfl

theorem exoH_local (h : AgO σ σ' o) (hh : σ.h = σ'.h) : exoH Y σ' o = exoH Y σ o := by
  have hev := @AgO.ev σ σ' o h
  unfold exoH
  cases hop : o.op with
  | slice t x lo hi mx => rw [hop] at hev; cases lo <;> cases hi <;> cases mx <;> first | rfl | simp only [hev (x := x) (by simp [Op.operands]), hh]
  | convert s d x => rw [hop] at hev; simp only [hev (x := x) (by simp [Op.operands]), hh]
  | binOp op t x y z => rw [hop] at hev; simp only [hev (x := x) (by simp [Op.operands]), hev (x := y) (by simp [Op.operands]), hh]
  | call c =>
    obtain ⟨callee, args, ats⟩ := c
    rw [hop] at hev
    cases callee with
    | builtin b =>
      cases b with
      | unsafeString =>
        simp only
        split
        · rename_i x n pt it h1 h2
          have e1 : Go.Y.ev σ'.env x = Go.Y.ev σ.env x := hev (by
            have : x ∈ args.toList := by rw [h1]; simp
            simp at this; simp [Op.operands, Call.operands, this])
          have e2 : Go.Y.ev σ'.env n = Go.Y.ev σ.env n := hev (by
            have : n ∈ args.toList := by rw [h1]; simp
            simp at this; simp [Op.operands, Call.operands, this])
          rw [e1, e2, hh]
        · rfl
      | _ => rfl
    | _ => rfl
  | _ => rfl

theorem mapH_local (h : AgO σ σ' o) (hh : σ.h = σ'.h) : mapH Y σ' o = mapH Y σ o := by
  have hev := @AgO.ev σ σ' o h
  have hel : ∀ k v, elems σ' k v = elems σ k v := fun k v => by
    cases v <;> first | rfl | (rename_i a l c k'; cases a <;> first | rfl | simp only [elems, elemsS, cellsAt, hh])
  unfold mapH
  cases hop : o.op with
  | lookup t m k ok => rw [hop] at hev; simp only [hev (x := m) (by simp [Op.operands]), hev (x := k) (by simp [Op.operands]), hh]
  | mapUpdate t m k x => rw [hop] at hev; simp only [hev (x := m) (by simp [Op.operands]), hev (x := k) (by simp [Op.operands]), hev (x := x) (by simp [Op.operands]), hh]
  | insert t m k x => rw [hop] at hev; simp only [hev (x := m) (by simp [Op.operands]), hev (x := k) (by simp [Op.operands]), hev (x := x) (by simp [Op.operands]), hh]
  | call c =>
    obtain ⟨callee, args, ats⟩ := c
    rw [hop] at hev
    cases callee with
    | builtin b =>
      cases b with
      | clear =>
        simp only
        split
        · rename_i x t h1 h2
          have e1 : Go.Y.ev σ'.env x = Go.Y.ev σ.env x := hev (by
            have : x ∈ args.toList := by rw [h1]; simp
            simp at this; simp [Op.operands, Call.operands, this])
          rw [e1, hh]
        · rfl
      | copy =>
        simp only
        split
        · rename_i d x st rest h1 h2
          have e1 : Go.Y.ev σ'.env d = Go.Y.ev σ.env d := hev (by
            have : d ∈ args.toList := by rw [h1]; simp
            simp at this; simp [Op.operands, Call.operands, this])
          have e2 : Go.Y.ev σ'.env x = Go.Y.ev σ.env x := hev (by
            have : x ∈ args.toList := by rw [h1]; simp
            simp at this; simp [Op.operands, Call.operands, this])
          simp only [e1, e2, hel, hh]
        · rfl
      | _ => rfl
    | _ => rfl
  | _ => rfl

theorem lookQ_local (h : AgO σ σ' o) : lookQ Y σ' o = lookQ Y σ o := by
  have hev := @AgO.ev σ σ' o h
  have ho := h.o
  unfold lookQ
  cases hop : o.op with
  | lookup t m k ok =>
    rw [hop] at hev
    simp only [objR, hop] at ho
    have e1 := hev (x := m) (by simp [Op.operands])
    have e2 := hev (x := k) (by simp [Op.operands])
    have e3 : ∀ r, ev σ.env m = .mp r → mapAt σ'.h r = mapAt σ.h r := fun r hm => by
      cases r with
      | none => rfl
      | some r =>
        have : σ.h.get r = σ'.h.get r := ho r (by rw [hm]; simp)
        simp only [mapAt, this]
    simp only [mapH, hop, e1, e2]
    cases hk : Y.kd t with
    | none => rfl
    | some kd =>
      cases hm : ev σ.env m with
      | mp r =>
        cases kd with
        | map kt et =>
          simp only [e3 r hm]
          cases Y.kd kt with
          | none => rfl
          | some kk =>
            cases mapAt σ.h r with
            | none => rfl
            | some es =>
              simp only
              split
              · split <;> rfl
              · rfl
        | _ => rfl
      | _ => cases kd <;> rfl
  | _ => rfl

theorem newO_local (h : AgO σ σ' o) : newO Y σ' o = newO Y σ o := by
  have hev := @AgO.ev σ σ' o h
  unfold newO
  cases hop : o.op with
  | makeSlice t x y => rw [hop] at hev; simp only [hev (x := x) (by simp [Op.operands]), hev (x := y) (by simp [Op.operands])]
  | makeMap t r => cases r <;> rfl
  | _ => rfl

theorem StepE.local (h : AgO σ σ' o) {loc : Nat → Bool} {e : Ef} (hh : ∀ h v, e = .hp h v → σ.h = σ'.h) (hal : ∀ i x v, e = .al i x v → σ.h = σ'.h) (hnw : ∀ i x v, e ≠ .nw i x v) (s : StepE Y loc σ o e) : StepE Y loc σ' o e := by
  have hev := @AgO.ev σ σ' o h
  have had := @AgO.addr σ σ' o h
  cases s with
  | quiet q hq => exact .quiet q (by rw [opQ_local h]; exact hq)
  | alloc t ti d hop hti hd hl => exact .alloc t ti d hop hti hd hl
  | boxl t x ti d hop hti hd hl hs hc =>
    rw [hop] at hev
    have e1 := hev (x := x) (by simp [Op.operands])
    rw [← e1] at hs hc ⊢
    exact .boxl t x ti d hop hti hd hl hs hc
  | stl t y x ti s off cs hop hti ha hcs hs hc hb =>
    have hbx := h.b s (by simp [boxR, hop, ha])
    rw [hop] at hev had
    have e1 := hev (x := x) (by simp [Op.operands])
    have e2 := had (x := y) (by simp [Op.operands])
    rw [← e1] at hs hc hb ⊢
    exact .stl t y x ti s off cs hop hti (by rw [e2]; exact ha) (by rw [← hbx]; exact hcs) hs hc hb
  | bs t n parts et te cs hop hk hte hsz hf hc =>
    rw [hop] at hev
    have hp : ∀ p ∈ parts.toList, Go.Y.ev σ'.env p.2 = Go.Y.ev σ.env p.2 := fun p hp => hev (by simp only [Op.operands, List.mem_toArray, List.mem_map]; exact ⟨p, hp, rfl⟩)
    exact .bs t n parts et te cs hop hk hte hsz (by rw [fillY_congr (e' := Go.Y.ev σ'.env) (e := Go.Y.ev σ.env) hp]; exact hf) hc
  | pcall f args args' r hs hf hc hp =>
    refine .pcall f args args' r (call_local h hs) ?_ hc hp
    obtain ⟨fo, as, ats, a, c, hop, hfe, rfl⟩ := stepY_callE hs
    have h3 := h.h
    simp only [heapR, hop, hfe] at h3
    cases hcold : (coldAll a && coldAll (as.toList.map (ev σ.env)) && coldAll c) with
    | true =>
      refine coldAll_frz ?_ hf
      rw [coldAll_append, coldAll_append]
      exact hcold
    | false => rw [← h3 (by simp [hcold])]; exact hf
  | exq v hs => exact .exq v (by rw [exoQ_local h]; exact hs)
  | exh h' v hs => exact .exh h' v (by rw [exoH_local h (hh _ _ rfl)]; exact hs)
  | heap h' v hs => exact .heap h' v (by rw [stepH_local h (hh _ _ rfl)]; exact hs)
  | nw x vf hs => exact absurd rfl (hnw _ _ _)
  | nwp x vf hs => rw [hh _ _ rfl]; exact .nwp x vf (by rw [newO_local h]; exact hs)
  | lkq v hs => exact .lkq v (by rw [lookQ_local h]; exact hs)
  | mph h' v hs => exact .mph h' v (by rw [mapH_local h (hh _ _ rfl)]; exact hs)
  | icall f args h' v hs hc => exact .icall f args h' v (call_local h hs) (by rw [← hh _ _ rfl]; exact hc)
  | icallA f args x v hs hc =>
    have e := hal _ _ _ rfl
    rw [e]
    exact .icallA f args x v (call_local h hs) (by rw [← e]; exact hc)
  | icallR f args l h1 hN v r hs hcold hc hsame htg hN1 hf =>
    obtain ⟨fo, as, ats, a, c, hop, hfe, rfl⟩ := stepY_callE hs
    have h3 : σ.h = σ'.h := by
      refine h.h ?_
      rw [coldAll_append, coldAll_append] at hcold
      simp only [heapR, hop, hfe, hcold, Bool.not_false]
    refine .icallR f _ l h1 hN v r (call_local h hs) hcold (by rw [← h3]; exact hc) (by rw [← h3]; exact hsame) (by rw [← h3]; exact htg) (by rw [← h3]; exact hN1) hf
  | round id h' v fo ops ats hop hf hc =>
    rw [hop] at hev
    have e1 := hh _ _ rfl
    refine .round id h' v fo ops ats hop (by rw [hev (x := fo) (by simp [Op.operands, Call.operands])]; exact hf) ?_
    rw [← e1, map_congr (e' := Go.Y.ev σ'.env) (e := Go.Y.ev σ.env) (l := ops.toList) fun x hx => hev (by simp at hx; simp [Op.operands, Call.operands, hx])]
    exact hc
  | icallz f args args' D h' v hs hf hc => exact .icallz f args args' D h' v (call_local h hs) (by rw [← hh _ _ rfl]; exact hf) (by rw [← hh _ _ rfl]; exact hc)
end
end Go.Y
