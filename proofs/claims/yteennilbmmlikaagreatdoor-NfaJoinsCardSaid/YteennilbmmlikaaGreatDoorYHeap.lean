/- Memory turned: what becomes of the relation. -/
import Derived.Test.YteennilbmmlikaaGreatDoorYQuiet6
namespace Go.Y

theorem Tr.raw_set : ∀ (f : Nat) (t : Tr) (n m : Nat) (o : Option YObj), n + 1 < 2 ^ f → (Tr.set f t n o).raw m = if m = n then some o else t.raw m
  | 0, t, n, m, o, h => by simp at h
  | f + 1, t, n, m, o, h => by
    have hp : 2 ^ (f + 1) = 2 * 2 ^ f := by rw [Nat.pow_succ]; omega
    have leafget : ∀ k, Tr.leaf.raw k = none := fun k => by cases k <;> rfl
    cases t with
    | leaf =>
      cases n with
      | zero =>
        simp only [Tr.set]
        cases m with
        | zero => simp [Tr.raw]
        | succ m => simp [Tr.raw]
      | succ n =>
        simp only [Tr.set]
        by_cases hn : (n + 1) % 2 = 1
        · rw [if_pos hn]
          cases m with
          | zero => simp [Tr.raw]
          | succ m =>
            simp only [Tr.raw]
            by_cases hm : (m + 1) % 2 = 1
            · rw [if_pos hm, Tr.raw_set f _ _ _ _ (by omega)]
              have : (m + 1) / 2 = (n + 1) / 2 ↔ m + 1 = n + 1 := by omega
              simp [this, leafget]
            · rw [if_neg hm]
              have : ¬ (m + 1 = n + 1) := by omega
              simp only [this, if_false]
        · rw [if_neg hn]
          cases m with
          | zero => simp [Tr.raw]
          | succ m =>
            simp only [Tr.raw]
            by_cases hm : (m + 1) % 2 = 1
            · rw [if_pos hm]
              have : ¬ (m + 1 = n + 1) := by omega
              simp only [this, if_false]
            · rw [if_neg hm, Tr.raw_set f _ _ _ _ (by omega)]
              have : (m + 1) / 2 - 1 = (n + 1) / 2 - 1 ↔ m + 1 = n + 1 := by omega
              simp [this, leafget]
    | node l x r =>
      cases n with
      | zero =>
        simp only [Tr.set]
        cases m with
        | zero => simp [Tr.raw]
        | succ m => simp [Tr.raw]
      | succ n =>
        simp only [Tr.set]
        by_cases hn : (n + 1) % 2 = 1
        · rw [if_pos hn]
          cases m with
          | zero => simp [Tr.raw]
          | succ m =>
            simp only [Tr.raw]
            by_cases hm : (m + 1) % 2 = 1
            · rw [if_pos hm, if_pos hm, Tr.raw_set f _ _ _ _ (by omega)]
              have : (m + 1) / 2 = (n + 1) / 2 ↔ m + 1 = n + 1 := by omega
              simp [this]
            · rw [if_neg hm, if_neg hm]
              have : ¬ (m + 1 = n + 1) := by omega
              simp only [this, if_false]
        · rw [if_neg hn]
          cases m with
          | zero => simp [Tr.raw]
          | succ m =>
            simp only [Tr.raw]
            by_cases hm : (m + 1) % 2 = 1
            · rw [if_pos hm, if_pos hm]
              have : ¬ (m + 1 = n + 1) := by omega
              simp only [this, if_false]
            · rw [if_neg hm, if_neg hm, Tr.raw_set f _ _ _ _ (by omega)]
              have : (m + 1) / 2 - 1 = (n + 1) / 2 - 1 ↔ m + 1 = n + 1 := by omega
              simp [this]

theorem lt_pow (n : Nat) : n + 1 < 2 ^ (n + 1) := by
  induction n with
  | zero => decide
  | succ n ih => rw [Nat.pow_succ]; omega

theorem Tr.get_set (f : Nat) (t : Tr) (n m : Nat) (o : Option YObj) (h : n + 1 < 2 ^ f) : (Tr.set f t n o).get m = if m = n then o else t.get m := by
  unfold Tr.get; rw [Tr.raw_set f t n m o h]; split <;> rfl
@[simp] theorem Heap.get_set (h : Heap) (i j : Nat) (o : Option YObj) : (h.set i o).get j = if j = i then o else h.get j := Tr.get_set _ _ _ _ _ (lt_pow i)
@[simp] theorem Heap.get_push (h : Heap) (o : YObj) (j : Nat) : (h.push o).get j = if j = h.nx then some o else h.get j := Tr.get_set _ _ _ _ _ (lt_pow h.nx)
@[simp] theorem Heap.raw_set (h : Heap) (i j : Nat) (o : Option YObj) : (h.set i o).raw j = if j = i then some o else h.raw j := Tr.raw_set _ _ _ _ _ (lt_pow i)
@[simp] theorem Heap.raw_push (h : Heap) (o : YObj) (j : Nat) : (h.push o).raw j = if j = h.nx then some (some o) else h.raw j := Tr.raw_set _ _ _ _ _ (lt_pow h.nx)
theorem Heap.raw_of {h : Heap} {i : Nat} (hs : (h.get i).isSome = true) : (h.raw i).isSome = true := by
  unfold Heap.get Tr.get at hs; unfold Heap.raw
  cases hr : h.t.raw i with
  | none => rw [hr] at hs; simp at hs
  | some x => rfl
theorem HRel.ltg {W : Vw} {h : Heap} {w : World} (hr : HRel W h w) {i : Nat} (hs : (h.get i).isSome = true) : i < h.nx := hr.lt i (Heap.raw_of hs)
theorem HRel.known {W : Vw} {h : Heap} {w : World} (hr : HRel W h w) {i : Nat} (hs : (h.get i).isSome = true) : W.kn i := hr.lk i ((hr.lv i).2 hs)
theorem HRel.new {W : Vw} {h : Heap} {w : World} (hr : HRel W h w) {i : Nat} (hi : h.nx ≤ i) : ¬ W.kn i := fun hk => by have := hr.lt i (hr.kn i hk); omega
@[simp] theorem Heap.nx_set (h : Heap) (i : Nat) (o : Option YObj) : (h.set i o).nx = h.nx := rfl
@[simp] theorem Heap.nx_push (h : Heap) (o : YObj) : (h.push o).nx = h.nx + 1 := rfl

section
variable {Y : YP} {W W' : Vw} {σ : St} {a : Act} {w w' : World}

theorem put_tmps (a : Act) (d : Nat) (u : Value) (t : Nat) : (a.put (some d) u).tmps[t]? = if d = t then (if d < a.tmps.size then some u else none) else a.tmps[t]? := by
  simp only [Act.put, Array.getElem?_setIfInBounds]

theorem set_env (l : List V) (d : Nat) (v : V) (t : Nat) : (l.set d v)[t]? = if d = t then (if d < l.length then some v else none) else l[t]? := by
  rw [List.getElem?_set]

theorem VR.ne_box {v : V} {u : Value} (h : VR W v u) : (∀ cs, v ≠ .lb cs) ∧ v ≠ .rf := by
  cases h <;> exact ⟨fun _ h => (nomatch h), fun h => (nomatch h)⟩

theorem VR.srel {v : V} {u : Value} (h : VR W v u) : SRel W w v u := by
  cases h <;> (simp only [SRel]; constructor <;> assumption)

theorem put_defers (a : Act) (d : Option Tmp) (u : Value) : (a.put d u).defers = a.defers := by cases d <;> rfl

theorem Rel.putV (h : Rel W σ a w) {v : V} {u : Value} (hv : VR W v u) (d : Option Tmp) : Rel W (putV σ d v) (a.put d u) w := by
  cases d with
  | none => exact h
  | some d =>
    have hb : ∀ t b, boxAt (Go.Y.putV σ (some d) v) (a.put (some d) u) t b → boxAt σ a t b := by
      rintro t b ⟨⟨cs, h1⟩, h2⟩
      simp only [Go.Y.putV, set_env] at h1
      rw [put_tmps] at h2
      split at h1
      · split at h1
        · simp at h1; exact absurd h1 (hv.ne_box.1 cs)
        · cases h1
      · rename_i hne; rw [if_neg hne] at h2; exact ⟨⟨cs, h1⟩, h2⟩
    refine ⟨h.heap, by simp [Act.put, Go.Y.putV, h.size], fun t v' ht => ?_, fun t t' b h1 h2 => h.box t t' b (hb _ _ h1) (hb _ _ h2), fun d' s o hm hr b hbx => ?_, h.defers.act (put_defers _ _ _)⟩
    · simp only [Go.Y.putV, set_env] at ht
      rw [put_tmps]
      split at ht
      · rename_i hd; subst hd
        split at ht
        · rename_i hlt
          simp at ht; subst ht
          rw [if_pos rfl, if_pos (by rw [h.size]; exact hlt)]
          exact ⟨u, rfl, hv.srel⟩
        · cases ht
      · rename_i hd
        rw [if_neg hd]
        exact h.env t v' ht
    · simp only [Go.Y.putV, set_env] at hr
      rw [put_tmps]
      split at hr
      · split at hr
        · simp at hr; exact absurd hr hv.ne_box.2
        · cases hr
      · rename_i hd
        rw [if_neg hd]
        exact h.refs d' s o hm hr b (hb _ _ hbx)

theorem mine_putV {v : V} {u : Value} (hv : VR W v u) (d : Option Tmp) {b : Nat} (h : mine W (putV σ d v) (a.put d u) b) : mine W σ a b := by
  rcases h with h | ⟨t, ⟨cs, h1⟩, h2⟩ | h
  · exact .inl h
  · cases d with
    | none => exact .inr (.inl ⟨t, ⟨cs, h1⟩, h2⟩)
    | some d =>
      simp only [Go.Y.putV, set_env] at h1
      rw [put_tmps] at h2
      split at h1
      · split at h1
        · simp at h1; exact absurd h1 (hv.ne_box.1 cs)
        · cases h1
      · rename_i hne; rw [if_neg hne] at h2; exact .inr (.inl ⟨t, ⟨cs, h1⟩, h2⟩)
  · rw [put_defers] at h; exact .inr (.inr h)

theorem Rel.putRef (h : Rel W σ a w) {s o b : Nat} (hb : boxAt σ a s b) (d : Nat) :
    Rel W { σ with env := σ.env.set d .rf, refs := (d, s, o) :: σ.refs.filter fun r => r.1 != d } (a.put (some d) (.pointer (some ⟨b, o, none⟩))) w := by
  have hbx : ∀ t b', boxAt { σ with env := σ.env.set d .rf, refs := (d, s, o) :: σ.refs.filter fun r => r.1 != d } (a.put (some d) (.pointer (some ⟨b, o, none⟩))) t b' → boxAt σ a t b' := by
    rintro t b' ⟨⟨cs, h1⟩, h2⟩
    simp only [set_env] at h1
    rw [put_tmps] at h2
    split at h1
    · split at h1 <;> simp at h1
    · rename_i hne; rw [if_neg hne] at h2; exact ⟨⟨cs, h1⟩, h2⟩
  refine ⟨h.heap, by simp [Act.put, h.size], fun t v' ht => ?_, fun t t' b' h1 h2 => h.box t t' b' (hbx _ _ h1) (hbx _ _ h2), fun d' s' o' hm hr b' hb' => ?_, h.defers.act (put_defers _ _ _)⟩
  · simp only [set_env] at ht
    rw [put_tmps]
    split at ht
    · rename_i hd; subst hd
      split at ht
      · rename_i hlt
        simp at ht; subst ht
        rw [if_pos rfl, if_pos (by rw [h.size]; exact hlt)]
        exact ⟨_, rfl, trivial⟩
      · cases ht
    · rename_i hd; rw [if_neg hd]; exact h.env t v' ht
  · have hb2 := hbx _ _ hb'
    simp only [set_env] at hr
    rw [put_tmps]
    simp only [List.mem_cons, List.mem_filter] at hm
    rcases hm with hm | ⟨hm, hne⟩
    · simp at hm
      obtain ⟨rfl, rfl, rfl⟩ := hm
      rw [if_pos rfl]
      split at hr
      · split at hr
        · rename_i hlt
          rw [if_pos (by rw [h.size]; exact hlt)]
          have h1 := hb.2
          have h2 := hb2.2
          rw [h1] at h2; simp at h2; rw [h2]
        · cases hr
      · rename_i hd; exact absurd rfl hd
    · simp at hne
      rw [if_neg (fun e => hne e.symm)]
      split at hr
      · rename_i hd; exact absurd hd.symm hne
      · exact h.refs d' s' o' hm hr b' hb2

theorem mine_putRef {s o : Nat} (d : Nat) {c : Nat} (u : Value)
    (h : mine W { σ with env := σ.env.set d .rf, refs := (d, s, o) :: σ.refs.filter fun r => r.1 != d } (a.put (some d) u) c) : mine W σ a c := by
  rcases h with h | ⟨t, ⟨cs, h1⟩, h2⟩ | h
  · exact .inl h
  · simp only [set_env] at h1
    rw [put_tmps] at h2
    split at h1
    · split at h1 <;> simp at h1
    · rename_i hne; rw [if_neg hne] at h2; exact .inr (.inl ⟨t, ⟨cs, h1⟩, h2⟩)
  · rw [put_defers] at h; exact .inr (.inr h)

theorem Rel.call (h : Rel W σ a w) {h' : Heap} (hs : Stp W W.own w W' W'.own w') (hh : HRel W' h' w') : Rel W' { σ with h := h' } a w' where
  heap := hh
  size := h.size
  env t v ht := by
    obtain ⟨u, h1, h2⟩ := h.env t v ht
    refine ⟨u, h1, ?_⟩
    cases v with
    | lb cs =>
      obtain ⟨b, c, e, hu, hb, hr, hsn, hown⟩ := h2
      refine ⟨b, c, e, hu, ?_, hr.mono hs.le, ?_, fun ho => ?_⟩
      · rw [hs.keep b (lt_of_block hb) hown]; exact hb
      · by_cases hc : W'.snap b = none
        · exact hc
        · rcases hs.new b hc with h3 | h3 | h3
          · exact absurd hsn h3
          · exact absurd h3 hown
          · exact absurd (lt_of_block hb) (Nat.not_lt.2 h3)
      · rcases hs.owns b ho with h3 | h3
        · exact hown h3
        · exact absurd (lt_of_block hb) (Nat.not_lt.2 h3)
    | rf => trivial
    | _ => exact VR.mono hs.le h2
  box := h.box
  refs := h.refs
  defers := h.defers.turn fun r hr hsn hown => by
    have hlt := lt_of_block hr
    refine ⟨hs.keep r hlt hown, ?_, fun ho => ?_⟩
    · by_cases hc : W'.snap r = none
      · exact hc
      · rcases hs.new r hc with h3 | h3 | h3
        · exact absurd hsn h3
        · exact absurd h3 hown
        · omega
    · rcases hs.owns r ho with h3 | h3
      · exact hown h3
      · omega

theorem Stp.frame (_h : Rel W σ a w) {h' : Heap} (hs : Stp W W.own w W' W'.own w') : Stp W (mine W σ a) w W' (mine W' { σ with h := h' } a) w' where
  le := hs.le
  size := hs.size
  keep b hb hn := hs.keep b hb (fun ho => hn (.inl ho))
  owns b hb := by
    rcases hb with ho | hb
    · rcases hs.owns _ ho with h1 | h1
      · exact .inl (.inl h1)
      · exact .inr h1
    · exact .inl (.inr hb)
  str := hs.str
  new b hb := by
    rcases hs.new b hb with h1 | h1 | h1
    · exact .inl h1
    · exact .inr (.inl (.inl h1))
    · exact .inr (.inr h1)

@[simp] theorem Heap.get_tagIf (h : Heap) (i : Nat) (t : Option TypeId) (j : Nat) : (h.tagIf i t).get j = h.get j := by cases t <;> rfl
@[simp] theorem Heap.raw_tagIf (h : Heap) (i : Nat) (t : Option TypeId) (j : Nat) : (h.tagIf i t).raw j = h.raw j := by cases t <;> rfl
@[simp] theorem Heap.nx_tagIf (h : Heap) (i : Nat) (t : Option TypeId) : (h.tagIf i t).nx = h.nx := by cases t <;> rfl
@[simp] theorem Heap.lo_tagIf (h : Heap) (i : Nat) (t : Option TypeId) : (h.tagIf i t).lo = h.lo := by cases t <;> rfl
@[simp] theorem Heap.pushT_none (h : Heap) (o : YObj) : h.pushT none o = h.push o := rfl
@[simp] theorem Heap.get_pushT (h : Heap) (t : Option TypeId) (o : YObj) (j : Nat) : (h.pushT t o).get j = if j = h.nx then some o else h.get j := by unfold Heap.pushT; rw [Heap.get_tagIf, Heap.get_push]
@[simp] theorem Heap.raw_pushT (h : Heap) (t : Option TypeId) (o : YObj) (j : Nat) : (h.pushT t o).raw j = if j = h.nx then some (some o) else h.raw j := by unfold Heap.pushT; rw [Heap.raw_tagIf, Heap.raw_push]
@[simp] theorem Heap.nx_pushT (h : Heap) (t : Option TypeId) (o : YObj) : (h.pushT t o).nx = h.nx + 1 := by unfold Heap.pushT; rw [Heap.nx_tagIf, Heap.nx_push]

theorem HRel.tagIf {h : Heap} (hr : HRel W h w) {i : Nat} {t : Option TypeId} (hi : W.kn i) (ht : ∀ x, t = some x → TagR W w (i, x)) : HRel W (h.tagIf i t) w := by
  cases t with
  | none => exact hr
  | some x =>
    exact ⟨hr.kn, hr.lk, hr.lv, hr.lt, hr.snap, hr.obj, hr.inj, hr.apart, fun p hp => by
      rcases List.mem_cons.1 hp with rfl | hp
      · exact ⟨hi, ht x rfl⟩
      · exact hr.tg p hp, hr.gl⟩

theorem tagIn_mem : ∀ {l : List (Nat × TypeId)} {i : Nat} {t : TypeId}, tagIn l i = some t → (i, t) ∈ l
  | p :: l, i, t, h => by
    simp only [tagIn] at h
    split at h
    · rename_i hp; simp at h; subst hp h; simp
    · exact List.mem_cons_of_mem _ (tagIn_mem h)

def Vw.push (W : Vw) (i blk sz : Nat) : Vw where
  mu id := if id = i then (blk, 0) else W.mu id
  sz id := if id = i then sz else W.sz id
  snap := W.snap
  lv id := W.lv id ∨ id = i
  kn id := W.kn id ∨ id = i

theorem Vw.push_le (W : Vw) {i : Nat} (hi : ¬ W.kn i) (blk sz : Nat) : Le W (W.push i blk sz) where
  kn id h := .inl h
  mu id h := by have : id ≠ i := fun e => hi (e ▸ h); simp [Vw.push, this]
  sz id h := by have : id ≠ i := fun e => hi (e ▸ h); simp [Vw.push, this]
  snap b o h := h
  lv id h hl := hl.resolve_right fun e => hi (e ▸ h)

theorem HRel.pushAt {h h' : Heap} (hr : HRel W h w) {i : Nat} (hi : ¬ W.kn i) {o : YObj} {ob : Obj} {sz : Nat} (hstr : Str w w') (hs : Same w w') (hsz : w'.heap.size = w.heap.size + 1) (_hn : w'.heap[w.heap.size]? = some ob)
    (hg : ∀ j, h'.raw j = if j = i then some (some o) else h.raw j) (hnx : h.nx ≤ h'.nx ∧ i < h'.nx) (htg : h'.tg = h.tg)
    (ho : ORel (W.push i w.heap.size sz) w' i o) : HRel (W.push i w.heap.size sz) h' w' ∧ Stp W W.own w (W.push i w.heap.size sz) (W.push i w.heap.size sz).own w' := by
  have hgg : ∀ j, h'.get j = if j = i then some o else h.get j := fun j => by
    show (h'.raw j).join = _
    rw [hg]
    by_cases e : j = i
    · rw [if_pos e, if_pos e]; rfl
    · rw [if_neg e, if_neg e]; rfl
  have hblk : ∀ id, W.lv id → (W.mu id).1 < w.heap.size := by
    intro id hl
    obtain ⟨ob, hob⟩ := Option.isSome_iff_exists.1 ((hr.lv id).1 hl)
    have := hr.obj id ob hob
    cases ob with
    | arr cs wr => obtain ⟨c, e, fr, h1, _⟩ := this; exact lt_of_block h1
    | map es => obtain ⟨m, k, h1, _⟩ := this; exact lt_of_block h1
    | siter l p => exact lt_of_block this
    | loop L => obtain ⟨fn, us, df, h1, _⟩ := this; exact lt_of_block h1
  refine ⟨⟨fun id hk => ?_, fun id hl => hl.imp_left (hr.lk id), fun id => ?_, fun id hi => ?_, fun b o hb => hs _ _ (hr.snap b o hb), fun id o' ho' => ?_, fun id id' h1 h2 he => ?_, fun id hl => ?_, fun p hp => ?_, hr.gl.mono (W.push_le hi _ _).snap⟩, ?_⟩
  · rw [hg]
    by_cases e : id = i
    · rw [if_pos e]; rfl
    · rw [if_neg e]; exact hr.kn id (hk.resolve_right e)
  · simp only [Vw.push, hgg]
    by_cases hid : id = i
    · simp [hid]
    · simp [hid, hr.lv id]
  · rw [hg] at hi
    split at hi
    · omega
    · have := hr.lt id hi; omega
  · rw [hgg] at ho'
    split at ho'
    · rename_i hid
      simp at ho'; subst ho' hid
      exact ho
    · exact ((hr.obj id o' ho').mono (W.push_le hi _ _) (hr.known (by simp [ho']))).same hs
  · simp only [Vw.push] at h1 h2 he
    by_cases e1 : id = i <;> by_cases e2 : id' = i <;> simp only [e1, e2, if_true, if_false] at he
    · rw [e1, e2]
    · have := hblk id' (h2.resolve_right e2); omega
    · have := hblk id (h1.resolve_right e1); omega
    · exact hr.inj id id' (h1.resolve_right e1) (h2.resolve_right e2) he
  · simp only [Vw.push] at hl ⊢
    by_cases e1 : id = i
    · simp only [e1, if_true]
      cases hsn : W.snap w.heap.size with
      | none => rfl
      | some o' => have := lt_of_block (hr.snap _ _ hsn); omega
    · simp only [e1, if_false]
      exact hr.apart id (hl.resolve_right e1)
  · rw [htg] at hp
    obtain ⟨g1, g2⟩ := hr.tg p hp
    exact ⟨.inl g1, (g2.mono (W.push_le hi _ _) g1).same hs⟩
  · refine ⟨W.push_le hi _ _, by omega, fun b hb _ => ?_, fun b hb => ?_, fun b hb => .inl hb, hstr⟩
    · rw [Array.getElem?_eq_getElem hb]
      exact hs b _ (Array.getElem?_eq_getElem hb)
    · obtain ⟨id, hl, he⟩ := hb
      simp only [Vw.push] at hl he
      by_cases e1 : id = i
      · simp only [e1, if_true] at he; exact .inr (by omega)
      · simp only [e1, if_false] at he; exact .inl ⟨id, hl.resolve_right e1, he⟩

theorem HRel.push {h : Heap} (hr : HRel W h w) {o : YObj} {ob : Obj} {sz : Nat} (hstr : Str w w') (hs : Same w w') (hsz : w'.heap.size = w.heap.size + 1) (hn : w'.heap[w.heap.size]? = some ob)
    (ho : ORel (W.push h.nx w.heap.size sz) w' h.nx o) : HRel (W.push h.nx w.heap.size sz) (h.push o) w' ∧ Stp W W.own w (W.push h.nx w.heap.size sz) (W.push h.nx w.heap.size sz).own w' :=
  hr.pushAt (hr.new (Nat.le_refl _)) hstr hs hsz hn (fun j => by simp) (by simp) rfl ho

theorem HRel.blk {h : Heap} (hr : HRel W h w) {id : Nat} (hl : W.lv id) : (W.mu id).1 < w.heap.size := by
  obtain ⟨ob, hob⟩ := Option.isSome_iff_exists.1 ((hr.lv id).1 hl)
  have := hr.obj id ob hob
  cases ob with
  | arr cs wr => obtain ⟨c, e, fr, h1, _⟩ := this; exact lt_of_block h1
  | map es => obtain ⟨m, k, h1, _⟩ := this; exact lt_of_block h1
  | siter l p => exact lt_of_block this
  | loop L => obtain ⟨fn, us, df, h1, _⟩ := this; exact lt_of_block h1

theorem HRel.others {h : Heap} (hr : HRel W h w) {b : Nat} (hk : ∀ c, c ≠ b → w'.heap[c]? = w.heap[c]?) {id : Nat} {o : YObj} (ho : h.get id = some o) (hne : (W.mu id).1 ≠ b) : ORel W w' id o := by
  have := hr.obj id o ho
  cases o with
  | arr cs wr => obtain ⟨c, e, fr, h1, h2⟩ := this; exact ⟨c, e, fr, by rw [hk _ hne]; exact h1, h2⟩
  | map es => obtain ⟨m, k, h1, h2⟩ := this; exact ⟨m, k, by rw [hk _ hne]; exact h1, h2⟩
  | siter l p => unfold ORel; rw [hk _ hne]; exact this
  | loop L => obtain ⟨fn, us, df, h1, h2⟩ := this; exact ⟨fn, us, df, by rw [hk _ hne]; exact h1, h2⟩

theorem HRel.write {h : Heap} (hr : HRel W h w) (hstr : Str w w') {id : Nat} (hl : W.lv id) {o : YObj} (hk : ∀ c, c ≠ (W.mu id).1 → w'.heap[c]? = w.heap[c]?) (hsz : w'.heap.size = w.heap.size)
    (hty : ∀ c e fr, w.heap[(W.mu id).1]? = some (.cells c e fr) → fr.1 ≤ fr.2 → fr.2 ≤ c.size → ∃ c' fr', w'.heap[(W.mu id).1]? = some (.cells c' e fr') ∧ fr'.1 ≤ fr'.2 ∧ fr'.2 ≤ c'.size)
    (ho : ORel W w' id o) : HRel W (h.set id (some o)) w' ∧ Stp W W.own w W W.own w' := by
  have hid : id < h.nx := hr.ltg ((hr.lv id).1 hl)
  refine ⟨⟨fun j hj => ?_, hr.lk, fun j => ?_, fun j hj => ?_, fun b o' hb => ?_, fun j o' hj => ?_, hr.inj, hr.apart, fun p hp => ⟨(hr.tg p hp).1, fun hl' => ?_⟩, hr.gl⟩, ⟨.refl W, by omega, fun b _ hn => ?_, fun b hb => .inl hb, fun b hb => .inl hb, hstr⟩⟩
  · rw [Heap.raw_set]
    split
    · rfl
    · exact hr.kn j hj
  · rw [Heap.get_set]
    by_cases e : j = id
    · subst e; simp [hl]
    · simp [e, hr.lv j]
  · rw [Heap.raw_set] at hj
    by_cases e : j = id
    · subst e; exact hid
    · simp [e] at hj; exact hr.lt j hj
  · rw [hk b (fun e => by have := hr.apart id hl; rw [← e, hb] at this; cases this)]
    exact hr.snap b o' hb
  · rw [Heap.get_set] at hj
    by_cases e : j = id
    · subst e; simp at hj; subst hj; exact ho
    · simp [e] at hj
      exact hr.others hk hj (fun he => e (hr.inj j id ((hr.lv j).2 (by simp [hj])) hl he))
  · obtain ⟨g1, c, fr, g2, g3, g4⟩ := (hr.tg p hp).2 hl'
    by_cases e : p.1 = id
    · rw [e] at g2
      obtain ⟨c', fr', q1, q2, q3⟩ := hty c p.2 fr g2 g3 g4
      exact ⟨g1, c', fr', by rw [e]; exact q1, q2, q3⟩
    · exact ⟨g1, c, fr, by rw [hk _ (fun he => e (hr.inj p.1 id hl' hl he))]; exact g2, g3, g4⟩
  · exact hk b (fun e => hn ⟨id, hl, e.symm⟩)

def Vw.kill (W : Vw) (i : Nat) : Vw := { W with lv := fun id => W.lv id ∧ id ≠ i }

theorem Vw.kill_le (W : Vw) (i : Nat) : Le W (W.kill i) := ⟨fun _ h => h, fun _ _ => rfl, fun _ _ => rfl, fun _ _ h => h, fun _ _ h => h.1⟩

theorem HRel.kill {h : Heap} (hr : HRel W h w) {i : Nat} (hi : i < h.nx) : HRel (W.kill i) (h.set i none) w ∧ Stp W W.own w (W.kill i) (W.kill i).own w := by
  refine ⟨⟨fun j hj => ?_, fun j hj => hr.lk j hj.1, fun j => ?_, fun j hj => ?_, hr.snap, fun j o hj => ?_, fun j k h1 h2 => hr.inj j k h1.1 h2.1, fun j hj => hr.apart j hj.1, fun p hp => ⟨(hr.tg p hp).1, fun hl => (hr.tg p hp).2 hl.1⟩, hr.gl.mono (W.kill_le i).snap⟩,
    ⟨W.kill_le i, Nat.le_refl _, fun b _ _ => rfl, fun b hb => ?_, fun b hb => .inl hb, .refl w⟩⟩
  · rw [Heap.raw_set]
    split
    · rfl
    · exact hr.kn j hj
  · rw [Heap.get_set]
    by_cases e : j = i
    · subst e; simp [Vw.kill]
    · simp [e, Vw.kill, hr.lv j]
  · rw [Heap.raw_set] at hj
    by_cases e : j = i
    · subst e; exact hi
    · simp [e] at hj; exact hr.lt j hj
  · rw [Heap.get_set] at hj
    by_cases e : j = i
    · simp [e] at hj
    · simp [e] at hj
      exact (hr.obj j o hj).mono (W.kill_le i) (hr.known (by simp [hj]))
  · obtain ⟨id, h1, h2⟩ := hb
    exact .inl ⟨id, h1.1, h2⟩

def Vw.go (W : Vw) (n i off : Nat) : Vw where
  mu id := if id = n then ((W.mu i).1, (W.mu i).2 + off) else W.mu id
  sz id := if id = n then W.sz i else W.sz id
  snap := W.snap
  lv id := (W.lv id ∧ id ≠ i) ∨ id = n
  kn id := W.kn id ∨ id = n

theorem Vw.go_le (W : Vw) {n : Nat} (hn : ¬ W.kn n) (i off : Nat) : Le W (W.go n i off) where
  kn id h := .inl h
  mu id h := by have : id ≠ n := fun e => hn (e ▸ h); simp [Vw.go, this]
  sz id h := by have : id ≠ n := fun e => hn (e ▸ h); simp [Vw.go, this]
  snap b o h := h
  lv id h hl := (hl.resolve_right fun e => hn (e ▸ h)).1

theorem HRel.go {h : Heap} (hr : HRel W h w) (hstr : Str w w') {i off : Nat} (hl : W.lv i) {o : YObj} (hk : ∀ c, c ≠ (W.mu i).1 → w'.heap[c]? = w.heap[c]?) (hsz : w'.heap.size = w.heap.size)
    (ho : ORel (W.go h.nx i off) w' h.nx o) : HRel (W.go h.nx i off) ((h.set i none).push o) w' ∧ Stp W W.own w (W.go h.nx i off) (W.go h.nx i off).own w' := by
  have hi : i < h.nx := hr.ltg ((hr.lv i).1 hl)
  have hnn := hr.new (Nat.le_refl h.nx)
  refine ⟨⟨fun j hj => ?_, fun j hj => ?_, fun j => ?_, fun j hj => ?_, fun b o' hb => ?_, fun j o' hj => ?_, fun j k h1 h2 he => ?_, fun j hj => ?_, fun p hp => ?_, hr.gl.mono (W.go_le hnn i off).snap⟩,
    ⟨W.go_le hnn i off, by omega, fun b _ hn => hk b (fun e => hn ⟨i, hl, e.symm⟩), fun b hb => ?_, fun b hb => .inl hb, hstr⟩⟩
  · rw [Heap.raw_push, Heap.raw_set, Heap.nx_set]
    by_cases e : j = h.nx
    · rw [if_pos e]; rfl
    · rw [if_neg e]
      split
      · rfl
      · exact hr.kn j (hj.resolve_right e)
  · exact hj.imp_left fun q => hr.lk j q.1
  · rw [Heap.get_push, Heap.get_set, Heap.nx_set]
    simp only [Vw.go]
    by_cases e : j = h.nx
    · simp [e]
    · by_cases e2 : j = i
      · simp [e2, Nat.ne_of_lt hi]
      · simp [e, e2, hr.lv j]
  · rw [Heap.raw_push, Heap.raw_set, Heap.nx_set] at hj
    rw [Heap.nx_push, Heap.nx_set]
    by_cases e : j = h.nx
    · omega
    · by_cases e2 : j = i
      · omega
      · simp [e, e2] at hj; have := hr.lt j hj; omega
  · have hne : b ≠ (W.mu i).1 := fun e => by
      have := hr.apart i hl
      have hb' : W.snap b = some o' := hb
      rw [← e, hb'] at this; cases this
    rw [hk b hne]; exact hr.snap b o' hb
  · rw [Heap.get_push, Heap.get_set, Heap.nx_set] at hj
    by_cases e : j = h.nx
    · simp [e] at hj; subst hj; rw [e]; exact ho
    · by_cases e2 : j = i
      · simp [e2, Nat.ne_of_lt hi] at hj
      · simp [e, e2] at hj
        have hjl : W.lv j := (hr.lv j).2 (by simp [hj])
        exact (hr.others hk hj (fun he => e2 (hr.inj j i hjl hl he))).mono (W.go_le hnn i off) (hr.known (by simp [hj]))
  · simp only [Vw.go] at h1 h2 he
    by_cases e1 : j = h.nx <;> by_cases e2 : k = h.nx <;> simp only [e1, e2, if_true, if_false] at he
    · rw [e1, e2]
    · have h3 := h2.resolve_right e2
      exact absurd (hr.inj k i h3.1 hl he.symm) h3.2
    · have h3 := h1.resolve_right e1
      exact absurd (hr.inj j i h3.1 hl he) h3.2
    · exact hr.inj j k (h1.resolve_right e1).1 (h2.resolve_right e2).1 he
  · simp only [Vw.go] at hj ⊢
    by_cases e1 : j = h.nx
    · simp only [e1, if_true]; exact hr.apart i hl
    · simp only [e1, if_false]; exact hr.apart j (hj.resolve_right e1).1
  · obtain ⟨g1, g2⟩ := hr.tg p hp
    refine ⟨.inl g1, fun hl' => ?_⟩
    have hne : p.1 ≠ h.nx := fun e => hnn (e ▸ g1)
    simp only [Vw.go, hne, if_false, or_false] at hl' ⊢
    obtain ⟨q1, c, fr, q2, q3⟩ := g2 hl'.1
    exact ⟨q1, c, fr, by rw [hk _ (fun he => hl'.2 (hr.inj p.1 i hl'.1 hl he))]; exact q2, q3⟩
  · obtain ⟨id, h1, h2⟩ := hb
    simp only [Vw.go] at h1 h2
    by_cases e1 : id = h.nx
    · simp only [e1, if_true] at h2; exact .inl ⟨i, hl, h2⟩
    · simp only [e1, if_false] at h2; exact .inl ⟨id, (h1.resolve_right e1).1, h2⟩
end
end Go.Y
