/- What an abstract value says of a value of the model, and abstract memory of a world. -/
import Derived.Test.YteennilbmmlikaaGreatDoorYVal
import Derived.Laws.Cells
import Derived.Laws.World
import Derived.Laws.AppendOwn
namespace Go.Y

structure Vw where
  mu : Nat → Nat × Nat
  sz : Nat → Nat
  snap : Nat → Option Obj
  lv : Nat → Prop
  kn : Nat → Prop

def Vw.at (W : Vw) (id off : Nat) : Addr := ⟨(W.mu id).1, (W.mu id).2 + off, none⟩

def Vw.dead (W : Vw) : Vw := { mu := W.mu, sz := W.sz, snap := W.snap, lv := fun _ => False, kn := fun _ => False }

mutual
inductive VR : Vw → V → Value → Prop
  | undef {W : Vw} (u : Value) : VR W .undef u
  | b {W : Vw} (x : Bool) : VR W (.b x) (.bool x)
  | i {W : Vw} (k : IntKind) (n : Int) : VR W (.i k n) (.int k n)
  | s {W : Vw} (l : List UInt8) : VR W (.s l) (.string ⟨l.toArray⟩)
  | pn {W : Vw} : VR W (.p none) (.pointer none)
  | ps {W : Vw} (id off : Nat) (a : Addr) (hid : W.kn id) (ha : W.lv id → a = W.at id off) : VR W (.p (some (id, off))) (.pointer (some a))
  | tpn {W : Vw} (a : Addr) : VR W (.tp []) (.pointer (some a))
  | tp {W : Vw} (cs : List V) (blk off : Nat) (c : Array Value) (e : TypeId) (fr : Nat × Nat) (us : List Value) (hs : W.snap blk = some (.cells c e fr))
      (hc : ∀ j u, us[j]? = some u → c[off + j]? = some u) (hr : VRs W.dead cs us) : VR W (.tp cs) (.pointer (some ⟨blk, off, none⟩))
  | sln {W : Vw} (c : Option Nat) (k : Nat) : VR W (.sl none 0 c k) (.slice none 0 0)
  | sls {W : Vw} (id off len : Nat) (cap : Option Nat) (k : Nat) (a : Addr) (cap' : Nat) (hid : W.kn id) (hl : len ≤ cap') (hc : ∀ c, cap = some c → cap' = c)
      (ha : W.lv id → 0 < cap' → a = W.at id off) (hn : W.lv id → cap = none → (W.mu id).2 + off + cap' * k = W.sz id)
      (hk : W.lv id → (W.mu id).2 + off + cap' * k ≤ W.sz id) : VR W (.sl (some (id, off)) len cap k) (.slice (some a) len cap')
  | tsn {W : Vw} (len : Nat) (cap : Option Nat) (a : Addr) (cap' : Nat) (hl : len ≤ cap') (hc : ∀ c, cap = some c → cap' = c) : VR W (.ts [] len cap) (.slice (some a) len cap')
  | tsz {W : Vw} (cap : Option Nat) (hc : ∀ c, cap = some c → c = 0) : VR W (.ts [] 0 cap) (.slice none 0 0)
  | ts {W : Vw} (cs : List V) (len : Nat) (cap : Option Nat) (cap' : Nat) (blk off : Nat) (c : Array Value) (e : TypeId) (fr : Nat × Nat) (us : List Value) (hl : len ≤ cap') (hcap : ∀ c, cap = some c → cap' = c)
      (hs : W.snap blk = some (.cells c e fr)) (hc : ∀ j u, us[j]? = some u → c[off + j]? = some u) (hr : VRs W.dead cs us) : VR W (.ts cs len cap) (.slice (some ⟨blk, off, none⟩) len cap')
  | mpn {W : Vw} : VR W (.mp none) (.map none)
  | mps {W : Vw} (id r : Nat) (hid : W.kn id) (hr : W.lv id → r = (W.mu id).1) : VR W (.mp (some id)) (.map (some r))
  | fn {W : Vw} (f : Fn) (a c : List V) (ua uc : List Value) (ha : VRs W a ua) (hc : VRs W c uc) : VR W (.fn f a c) (.func f ua.toArray uc.toArray)
  | nilfn {W : Vw} : VR W .nilfn .nilFunc
  | ifc {W : Vw} (t : TypeId) (v : V) (u : Value) (h : VR W v u) : VR W (.ifc t v) (.iface t u)
  | nilifc {W : Vw} : VR W .nilifc .nilIface
  | agg {W : Vw} (cs : List V) (us : List Value) (h : VRs W cs us) : VR W (.agg cs) (.agg us.toArray)
  | tup {W : Vw} (cs : List V) (us : List Value) (h : VRs W cs us) : VR W (.tup cs) (.tuple us.toArray)
  | yl {W : Vw} (id l : Nat) (hid : W.kn id) (hl : W.lv id → l = (W.mu id).1) : VR W (.yl id) (.func (.yield l) #[] #[])
inductive VRs : Vw → List V → List Value → Prop
  | nil {W : Vw} : VRs W [] []
  | cons {W : Vw} (v : V) (u : Value) (l : List V) (m : List Value) (h : VR W v u) (hs : VRs W l m) : VRs W (v :: l) (u :: m)
end

structure Le (W W' : Vw) : Prop where
  kn : ∀ id, W.kn id → W'.kn id
  mu : ∀ id, W.kn id → W'.mu id = W.mu id
  sz : ∀ id, W.kn id → W'.sz id = W.sz id
  snap : ∀ b o, W.snap b = some o → W'.snap b = some o
  lv : ∀ id, W.kn id → W'.lv id → W.lv id

theorem Le.refl (W : Vw) : Le W W := ⟨fun _ h => h, fun _ _ => rfl, fun _ _ => rfl, fun _ _ h => h, fun _ _ h => h⟩

theorem Le.trans {A B C : Vw} (h : Le A B) (g : Le B C) : Le A C :=
  ⟨fun id hi => g.kn id (h.kn id hi), fun id hi => (g.mu id (h.kn id hi)).trans (h.mu id hi), fun id hi => (g.sz id (h.kn id hi)).trans (h.sz id hi),
   fun b o hb => g.snap b o (h.snap b o hb), fun id hi hl => h.lv id hi (g.lv id (h.kn id hi) hl)⟩

theorem Le.at {W W' : Vw} (h : Le W W') {id : Nat} (hi : W.kn id) (off : Nat) : W'.at id off = W.at id off := by
  unfold Vw.at; rw [h.mu id hi]

theorem Le.dead {W W' : Vw} (h : Le W W') : Le W.dead W'.dead :=
  ⟨fun _ h => h, fun _ h => h.elim, fun _ h => h.elim, h.snap, fun _ h => h.elim⟩

theorem dead_le (W : Vw) : Le W.dead W :=
  ⟨fun _ h => h.elim, fun _ h => h.elim, fun _ h => h.elim, fun _ _ h => h, fun _ h => h.elim⟩

mutual
theorem VR.mono {W W' : Vw} (h : Le W W') {v : V} {u : Value} (r : VR W v u) : VR W' v u := by
  cases r with
  | undef u => exact .undef u
  | b x => exact .b x
  | i k n => exact .i k n
  | s l => exact .s l
  | pn => exact .pn
  | ps id off a hid ha => exact .ps id off a (h.kn id hid) (fun hl => by rw [h.at hid]; exact ha (h.lv id hid hl))
  | tpn a => exact .tpn a
  | tp cs blk off c e fr us hs hc hr => exact .tp cs blk off c e fr us (h.snap _ _ hs) hc (VRs.mono h.dead hr)
  | sln c k => exact .sln c k
  | sls id off len cap k a cap' hid hl hc ha hn hk =>
    exact .sls id off len cap k a cap' (h.kn id hid) hl hc (fun hv hp => by rw [h.at hid]; exact ha (h.lv id hid hv) hp)
      (fun hv hcn => by rw [h.mu id hid, h.sz id hid]; exact hn (h.lv id hid hv) hcn) (fun hv => by rw [h.mu id hid, h.sz id hid]; exact hk (h.lv id hid hv))
  | tsn len cap a cap' hl hc => exact .tsn len cap a cap' hl hc
  | tsz cap hc => exact .tsz cap hc
  | ts cs len cap cap' blk off c e fr us hl hcap hs hc hr => exact .ts cs len cap cap' blk off c e fr us hl hcap (h.snap _ _ hs) hc (VRs.mono h.dead hr)
  | mpn => exact .mpn
  | mps id r hid hr => exact .mps id r (h.kn id hid) (fun hl => by rw [h.mu id hid]; exact hr (h.lv id hid hl))
  | fn f a c ua uc ha hc => exact .fn f a c ua uc (VRs.mono h ha) (VRs.mono h hc)
  | nilfn => exact .nilfn
  | ifc t v u hv => exact .ifc t v u (VR.mono h hv)
  | nilifc => exact .nilifc
  | agg cs us hs => exact .agg cs us (VRs.mono h hs)
  | tup cs us hs => exact .tup cs us (VRs.mono h hs)
  | yl id l hid hl => exact .yl id l (h.kn id hid) (fun hv => by rw [h.mu id hid]; exact hl (h.lv id hid hv))
theorem VRs.mono {W W' : Vw} (h : Le W W') {l : List V} {m : List Value} (r : VRs W l m) : VRs W' l m := by
  cases r with
  | nil => exact .nil
  | cons v u l m hv hs => exact .cons v u l m (VR.mono h hv) (VRs.mono h hs)
end

theorem VRs.length {W : Vw} : ∀ {l : List V} {m : List Value}, VRs W l m → l.length = m.length
  | _, _, .nil => rfl
  | _, _, .cons _ _ _ _ _ hs => by simp [hs.length]

theorem VRs.append {W : Vw} : ∀ {l : List V} {m : List Value} {l' : List V} {m' : List Value}, VRs W l m → VRs W l' m' → VRs W (l ++ l') (m ++ m')
  | _, _, _, _, .nil, h => h
  | _, _, _, _, .cons v u l m hv hs, h => .cons v u _ _ hv (hs.append h)

theorem VRs.get {W : Vw} : ∀ {l : List V} {m : List Value}, VRs W l m → ∀ {j : Nat} {v : V}, l[j]? = some v → ∃ u, m[j]? = some u ∧ VR W v u
  | _, _, .nil, j, v, h => by simp at h
  | _, _, .cons v u l m hv hs, 0, v', h => by simp at h; subst h; exact ⟨u, rfl, hv⟩
  | _, _, .cons v u l m hv hs, j + 1, v', h => by
    simp at h
    obtain ⟨u', h1, h2⟩ := hs.get h
    exact ⟨u', by simpa using h1, h2⟩

theorem VRs.drop {W : Vw} : ∀ {l : List V} {m : List Value}, VRs W l m → ∀ (n : Nat), VRs W (l.drop n) (m.drop n)
  | _, _, .nil, n => by simp; exact .nil
  | _, _, h@(.cons _ _ _ _ _ _), 0 => by simpa using h
  | _, _, .cons _ _ _ _ _ hs, n + 1 => by simpa using hs.drop n

theorem VRs.take {W : Vw} : ∀ {l : List V} {m : List Value}, VRs W l m → ∀ (n : Nat), VRs W (l.take n) (m.take n)
  | _, _, .nil, n => by simp; exact .nil
  | _, _, .cons _ _ _ _ _ _, 0 => by simp; exact .nil
  | _, _, .cons v u _ _ hv hs, n + 1 => by simpa using .cons v u _ _ hv (hs.take n)

theorem VRs.of_get {W : Vw} : ∀ {l : List V} {m : List Value}, l.length = m.length → (∀ (j : Nat) (v : V) (u : Value), l[j]? = some v → m[j]? = some u → VR W v u) → VRs W l m
  | [], [], _, _ => .nil
  | v :: l, u :: m, hl, h => .cons v u l m (h 0 v u rfl rfl) (VRs.of_get (by simpa using hl) fun j v' u' h1 h2 => h (j + 1) v' u' (by simpa using h1) (by simpa using h2))
  | [], _ :: _, hl, _ => by simp at hl
  | _ :: _, [], hl, _ => by simp at hl

theorem VR.ofC (W : Vw) (c : Value) : VR W (ofC c) c := by
  unfold Go.Y.ofC
  split <;> first
    | exact .undef _
    | exact .b _
    | exact .i _ _
    | (rename_i s; have h := VR.s (W := W) s.data.toList; have e : (⟨s.data.toList.toArray⟩ : ByteArray) = s := by simp
       rw [e] at h; exact h)
    | exact .pn
    | exact .sln _ _
    | exact .mpn
    | exact .nilfn
    | exact .nilifc

def ORel (W : Vw) (w : World) (id : Nat) : YObj → Prop
  | .arr cs wr => ∃ (c : Array Value) (e : TypeId) (fr : Nat × Nat), w.heap[(W.mu id).1]? = some (.cells c e fr) ∧ c.size = W.sz id ∧ (W.mu id).2 + cs.length ≤ c.size ∧
      (∀ j v, cs[j]? = some v → ∃ u, c[(W.mu id).2 + j]? = some u ∧ VR W v u) ∧
      (∀ j, (if wr then (W.mu id).2 else (W.mu id).2 + cs.length) ≤ j → j < c.size → ¬ (fr.1 ≤ j ∧ j < fr.2))
  | .map es => ∃ (m : Array MapEntry) (clock : Nat), w.heap[(W.mu id).1]? = some (.map m clock) ∧ VRs W (es.map (·.1)) (m.toList.map (·.key)) ∧ VRs W (es.map (·.2)) (m.toList.map (·.val))
  | .siter l pos => w.heap[(W.mu id).1]? = some (.stringIter ⟨l.toArray⟩ pos)
  | .loop L => ∃ (fn : FuncId) (us : List Value) (df : Nat), w.heap[(W.mu id).1]? = some (.loop { state := L.st, pending := L.pend, fn, tmps := us.toArray, params := L.ps, assign := L.assign, body := L.body, defers := df }) ∧ VRs W L.env us

def TagR (W : Vw) (w : World) (p : Nat × TypeId) : Prop :=
  W.lv p.1 → (W.mu p.1).2 = 0 ∧ ∃ (c : Array Value) (fr : Nat × Nat), w.heap[(W.mu p.1).1]? = some (.cells c p.2 fr) ∧ fr.1 ≤ fr.2 ∧ fr.2 ≤ c.size

def Tabbed (W : Vw) : Prop := ∀ p, p ∈ tabs → ∃ (c : Array Value) (e : TypeId) (fr : Nat × Nat), W.snap p.1 = some (.cells c e fr) ∧ VRs W.dead p.2 c.toList
theorem Tabbed.mono {W W' : Vw} (h : Tabbed W) (hle : ∀ b o, W.snap b = some o → W'.snap b = some o) : Tabbed W' :=
  fun p hp => let ⟨c, e, fr, h1, h2⟩ := h p hp
    ⟨c, e, fr, hle _ _ h1, h2.mono (W := W.dead) (W' := W'.dead) ⟨fun _ h => h, fun _ h => h.elim, fun _ h => h.elim, hle, fun _ _ h => h.elim⟩⟩

structure HRel (W : Vw) (h : Heap) (w : World) : Prop where
  kn : ∀ id, W.kn id → (h.raw id).isSome
  lk : ∀ id, W.lv id → W.kn id
  lv : ∀ id, W.lv id ↔ (h.get id).isSome
  lt : ∀ id, (h.raw id).isSome → id < h.nx
  snap : ∀ b o, W.snap b = some o → w.heap[b]? = some o
  obj : ∀ id o, h.get id = some o → ORel W w id o
  inj : ∀ id id', W.lv id → W.lv id' → (W.mu id).1 = (W.mu id').1 → id = id'
  apart : ∀ id, W.lv id → W.snap (W.mu id).1 = none
  tg : ∀ p, p ∈ h.tg → W.kn p.1 ∧ TagR W w p
  gl : Tabbed W

def Vw.own (W : Vw) (b : Nat) : Prop := ∃ id, W.lv id ∧ (W.mu id).1 = b

structure Str (w w' : World) : Prop where
  os : w'.os = w.os
  tape : w'.tape = w.tape
  output : w'.output = w.output
theorem Str.refl (w : World) : Str w w := ⟨rfl, rfl, rfl⟩
theorem Str.trans {a b c : World} (h : Str a b) (g : Str b c) : Str a c := ⟨g.os.trans h.os, g.tape.trans h.tape, g.output.trans h.output⟩

structure Stp (W : Vw) (own : Nat → Prop) (w : World) (W' : Vw) (own' : Nat → Prop) (w' : World) : Prop where
  le : Le W W'
  size : w.heap.size ≤ w'.heap.size
  keep : ∀ b, b < w.heap.size → ¬ own b → w'.heap[b]? = w.heap[b]?
  owns : ∀ b, own' b → own b ∨ w.heap.size ≤ b
  new : ∀ b, W'.snap b ≠ none → W.snap b ≠ none ∨ own b ∨ w.heap.size ≤ b
  str : Str w w'

theorem Stp.refl (W : Vw) (own : Nat → Prop) (w : World) : Stp W own w W own w :=
  ⟨.refl W, Nat.le_refl _, fun _ _ _ => rfl, fun _ h => .inl h, fun _ h => .inl h, .refl w⟩

theorem Stp.trans {W0 W1 W2 : Vw} {o0 o1 o2 : Nat → Prop} {w0 w1 w2 : World} (h : Stp W0 o0 w0 W1 o1 w1) (g : Stp W1 o1 w1 W2 o2 w2) : Stp W0 o0 w0 W2 o2 w2 where
  le := h.le.trans g.le
  size := Nat.le_trans h.size g.size
  keep b hb hn := by
    rw [g.keep b (Nat.lt_of_lt_of_le hb h.size) (fun ho => (h.owns b ho).elim hn (fun hge => absurd hb (Nat.not_lt.2 hge)))]
    exact h.keep b hb hn
  owns b ho := by
    rcases g.owns b ho with h1 | h1
    · exact h.owns b h1
    · exact .inr (Nat.le_trans h.size h1)
  str := h.str.trans g.str
  new b hb := by
    rcases g.new b hb with h1 | h1 | h1
    · exact h.new b h1
    · rcases h.owns b h1 with h2 | h2
      · exact .inr (.inl h2)
      · exact .inr (.inr h2)
    · exact .inr (.inr (Nat.le_trans h.size h1))

def Same (w w' : World) : Prop := ∀ (b : Nat) (o : Obj), w.heap[b]? = some o → w'.heap[b]? = some o

theorem Same.refl (w : World) : Same w w := fun _ _ h => h
theorem Same.trans {a b c : World} (h : Same a b) (g : Same b c) : Same a c := fun x o hx => g x o (h x o hx)
theorem Same.size {a b : World} (h : Same a b) : a.heap.size ≤ b.heap.size := by
  by_cases hz : a.heap.size = 0
  · omega
  · have hlt : a.heap.size - 1 < a.heap.size := by omega
    have h1 := h (a.heap.size - 1) a.heap[a.heap.size - 1] (by simp [hlt])
    have := (Array.getElem?_eq_some_iff.1 h1).1
    omega

theorem ORel.same {W : Vw} {w w' : World} (h : Same w w') {id : Nat} {o : YObj} (r : ORel W w id o) : ORel W w' id o := by
  cases o with
  | arr cs wr => obtain ⟨c, e, fr, h1, h2⟩ := r; exact ⟨c, e, fr, h _ _ h1, h2⟩
  | map es => obtain ⟨m, k, h1, h2⟩ := r; exact ⟨m, k, h _ _ h1, h2⟩
  | siter l pos => exact h _ _ r
  | loop L => obtain ⟨fn, us, df, h1, h2⟩ := r; exact ⟨fn, us, df, h _ _ h1, h2⟩

theorem TagR.same {W : Vw} {w w' : World} (h : Same w w') {p : Nat × TypeId} (r : TagR W w p) : TagR W w' p := fun hl => by
  obtain ⟨h1, c, fr, h2, h3⟩ := r hl
  exact ⟨h1, c, fr, h _ _ h2, h3⟩
theorem TagR.mono {W W' : Vw} (hle : Le W W') {w : World} {p : Nat × TypeId} (hid : W.kn p.1) (r : TagR W w p) : TagR W' w p := fun hl => by
  obtain ⟨h1, c, fr, h2, h3⟩ := r (hle.lv p.1 hid hl)
  rw [← hle.mu p.1 hid] at h1 h2
  exact ⟨h1, c, fr, h2, h3⟩

theorem tabIn_mem : ∀ {l : List (Nat × List V)} {g : Nat} {cs : List V}, tabIn l g = some cs → (g, cs) ∈ l
  | [], _, _, h => by cases h
  | p :: r, g, cs, h => by
    unfold tabIn at h
    split at h
    · rename_i e; cases h; subst e; exact .head _
    · exact .tail _ (tabIn_mem h)
theorem HRel.tab {W : Vw} {h : Heap} {w : World} (r : HRel W h w) {g : Nat} {cs : List V} (hg : tabIn tabs g = some cs) : VR W (.tp cs) (.pointer (some ⟨g, 0, none⟩)) :=
  let ⟨c, e, fr, h1, h2⟩ := r.gl _ (tabIn_mem hg)
  .tp cs g 0 c e fr c.toList h1 (fun j u hj => by simpa using hj) h2

theorem HRel.same {W : Vw} {h : Heap} {w w' : World} (r : HRel W h w) (s : Same w w') : HRel W h w' :=
  ⟨r.kn, r.lk, r.lv, r.lt, fun b o hb => s b o (r.snap b o hb), fun id o ho => (r.obj id o ho).same s, r.inj, r.apart, fun p hp => ⟨(r.tg p hp).1, ((r.tg p hp).2).same s⟩, r.gl⟩

theorem ORel.mono {W W' : Vw} (hle : Le W W') {w : World} {id : Nat} {o : YObj} (hid : W.kn id) (r : ORel W w id o) : ORel W' w id o := by
  cases o with
  | arr cs wr =>
    obtain ⟨c, e, fr, h1, h2, h3, h4, h5⟩ := r
    refine ⟨c, e, fr, ?_, ?_, ?_, ?_, ?_⟩
    · rw [hle.mu id hid]; exact h1
    · rw [hle.sz id hid]; exact h2
    · rw [hle.mu id hid]; exact h3
    · intro j v hj; rw [hle.mu id hid]; obtain ⟨u, hu, hv⟩ := h4 j v hj; exact ⟨u, hu, hv.mono hle⟩
    · intro j; rw [hle.mu id hid]; exact h5 j
  | map es =>
    obtain ⟨m, k, h1, h2, h3⟩ := r
    exact ⟨m, k, by rw [hle.mu id hid]; exact h1, h2.mono hle, h3.mono hle⟩
  | siter l pos => unfold ORel at *; rw [hle.mu id hid]; exact r
  | loop L => obtain ⟨fn, us, df, h1, h2⟩ := r; exact ⟨fn, us, df, by rw [hle.mu id hid]; exact h1, h2.mono hle⟩

end Go.Y

/- Memory: what the model's loads and stores do, in terms of blocks; the relation of a frame. -/
namespace Go.Y

theorem splice_length {α : Type} : ∀ (l : List α) (n : Nat) (new : List α), n + new.length ≤ l.length → (splice l n new).length = l.length
  | l, 0, new, h => by simp [splice]; simp at h; omega
  | [], n + 1, new, h => by simp at h
  | v :: l, n + 1, new, h => by simp [splice]; exact splice_length l n new (by simp at h; omega)

theorem splice_get {α : Type} : ∀ (l : List α) (n : Nat) (new : List α) (j : Nat), n + new.length ≤ l.length →
    (splice l n new)[j]? = if n ≤ j ∧ j < n + new.length then new[j - n]? else l[j]?
  | l, 0, new, j, h => by
    simp only [splice, Nat.zero_le, true_and, Nat.zero_add, Nat.sub_zero]
    split
    · rename_i hj; rw [List.getElem?_append_left hj]
    · rename_i hj; rw [List.getElem?_append_right (by omega), List.getElem?_drop]; congr 1; omega
  | [], n + 1, new, j, h => by simp at h
  | v :: l, n + 1, new, 0, h => by simp [splice]
  | v :: l, n + 1, new, j + 1, h => by
    simp only [splice, List.getElem?_cons_succ]
    rw [splice_get l n new j (by simp at h; omega)]
    have e : (n ≤ j ∧ j < n + new.length) ↔ (n + 1 ≤ j + 1 ∧ j + 1 < n + 1 + new.length) := by omega
    by_cases hc : n ≤ j ∧ j < n + new.length
    · rw [if_pos hc, if_pos (e.1 hc)]; congr 1; omega
    · rw [if_neg hc, if_neg (fun x => hc (e.2 x))]

theorem VRs.splice {W : Vw} {l : List V} {m : List Value} (h : VRs W l m) {new : List V} {new' : List Value} (hn : VRs W new new') (n : Nat) (hf : n + new.length ≤ l.length) :
    VRs W (splice l n new) (splice m n new') := by
  have hl := h.length
  have hnl := hn.length
  refine VRs.of_get (by rw [splice_length _ _ _ hf, splice_length _ _ _ (by omega), hl]) fun j v u hv hu => ?_
  rw [splice_get _ _ _ _ hf] at hv
  rw [splice_get _ _ _ _ (by omega)] at hu
  rw [← hnl] at hu
  by_cases hc : n ≤ j ∧ j < n + new.length
  · rw [if_pos hc] at hv hu
    obtain ⟨u', hu', hr⟩ := hn.get hv
    rw [hu'] at hu; simp at hu; subst hu; exact hr
  · rw [if_neg hc] at hv hu
    obtain ⟨u', hu', hr⟩ := h.get hv
    rw [hu'] at hu; simp at hu; subst hu; exact hr

def _root_.Go.World.putB (w : World) (b : Nat) (o : Obj) : World := { w with heap := w.heap.setIfInBounds b o }

@[simp] theorem putB_size (w : World) (b : Nat) (o : Obj) : (w.putB b o).heap.size = w.heap.size := by simp [World.putB]
theorem putB_same (w : World) (b : Nat) (o : Obj) (h : b < w.heap.size) : (w.putB b o).heap[b]? = some o := by simp [World.putB, h]
theorem putB_other (w : World) (b c : Nat) (o : Obj) (h : b ≠ c) : (w.putB b o).heap[c]? = w.heap[c]? := by
  simp [World.putB, Array.getElem?_setIfInBounds_ne h]

theorem lt_of_block {w : World} {b : Nat} {o : Obj} (h : w.heap[b]? = some o) : b < w.heap.size := (Array.getElem?_eq_some_iff.1 h).1

@[simp] theorem alloc_size (w : World) (o : Obj) : (w.alloc o).heap.size = w.heap.size + 1 := World.size_alloc ..
theorem alloc_at (w : World) (o : Obj) : (w.alloc o).heap[w.heap.size]? = some o := by
  show (w.heap.push o)[w.heap.size]? = some o
  simp
theorem alloc_other (w : World) (o : Obj) (b : Nat) (h : b ≠ w.heap.size) : (w.alloc o).heap[b]? = w.heap[b]? := by
  show (w.heap.push o)[b]? = w.heap[b]?
  rw [Array.getElem?_push]
  split
  · rename_i h'; exact absurd h' h
  · rfl
theorem alloc_same (w : World) (o : Obj) : Same w (w.alloc o) := fun b o' h => by rw [alloc_other _ _ _ (by have := lt_of_block h; omega)]; exact h

theorem add_at (b o n : Nat) : (⟨b, o, none⟩ : Addr).add n = ⟨b, o + n, none⟩ := by
  unfold Addr.add
  split
  · rename_i h; simp [h]
  · rfl

theorem cell_of {w : World} {b : Nat} {c : Array Value} {e : TypeId} {fr : Nat × Nat} (h : w.heap[b]? = some (.cells c e fr)) (j : Nat) : w.cell? ⟨b, j, none⟩ = c[j]? := by
  simp [World.cell?, h]

theorem frozen_of {w : World} {b : Nat} {c : Array Value} {e : TypeId} {fr : Nat × Nat} (h : w.heap[b]? = some (.cells c e fr)) (j : Nat) : w.frozen? ⟨b, j, none⟩ = (decide (fr.1 ≤ j) && decide (j < fr.2)) := by
  obtain ⟨lo, hi⟩ := fr
  simp [World.frozen?, h]

def CellsW (w : World) (a : Addr) (us : List Value) : Prop := ∀ j u, us[j]? = some u → w.cell? (a.add j) = some u

theorem CellsW.same {w w' : World} (s : Same w w') {a : Addr} {us : List Value} (h : CellsW w a us) : CellsW w' a us := by
  intro j u hj
  have h1 := h j u hj
  unfold World.cell? at *
  split at h1
  · rename_i c e fr hb
    rw [s _ _ hb]
    exact h1
  · cases h1

theorem CellsW.of_block {w : World} {b o : Nat} {c : Array Value} {e : TypeId} {fr : Nat × Nat} (h : w.heap[b]? = some (.cells c e fr)) {us : List Value}
    (hc : ∀ j u, us[j]? = some u → c[o + j]? = some u) : CellsW w ⟨b, o, none⟩ us := by
  intro j u hj
  rw [add_at, cell_of h]
  exact hc j u hj

section
variable {P : Program}

theorem run_typeInfo {t : TypeId} {i : TypeInfo} (h : P.info? t = some i) (w : World) : (typeInfo t).run P w = .ok i w := by simp [typeInfo, h]
theorem run_underlying' {t : TypeId} {d : TypeDesc} (h : P.underlying t = some d) (w : World) : (underlying t).run P w = .ok d w := by simp [underlying, h]
theorem run_sizeOf {t : TypeId} {i : TypeInfo} (h : P.info? t = some i) (w : World) : (sizeOf t).run P w = .ok i.size w := by simp [sizeOf, typeInfo, h]
theorem run_zeroValue {t : TypeId} {i : TypeInfo} {z : Value} (h : P.info? t = some i) (hz : i.zero = some z) (w : World) : (zeroValue t).run P w = .ok z w := by simp [zeroValue, typeInfo, h, hz]

def aggD : TypeDesc → Bool
  | .struct _ | .array _ _ => true
  | _ => false

theorem run_isAgg {t : TypeId} {d : TypeDesc} (h : P.underlying t = some d) (w : World) : (isAgg t).run P w = .ok (aggD d) w := by
  simp only [isAgg, Sem.run_bind, run_underlying' h, Result.andThen_ok]
  cases d <;> rfl

theorem run_loadVarY {t : TypeId} {d : TypeDesc} {i : TypeInfo} (hd : P.underlying t = some d) (hi : P.info? t = some i) (w : World) (a : Addr) (us : List Value)
    (hl : us.length = i.size) (hc : CellsW w a us) (u : Value) (hu : if aggD d then u = .agg us.toArray else us = [u]) : (loadVar t a).run P w = .ok u w := by
  simp only [loadVar, Sem.run_bind, run_isAgg hd, Result.andThen_ok]
  cases hg : aggD d
  · simp only [hg, Bool.false_eq_true, if_false] at hu ⊢
    have h0 := hc 0 u (by simp [hu])
    simp [Addr.add] at h0
    simp [h0]
  · simp only [hg, if_true] at hu ⊢
    simp only [Sem.run_bind, run_sizeOf hi, Result.andThen_ok, ← hl, run_loadCells_list w a us hc, Sem.run_pure]
    rw [hu]

theorem run_storeCellsY (b o : Nat) (e : TypeId) (fr : Nat × Nat) : ∀ (vs : List Value) (i : Nat) (cur : Array Value) (w : World), w.heap[b]? = some (.cells cur e fr) →
    o + i + vs.length ≤ cur.size → (∀ j, o + i ≤ j → j < o + i + vs.length → ¬ (fr.1 ≤ j ∧ j < fr.2)) → (∀ v ∈ vs, v.oneCell' = true) →
    (storeCells ⟨b, o, none⟩ vs i).run P w = .ok () (w.putB b (.cells (splice cur.toList (o + i) vs).toArray e fr))
  | [], i, cur, w, hb, hl, _, _ => by
    have hs : splice cur.toList (o + i) [] = cur.toList := by
      apply List.ext_getElem?
      intro j
      rw [splice_get _ _ _ _ (by simpa using hl)]
      split
      · rename_i h; simp at h; omega
      · rfl
    simp only [storeCells, Sem.run_pure, hs]
    congr 1
    have : w.heap.setIfInBounds b (.cells cur e fr) = w.heap := by
      apply Array.ext'
      apply List.ext_getElem?
      intro j
      have := @Array.getElem?_setIfInBounds _ w.heap b j (.cells cur e fr)
      simp only [Array.getElem?_toList]
      rw [this]
      split
      · rename_i h; subst h; split
        · exact hb.symm
        · rename_i h'; exact absurd (lt_of_block hb) h'
      · rfl
    simp [World.putB, this]
  | v :: vs, i, cur, w, hb, hl, hf, h1 => by
    simp only [List.length_cons] at hl
    have hv : v.oneCell' = true := h1 v (by simp)
    have hlt : o + i < cur.size := by omega
    have hcell : w.cell? ⟨b, o + i, none⟩ = some cur[o + i] := by rw [cell_of hb]; simp [hlt]
    have hfz : w.frozen? ⟨b, o + i, none⟩ = false := by
      rw [frozen_of hb]
      have := hf (o + i) (by omega) (by simp)
      simp only [Bool.and_eq_false_imp, decide_eq_true_eq, decide_eq_false_iff_not]
      intro h2 h3; exact this ⟨h2, h3⟩
    have hw : w.setCell ⟨b, o + i, none⟩ v = w.putB b (.cells (cur.setIfInBounds (o + i) v) e fr) := by
      unfold World.setCell World.putB
      congr 1
      apply Array.ext'
      apply List.ext_getElem?
      intro j
      simp only [Array.getElem?_toList, Array.getElem?_modify, Array.getElem?_setIfInBounds]
      by_cases hj : b = j
      · subst hj
        have hx := Array.getElem?_eq_some_iff.1 hb
        simp [lt_of_block hb, hx.2]
      · simp [hj]
    simp only [storeCells, Sem.run_bind, add_at, run_store P w _ v _ hv, hcell, hfz, Bool.false_eq_true, if_false, Result.andThen_ok, hw]
    have ih := run_storeCellsY b o e fr vs (i + 1) (cur.setIfInBounds (o + i) v) (w.putB b (.cells (cur.setIfInBounds (o + i) v) e fr)) (putB_same _ _ _ (lt_of_block hb))
      (by simp; omega) (fun j h2 h3 => hf j (by omega) (by simp; omega)) (fun x hx => h1 x (by simp [hx]))
    rw [ih]
    congr 1
    unfold World.putB
    simp only [Array.setIfInBounds_setIfInBounds]
    congr 4
    apply List.ext_getElem?
    intro j
    rw [splice_get _ _ _ _ (by simp; omega), splice_get _ _ _ _ (by simp; omega)]
    simp only [List.length_cons, Array.getElem?_toList, Array.getElem?_setIfInBounds]
    by_cases hj : j = o + i
    · subst hj
      have e1 : ¬ (o + (i + 1) ≤ o + i ∧ o + i < o + (i + 1) + vs.length) := by omega
      have e2 : o + i ≤ o + i ∧ o + i < o + i + (vs.length + 1) := by omega
      rw [if_neg e1, if_pos e2]
      simp [hlt]
    · by_cases hc : o + (i + 1) ≤ j ∧ j < o + (i + 1) + vs.length
      · have e2 : o + i ≤ j ∧ j < o + i + (vs.length + 1) := by omega
        rw [if_pos hc, if_pos e2]
        obtain ⟨k, hk⟩ : ∃ k, j = o + i + (k + 1) := ⟨j - (o + i + 1), by omega⟩
        subst hk
        rw [show o + i + (k + 1) - (o + (i + 1)) = k by omega, show o + i + (k + 1) - (o + i) = k + 1 by omega]
        simp
      · have e2 : ¬ (o + i ≤ j ∧ j < o + i + (vs.length + 1)) := by omega
        rw [if_neg hc, if_neg e2]
        have : ¬ (o + i = j) := fun h => hj h.symm
        rw [if_neg this]
end

def BoxRel (W : Vw) (w : World) (cs : List V) (u : Value) : Prop :=
  ∃ (b : Nat) (c : Array Value) (e : TypeId), u = .pointer (some ⟨b, 0, none⟩) ∧ w.heap[b]? = some (.cells c e (0, 0)) ∧ VRs W cs c.toList ∧ W.snap b = none ∧ ¬ W.own b

def SRel (W : Vw) (w : World) (v : V) (u : Value) : Prop :=
  match v with
  | .lb cs => BoxRel W w cs u
  | .rf => True
  | v => VR W v u

def boxAt (σ : St) (a : Act) (t b : Nat) : Prop := (∃ cs, σ.env[t]? = some (.lb cs)) ∧ a.tmps[t]? = some (.pointer (some ⟨b, 0, none⟩))

def mkD (r : Nat) : Deferred := { target := .collected r, args := #[] }
theorem mkD_inj {r s : Nat} (h : mkD r = mkD s) : r = s := by
  simp only [mkD, Deferred.mk.injEq, Target.collected.injEq, and_true] at h; exact h

structure Marks (W : Vw) (a : Act) (w : World) : Prop where
  nd : a.defers.Nodup
  at_ : ∀ d ∈ a.defers, ∃ r, d = mkD r ∧ w.heap[r]? = some (.deferred (some [])) ∧ W.snap r = none ∧ ¬ W.own r

theorem Marks.same {W : Vw} {a : Act} {w w' : World} (s : Same w w') (h : Marks W a w) : Marks W a w' :=
  ⟨h.nd, fun d hd => let ⟨r, h1, h2, h3, h4⟩ := h.at_ d hd; ⟨r, h1, s _ _ h2, h3, h4⟩⟩
theorem Marks.act {W : Vw} {a a' : Act} {w : World} (h : Marks W a w) (e : a'.defers = a.defers) : Marks W a' w := ⟨by rw [e]; exact h.nd, by rw [e]; exact h.at_⟩
theorem Marks.none {W : Vw} {a : Act} {w : World} (e : a.defers = []) : Marks W a w := ⟨by rw [e]; exact .nil, by rw [e]; intro d hd; cases hd⟩
theorem Marks.turn {W W' : Vw} {a : Act} {w w' : World} (h : Marks W a w) (hk : ∀ r, w.heap[r]? = some (.deferred (some [])) → W.snap r = Option.none → ¬ W.own r → w'.heap[r]? = w.heap[r]? ∧ W'.snap r = Option.none ∧ ¬ W'.own r) : Marks W' a w' :=
  ⟨h.nd, fun d hd => let ⟨r, h1, h2, h3, h4⟩ := h.at_ d hd; let ⟨k1, k2, k3⟩ := hk r h2 h3 h4; ⟨r, h1, by rw [k1]; exact h2, k2, k3⟩⟩

structure Rel (W : Vw) (σ : St) (a : Act) (w : World) : Prop where
  heap : HRel W σ.h w
  size : a.tmps.size = σ.env.length
  env : ∀ (t : Nat) (v : V), σ.env[t]? = some v → ∃ u, a.tmps[t]? = some u ∧ SRel W w v u
  box : ∀ t t' b, boxAt σ a t b → boxAt σ a t' b → t = t'
  refs : ∀ (d s o : Nat), (d, s, o) ∈ σ.refs → σ.env[d]? = some .rf → ∀ b, boxAt σ a s b → a.tmps[d]? = some (.pointer (some ⟨b, o, none⟩))
  defers : Marks W a w

def mine (W : Vw) (σ : St) (a : Act) (b : Nat) : Prop := W.own b ∨ (∃ t, boxAt σ a t b) ∨ mkD b ∈ a.defers

theorem SRel.same {W : Vw} {w w' : World} (s : Same w w') {v : V} {u : Value} (h : SRel W w v u) : SRel W w' v u := by
  cases v <;> first
    | exact h
    | (obtain ⟨b, c, e, hu, hb, h2⟩ := h; exact ⟨b, c, e, hu, s _ _ hb, h2⟩)

theorem Rel.same {W : Vw} {σ : St} {a : Act} {w w' : World} (s : Same w w') (h : Rel W σ a w) : Rel W σ a w' :=
  ⟨h.heap.same s, h.size, fun t v ht => let ⟨u, h1, h2⟩ := h.env t v ht; ⟨u, h1, h2.same s⟩, h.box, h.refs, h.defers.same s⟩

theorem SRel.plain {W : Vw} {w : World} {v : V} {u : Value} (h : SRel W w v u) : VR W v.plain u := by
  cases v <;> first | exact .undef u | exact h

theorem Rel.ev {W : Vw} {σ : St} {a : Act} {w : World} (h : Rel W σ a w) (x : Operand) : VR W (ev σ.env x) (a.eval x) := by
  cases x with
  | tmp t =>
    simp only [Go.Y.ev, Act.eval]
    cases ht : σ.env[t]? with
    | none => simp [List.getD, ht, V.plain]; exact .undef _
    | some v =>
      obtain ⟨u, h1, h2⟩ := h.env t v ht
      simp [List.getD, ht, h1]
      exact h2.plain
  | const v => exact VR.ofC W v
  | global g =>
    simp only [Go.Y.ev]
    split
    · rename_i cs hg; exact h.heap.tab hg
    · exact .undef _
  | func f => exact .fn (.func f) [] [] [] [] .nil .nil

end Go.Y
