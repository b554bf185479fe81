/- Memory that nobody writes any more; a call that starts from nothing and leaves nothing but what is read-only. -/
import Derived.Test.YtfnpgefoikffdaaDoorYCode
namespace Go.Y

mutual
/-- What a value comes to, once its memory is read-only. -/
inductive Frz (h : Heap) : V → V → Prop
  | undef : Frz h .undef .undef
  | b (x : Bool) : Frz h (.b x) (.b x)
  | i (k : IntKind) (n : Int) : Frz h (.i k n) (.i k n)
  | s (l : List UInt8) : Frz h (.s l) (.s l)
  | pn : Frz h (.p none) (.p none)
  | sln (c : Option Nat) (k : Nat) (c' : Option Nat) (hc : ∀ x, c' = some x → x = 0) : Frz h (.sl none 0 c k) (.ts [] 0 c')
  | sln0 (c : Option Nat) (k : Nat) : Frz h (.sl none 0 c k) (.sl none 0 c k)
  | sl (id off len : Nat) (cap : Option Nat) (k : Nat) (cs : List V) (wr : Bool) (c1 cs' : List V) (cap' : Option Nat) (hg : h.get id = some (.arr cs wr)) (ht : takeX (len * k) (cs.drop off) = some c1)
      (hp : ∀ x, cap' = some x → cap = some x) (hk : k ≠ 0) (hc : FrzL h c1 cs') : Frz h (.sl (some (id, off)) len cap k) (.ts cs' len cap')
  | ts (cs : List V) (len : Nat) (cap cap' : Option Nat) (hp : ∀ x, cap' = some x → cap = some x) : Frz h (.ts cs len cap) (.ts cs len cap')
  | tp (cs : List V) : Frz h (.tp cs) (.tp cs)
  | mpn : Frz h (.mp none) (.mp none)
  | fn (f : Fn) (a c a' c' : List V) (ha : FrzL h a a') (hc : FrzL h c c') : Frz h (.fn f a c) (.fn f a' c')
  | nilfn : Frz h .nilfn .nilfn
  | ifc (t : TypeId) (v v' : V) (hv : Frz h v v') : Frz h (.ifc t v) (.ifc t v')
  | nilifc : Frz h .nilifc .nilifc
  | agg (cs cs' : List V) (hc : FrzL h cs cs') : Frz h (.agg cs) (.agg cs')
  | tup (cs cs' : List V) (hc : FrzL h cs cs') : Frz h (.tup cs) (.tup cs')
inductive FrzL (h : Heap) : List V → List V → Prop
  | nil : FrzL h [] []
  | cons (v v' : V) (l l' : List V) (hv : Frz h v v') (hl : FrzL h l l') : FrzL h (v :: l) (v' :: l')
end

theorem FrzL.length {h : Heap} : ∀ {l l' : List V}, FrzL h l l' → l.length = l'.length
  | _, _, .nil => rfl
  | _, _, .cons _ _ _ _ _ hl => by simp [hl.length]

theorem FrzL.append {h : Heap} : ∀ {l l' m m' : List V}, FrzL h l l' → FrzL h m m' → FrzL h (l ++ m) (l' ++ m')
  | _, _, _, _, .nil, g => g
  | _, _, _, _, .cons _ _ _ _ hv hl, g => .cons _ _ _ _ hv (hl.append g)

theorem takeX_length : ∀ {n : Nat} {l c : List V}, takeX n l = some c → c.length = n
  | 0, _, c, h => by simp [takeX] at h; simp [← h]
  | n + 1, [], c, h => by simp [takeX] at h
  | n + 1, v :: l, c, h => by
    simp only [takeX, Option.map_eq_some_iff] at h
    obtain ⟨d, h1, rfl⟩ := h
    simp [takeX_length h1]

theorem takeX_get' : ∀ {n : Nat} {l c : List V}, takeX n l = some c → ∀ (j : Nat) (v : V), c[j]? = some v → l[j]? = some v
  | 0, _, c, h, j, v, hj => by simp [takeX] at h; subst h; simp at hj
  | n + 1, [], c, h, j, v, hj => by simp [takeX] at h
  | n + 1, x :: l, c, h, j, v, hj => by
    simp only [takeX, Option.map_eq_some_iff] at h
    obtain ⟨d, h1, rfl⟩ := h
    cases j with
    | zero => simpa using hj
    | succ j => simp at hj ⊢; exact takeX_get' h1 j v hj

/-- Another view, in which this memory is read-only. -/
structure Fz (W : Vw) (h : Heap) (w : World) (W' : Vw) : Prop where
  lv : ∀ id, (h.get id).isSome → W.lv id
  obj : ∀ id o, h.get id = some o → ORel W w id o
  snap : ∀ b o, W.snap b = some o → W'.snap b = some o
  now : ∀ id, (h.get id).isSome → W'.snap (W.mu id).1 = w.heap[(W.mu id).1]?

theorem dead_snap {W W' : Vw} (h : ∀ b o, W.snap b = some o → W'.snap b = some o) : Le W.dead W'.dead :=
  ⟨fun _ h => h, fun _ h => h.elim, fun _ h => h.elim, h, fun _ h => h.elim⟩

mutual
theorem Frz.vr {W W' : Vw} {h : Heap} {w : World} (z : Fz W h w W') {v v' : V} (f : Frz h v v') {u : Value} (r : VR W v u) : VR W' v' u := by
  cases f with
  | undef => exact .undef _
  | b x => cases r; exact .b _
  | i k n => cases r; exact .i _ _
  | s l => cases r; exact .s _
  | pn => cases r; exact .pn
  | sln c k c' hc => cases r; exact .tsz _ hc
  | sln0 c k => cases r; exact .sln _ _
  | sl id off len cap k cs wr c1 cs' cap' hg ht hp hk hc =>
    cases r with
    | sls _ _ _ _ _ a cp hid hl hcp ha hn hkk =>
      have hlv : W.lv id := z.lv id (by simp [hg])
      have hcp' : ∀ x, cap' = some x → cp = x := fun x hx => hcp x (hp x hx)
      by_cases h0 : len = 0
      · have e1 := takeX_length ht
        have e2 := hc.length
        have : cs' = [] := by
          apply List.eq_nil_of_length_eq_zero
          rw [← e2, e1, h0, Nat.zero_mul]
        subst this
        exact .tsn _ _ _ _ hl hcp'
      · have haa := ha hlv (by omega)
        obtain ⟨c, e, fr, g1, g2, g3, g4, g5⟩ := z.obj id _ hg
        have hnow := z.now id (by simp [hg])
        rw [g1] at hnow
        have key : ∀ (l : List V) (o : Nat), (∀ j v, l[j]? = some v → ∃ u, c[o + j]? = some u ∧ VR W v u) → ∃ us, VRs W l us ∧ ∀ j u, us[j]? = some u → c[o + j]? = some u := by
          intro l
          induction l with
          | nil => intro o _; exact ⟨[], .nil, fun j u hj => by simp at hj⟩
          | cons x l ih =>
            intro o hx
            obtain ⟨u, q1, q2⟩ := hx 0 x rfl
            obtain ⟨us, q3, q4⟩ := ih (o + 1) (fun j v hj => by
              obtain ⟨u', p1, p2⟩ := hx (j + 1) v (by simpa using hj)
              exact ⟨u', by rw [← p1]; congr 1; omega, p2⟩)
            refine ⟨u :: us, .cons _ _ _ _ q2 q3, fun j u' hj => ?_⟩
            cases j with
            | zero => simp at hj; subst hj; exact q1
            | succ j => simp at hj; rw [← q4 j u' hj]; congr 1; omega
        obtain ⟨us, q1, q2⟩ := key c1 ((W.mu id).2 + off) (fun j v hj => by
          have hj2 := takeX_get' ht j v hj
          rw [List.getElem?_drop] at hj2
          obtain ⟨u, p1, p2⟩ := g4 _ _ hj2
          exact ⟨u, by rw [← p1]; congr 1; omega, p2⟩)
        subst haa
        exact .ts _ _ _ _ _ _ c e fr us hl hcp' hnow q2 (FrzL.vr (W' := W'.dead) ⟨z.lv, z.obj, z.snap, z.now⟩ hc q1)
  | ts cs len cap cap' hp =>
    cases r with
    | tsn _ _ a cp hl hcp => exact .tsn _ _ _ _ hl (fun x hx => hcp x (hp x hx))
    | tsz _ hcp => exact .tsz _ (fun x hx => hcp x (hp x hx))
    | ts _ _ _ cp blk off c e fr us hl hcp hs hcc hr => exact .ts _ _ _ _ blk off c e fr us hl (fun x hx => hcp x (hp x hx)) (z.snap _ _ hs) hcc (hr.mono (dead_snap z.snap))
  | tp cs =>
    cases r with
    | tpn a => exact .tpn a
    | tp _ blk off c e fr us hs hcc hr => exact .tp _ blk off c e fr us (z.snap _ _ hs) hcc (hr.mono (dead_snap z.snap))
  | mpn => cases r; exact .mpn
  | fn f a c a' c' ha hc => cases r with | fn _ _ _ ua uc h1 h2 => exact .fn _ _ _ _ _ (FrzL.vr z ha h1) (FrzL.vr z hc h2)
  | nilfn => cases r; exact .nilfn
  | ifc t v v' hv => cases r with | ifc _ _ u h1 => exact .ifc _ _ _ (Frz.vr z hv h1)
  | nilifc => cases r; exact .nilifc
  | agg cs cs' hc => cases r with | agg _ us h1 => exact .agg _ _ (FrzL.vr z hc h1)
  | tup cs cs' hc => cases r with | tup _ us h1 => exact .tup _ _ (FrzL.vr z hc h1)
theorem FrzL.vr {W W' : Vw} {h : Heap} {w : World} (z : Fz W h w W') {l l' : List V} (f : FrzL h l l') {us : List Value} (r : VRs W l us) : VRs W' l' us := by
  cases f with
  | nil => cases r; exact .nil
  | cons v v' l l' hv hl => cases r with | cons _ u _ m h1 h2 => exact .cons _ _ _ _ (Frz.vr z hv h1) (FrzL.vr z hl h2)
end

theorem get_empty (id : Nat) : Heap.empty.get id = none := rfl
theorem raw_empty (id : Nat) : Heap.empty.raw id = none := rfl

/-- Nothing of abstract memory in it. -/
def Cold (l : List V) : Prop := FrzL Heap.empty l l

theorem Cold.vrs {l : List V} (c : Cold l) {W W' : Vw} (hs : ∀ b o, W.snap b = some o → W'.snap b = some o) {us : List Value} (r : VRs W l us) : VRs W' l us :=
  FrzL.vr (h := Heap.empty) (w := default) ⟨fun id h => by simp [get_empty] at h, fun id o h => by simp [get_empty] at h, hs, fun id h => by simp [get_empty] at h⟩ c r

/-- A call that reads what is read-only, and hands back what is read-only. -/
def PTr (Y : YP) (f : FuncId) (args : List V) (P : V → Prop) : Prop :=
  ∀ (W : Vw) (w : World) (us : List Value), (∀ b o, W.snap b = some o → w.heap[b]? = some o) → Tabbed W → VRs W args us → Calls Y.P f us.toArray w fun e w' =>
    ∃ (r : V) (W' : Vw) (u : Value), P r ∧ e = .returned u ∧ VR W' r u ∧ (∀ b o, W.snap b = some o → W'.snap b = some o) ∧ (∀ b o, W'.snap b = some o → w'.heap[b]? = some o) ∧
      (∀ b, W'.snap b ≠ none → W.snap b ≠ none ∨ w.heap.size ≤ b) ∧ w.heap.size ≤ w'.heap.size ∧ (∀ b, b < w.heap.size → w'.heap[b]? = w.heap[b]?) ∧ (∀ W'', (∀ b o, W'.snap b = some o → W''.snap b = some o) → VR W'' r u) ∧ Str w w'

theorem PTr.mono {Y : YP} {f : FuncId} {args : List V} {P P' : V → Prop} (h : PTr Y f args P) (hp : ∀ r, P r → P' r) : PTr Y f args P' :=
  fun W w us hs hg hv => (h W w us hs hg hv).mono fun _ _ ⟨r, W', u, h1, h2⟩ => ⟨r, W', u, hp _ h1, h2⟩

structure PCon (Y : YP) (f : FuncId) (args : List V) (P : V → Prop) : Prop where
  body : hasBody Y f
  tr : PTr Y f args P

theorem PCon.mono {Y : YP} {f : FuncId} {args : List V} {P P' : V → Prop} (h : PCon Y f args P) (hp : ∀ r, P r → P' r) : PCon Y f args P' := ⟨h.body, h.tr.mono hp⟩

/-- The view in which all of memory is read-only. -/
noncomputable def Vw.all (W : Vw) (w : World) : Vw := by
  classical exact { W with snap := fun b => if W.own b then w.heap[b]? else W.snap b, lv := fun _ => False }

theorem HRel.all {W : Vw} {h : Heap} {w : World} (r : HRel W h w) : Fz W h w (W.all w) where
  lv id hi := (r.lv id).2 hi
  obj := r.obj
  snap b o hb := by
    unfold Vw.all; simp only
    split
    · rename_i ho
      obtain ⟨id, h1, rfl⟩ := ho
      rw [r.apart id h1] at hb; cases hb
    · exact hb
  now id hi := by
    unfold Vw.all; simp only
    rw [if_pos ⟨id, (r.lv id).2 hi, rfl⟩]

theorem PTr.of {Y : YP} {f : FuncId} {args : List V} {Q : V → Heap → Prop} {P : V → Prop} (hc : Cold args) (ht : CallTr Y f args Heap.empty Q) (hq : ∀ v h, Q v h → ∃ r, Frz h v r ∧ P r) : PTr Y f args P := by
  intro W w us hs hgl hv
  let W0 : Vw := { mu := fun _ => (0, 0), sz := fun _ => 0, snap := W.snap, lv := fun _ => False, kn := fun _ => False }
  have h0 : HRel W0 Heap.empty w := ⟨fun _ h => h.elim, fun _ h => h.elim, fun id => by simp [W0, get_empty], fun id h => by simp [raw_empty] at h, hs, fun id o h => by simp [get_empty] at h, fun _ _ h => h.elim, fun _ h => h.elim, fun p hp => (nomatch hp), hgl.mono fun _ _ h => h⟩
  have hown : ∀ b, ¬ W0.own b := fun b ⟨_, h, _⟩ => h
  refine (ht W0 w us h0 (Cold.vrs (W := W) (W' := W0) hc (fun _ _ h => h) hv)).mono ?_
  rintro e w' ⟨v, h', W', u, hQ, rfl, hr, hvr, hst⟩
  obtain ⟨r, hf, hp⟩ := hq v h' hQ
  have z := hr.all
  refine ⟨r, W'.all w', u, hp, rfl, hf.vr z hvr, fun b o hb => z.snap b o (hst.le.snap b o hb), ?_, ?_, hst.size, fun b hb => hst.keep b hb (hown b), fun W'' hW => ?_, hst.str⟩
  · intro b o hb
    unfold Vw.all at hb; simp only at hb
    split at hb
    · exact hb
    · exact hr.snap b o hb
  · intro b hb
    unfold Vw.all at hb; simp only at hb
    split at hb
    · rename_i ho
      rcases hst.owns b ho with h1 | h1
      · exact absurd h1 (hown b)
      · exact .inr h1
    · rcases hst.new b hb with h1 | h1 | h1
      · exact .inl h1
      · exact absurd h1 (hown b)
      · exact .inr h1
  · exact hf.vr ⟨z.lv, z.obj, fun b o hb => hW b o (z.snap b o hb), fun id hi => by
      have h1 := z.now id hi
      have h2 : ∃ o, w'.heap[(W'.mu id).1]? = some o := by
        obtain ⟨o, ho⟩ := Option.isSome_iff_exists.1 hi
        have := hr.obj id o ho
        cases o with
        | arr cs wr => obtain ⟨c, e, fr, q, _⟩ := this; exact ⟨_, q⟩
        | map es => obtain ⟨m, k, q, _⟩ := this; exact ⟨_, q⟩
        | siter l pos => exact ⟨_, this⟩
        | loop L => obtain ⟨fn, us, df, q, _⟩ := this; exact ⟨_, q⟩
      obtain ⟨o, ho⟩ := h2
      rw [ho] at h1 ⊢
      exact hW _ _ h1⟩ hvr

/-! ### Values without memory -/
def flat1 : V → Bool
  | .b _ | .i _ _ | .s _ | .p none | .mp none | .nilfn | .nilifc | .fn _ [] [] | .sl none 0 _ _ => true
  | _ => false
def flats1 : List V → Bool
  | [] => true
  | v :: r => flat1 v && flats1 r
def flat2 : V → Bool
  | .agg cs => flats1 cs
  | v => flat1 v
def flats2 : List V → Bool
  | [] => true
  | v :: r => flat2 v && flats2 r
def flatV : V → Bool
  | .tup cs => flats2 cs
  | v => flat2 v

theorem flat1_ok {v : V} (h : flat1 v = true) (h0 : Heap) : Frz h0 v v := by
  unfold flat1 at h
  split at h <;> first | exact .b _ | exact .i _ _ | exact .s _ | exact .pn | exact .mpn | exact .nilfn | exact .nilifc | exact .fn _ _ _ _ _ .nil .nil | exact .sln0 _ _ | cases h
theorem flats1_ok (h0 : Heap) : ∀ {l : List V}, flats1 l = true → FrzL h0 l l
  | [], _ => .nil
  | v :: r, h => by simp only [flats1, Bool.and_eq_true] at h; exact .cons _ _ _ _ (flat1_ok h.1 h0) (flats1_ok h0 h.2)
theorem flat2_ok {v : V} (h : flat2 v = true) (h0 : Heap) : Frz h0 v v := by
  unfold flat2 at h
  split at h
  · exact .agg _ _ (flats1_ok h0 h)
  · exact flat1_ok h h0
theorem flats2_ok (h0 : Heap) : ∀ {l : List V}, flats2 l = true → FrzL h0 l l
  | [], _ => .nil
  | v :: r, h => by simp only [flats2, Bool.and_eq_true] at h; exact .cons _ _ _ _ (flat2_ok h.1 h0) (flats2_ok h0 h.2)
theorem flatV_ok {v : V} (h : flatV v = true) (h0 : Heap) : Frz h0 v v := by
  unfold flatV at h
  split at h
  · exact .tup _ _ (flats2_ok h0 h)
  · exact flat2_ok h h0

theorem flat1_vr {v : V} (h : flat1 v = true) {W W' : Vw} {u : Value} (r : VR W v u) : VR W' v u := by
  unfold flat1 at h
  split at h <;> first | (cases r; first | exact .b _ | exact .i _ _ | exact .s _ | exact .pn | exact .mpn | exact .nilfn | exact .nilifc | (rename_i h1 h2; cases h1; cases h2; exact .fn _ _ _ _ _ .nil .nil) | exact .sln _ _) | cases h
theorem flats1_vr {W W' : Vw} : ∀ {l : List V} {us : List Value}, flats1 l = true → VRs W l us → VRs W' l us
  | [], _, _, r => by cases r; exact .nil
  | v :: l, _, h, r => by
    simp only [flats1, Bool.and_eq_true] at h
    cases r with | cons _ _ _ _ h1 h2 => exact .cons _ _ _ _ (flat1_vr h.1 h1) (flats1_vr h.2 h2)
theorem flat2_vr {v : V} (h : flat2 v = true) {W W' : Vw} {u : Value} (r : VR W v u) : VR W' v u := by
  unfold flat2 at h
  split at h
  · cases r with | agg _ _ h1 => exact .agg _ _ (flats1_vr h h1)
  · exact flat1_vr h r
theorem flats2_vr {W W' : Vw} : ∀ {l : List V} {us : List Value}, flats2 l = true → VRs W l us → VRs W' l us
  | [], _, _, r => by cases r; exact .nil
  | v :: l, _, h, r => by
    simp only [flats2, Bool.and_eq_true] at h
    cases r with | cons _ _ _ _ h1 h2 => exact .cons _ _ _ _ (flat2_vr h.1 h1) (flats2_vr h.2 h2)
theorem flatV_vr {v : V} (h : flatV v = true) {W W' : Vw} {u : Value} (r : VR W v u) : VR W' v u := by
  unfold flatV at h
  split at h
  · cases r with | tup _ _ h1 => exact .tup _ _ (flats2_vr h h1)
  · exact flat2_vr h r

def cold1 : V → Bool
  | .ts _ _ _ | .tp _ => true
  | v => flat1 v
def colds1 : List V → Bool
  | [] => true
  | v :: r => cold1 v && colds1 r
def cold2 : V → Bool
  | .agg cs => colds1 cs
  | v => cold1 v
def coldAll : List V → Bool
  | [] => true
  | v :: r => cold2 v && coldAll r

/-! ### The call, from a frame -/
/-- A view with more that is read-only. -/
def Vw.more (W : Vw) (n : Nat) (s : Nat → Option Obj) : Vw := { W with snap := fun b => if n ≤ b then s b else W.snap b }

theorem more_le {W : Vw} {w : World} {s : Nat → Option Obj} (hs : ∀ b o, W.snap b = some o → s b = some o) : Le W (W.more w.heap.size s) :=
  ⟨fun _ h => h, fun _ _ => rfl, fun _ _ => rfl, fun b o hb => by
    unfold Vw.more; simp only
    split
    · exact hs b o hb
    · exact hb, fun _ _ h => h⟩

section
variable {Y : YP} {σ : St} {W : Vw} {a : Act} {w : World}

/-- What there was is there, and more is read-only. -/
theorem Rel.more (h : Rel W σ a w) {w' : World} {s : Nat → Option Obj} (hs : ∀ b o, W.snap b = some o → s b = some o) (hz : w.heap.size ≤ w'.heap.size)
    (hk : ∀ b, b < w.heap.size → w'.heap[b]? = w.heap[b]?) (hn : ∀ b o, s b = some o → w'.heap[b]? = some o) (hstr : Str w w') :
    Rel (W.more w.heap.size s) σ a w' ∧ Stp W (mine W σ a) w (W.more w.heap.size s) (mine (W.more w.heap.size s) σ a) w' := by
  have hle := more_le (w := w) hs
  have hsame : Same w w' := fun b o hb => by rw [hk b (lt_of_block hb)]; exact hb
  have hlt : ∀ id, W.lv id → (W.mu id).1 < w.heap.size := by
    intro id hl
    obtain ⟨o, ho⟩ := Option.isSome_iff_exists.1 ((h.heap.lv id).1 hl)
    have := h.heap.obj id o ho
    cases o with
    | arr cs wr => obtain ⟨c, e, fr, q, _⟩ := this; exact lt_of_block q
    | map es => obtain ⟨m, k, q, _⟩ := this; exact lt_of_block q
    | siter l pos => exact lt_of_block this
    | loop L => obtain ⟨fn, us, df, q, _⟩ := this; exact lt_of_block q
  refine ⟨⟨⟨h.heap.kn, h.heap.lk, h.heap.lv, h.heap.lt, ?_, ?_, h.heap.inj, ?_, fun p hp => ⟨(h.heap.tg p hp).1, (((h.heap.tg p hp).2).same hsame).mono hle (h.heap.tg p hp).1⟩, h.heap.gl.mono hle.snap⟩, h.size, ?_, h.box, h.refs, h.defers.turn fun r hr h1 h2 => ⟨by rw [hk r (lt_of_block hr)], by
    have := lt_of_block hr
    simp only [Vw.more]
    rw [if_neg (by omega)]
    exact h1, h2⟩⟩, ⟨hle, hz, fun b hb _ => hk b hb, fun b hb => .inl hb, ?_, hstr⟩⟩
  · intro b o hb
    simp only [Vw.more] at hb
    split at hb
    · exact hn b o hb
    · exact hsame b o (h.heap.snap b o hb)
  · intro id o ho
    exact ((h.heap.obj id o ho).same hsame).mono hle (h.heap.known (by simp [ho]))
  · intro id hl
    have := hlt id hl
    simp only [Vw.more]
    rw [if_neg (by omega)]
    exact h.heap.apart id hl
  · intro t v ht
    obtain ⟨u, h1, h2⟩ := h.env t v ht
    refine ⟨u, h1, ?_⟩
    cases v <;> first
      | exact VR.mono hle h2
      | exact h2
      | (obtain ⟨b, c, e, hu, hb, hv, hsn, ho⟩ := h2
         refine ⟨b, c, e, hu, hsame _ _ hb, VRs.mono hle hv, ?_, ho⟩
         have := lt_of_block hb
         simp only [Vw.more]
         rw [if_neg (by omega)]
         exact hsn)
  · intro b hb
    simp only [Vw.more] at hb
    split at hb
    · rename_i hge; exact .inr (.inr hge)
    · exact .inl hb

/-- A call of such a function. 'c': what is handed in is read-only; or what comes back has no memory. -/
theorem pcall (h : Rel W σ a w) {f : FuncId} {args args' : List V} {P : V → Prop} (hp : PTr Y f args' P) (hf : FrzL σ.h args args') (hc : Cold args ∧ args' = args ∨ ∀ r, P r → flatV r = true) {us : List Value} (hv : VRs W args us) :
    Calls Y.P f us.toArray w fun e w' => ∃ (r : V) (W' : Vw) (u : Value), P r ∧ e = .returned u ∧ Rel W' σ a w' ∧ VR W' r u ∧ Stp W (mine W σ a) w W' (mine W' σ a) w' ∧ ∀ b, mine W' σ a b → mine W σ a b := by
  rcases hc with ⟨hc, rfl⟩ | hc
  · refine (hp W w us h.heap.snap h.heap.gl hv).mono ?_
    rintro e w' ⟨r, W', u, h1, rfl, _, h3, h4, h5, h6, h7, h8, h9⟩
    obtain ⟨g1, g2⟩ := h.more (s := W'.snap) h3 h6 h7 h4 h9
    refine ⟨r, _, u, h1, rfl, g1, h8 _ ?_, g2, fun b hb => hb⟩
    intro b o hb
    simp only [Vw.more]
    split
    · exact hb
    · rename_i hlt
      rcases h5 b (by simp [hb]) with h9' | h9'
      · cases hsn : W.snap b with
        | none => exact absurd hsn h9'
        | some o' => rw [h3 b o' hsn] at hb; exact hb
      · exact absurd h9' hlt
  · have z := h.heap.all
    refine (hp (W.all w) w us (fun b o hb => ?_) (h.heap.gl.mono z.snap) (hf.vr z hv)).mono ?_
    · unfold Vw.all at hb; simp only at hb
      split at hb
      · exact hb
      · exact h.heap.snap b o hb
    rintro e w' ⟨r, W', u, h1, rfl, h2, h3, h4, h5, h6, h7, h8, h9⟩
    obtain ⟨g1, g2⟩ := h.more (s := W.snap) (fun _ _ h => h) h6 h7 (fun b o hb => by
      rw [h7 b (lt_of_block (h.heap.snap b o hb))]; exact h.heap.snap b o hb) h9
    exact ⟨r, _, u, h1, rfl, g1, flatV_vr (hc r h1) h2, g2, fun b hb => hb⟩
end

/-! ### Some objects become read-only -/
def killD (h : Heap) (D : List Nat) : Heap := D.foldl (fun h i => if (h.get i).isSome then h.set i none else h) h
def takeD (h : Heap) (D : List Nat) : Heap := D.foldl (fun acc i => acc.set i (h.get i)) .empty

theorem killD_get : ∀ (D : List Nat) (h : Heap) (j : Nat), (killD h D).get j = if j ∈ D then none else h.get j
  | [], h, j => by simp [killD]
  | i :: D, h, j => by
    have := killD_get D (if (h.get i).isSome then h.set i none else h) j
    unfold killD at *
    rw [List.foldl_cons, this]
    by_cases h1 : j ∈ D
    · simp [h1]
    · rw [if_neg h1]
      cases hg : (h.get i).isSome with
      | true =>
        simp only [if_true, Heap.get_set]
        by_cases h2 : j = i
        · simp [h2]
        · simp [h1, h2]
      | false =>
        simp only [Bool.false_eq_true, if_false]
        by_cases h2 : j = i
        · subst h2
          simp only [List.mem_cons, true_or, if_true]
          simpa using hg
        · simp [h1, h2]
theorem killD_tg : ∀ (D : List Nat) (h : Heap), (killD h D).tg = h.tg
  | [], h => rfl
  | i :: D, h => by
    have := killD_tg D (if (h.get i).isSome then h.set i none else h)
    unfold killD at *
    rw [List.foldl_cons, this]; split <;> rfl
theorem killD_nx : ∀ (D : List Nat) (h : Heap), (killD h D).nx = h.nx
  | [], h => rfl
  | i :: D, h => by
    have := killD_nx D (if (h.get i).isSome then h.set i none else h)
    unfold killD at *
    rw [List.foldl_cons, this]; split <;> rfl
theorem killD_raw : ∀ (D : List Nat) (h : Heap) (j : Nat), ((killD h D).raw j).isSome = (h.raw j).isSome
  | [], h, j => rfl
  | i :: D, h, j => by
    have := killD_raw D (if (h.get i).isSome then h.set i none else h) j
    unfold killD at *
    rw [List.foldl_cons, this]
    split
    · rename_i hg
      rw [Heap.raw_set]
      split
      · rename_i e; subst e; rw [Heap.raw_of hg]; rfl
      · rfl
    · rfl

theorem takeD_aux (h : Heap) : ∀ (D : List Nat) (acc : Heap) (j : Nat), (D.foldl (fun acc i => acc.set i (h.get i)) acc).get j = if j ∈ D then h.get j else acc.get j
  | [], acc, j => by simp
  | i :: D, acc, j => by
    rw [List.foldl_cons, takeD_aux h D _ j, Heap.get_set]
    by_cases h1 : j ∈ D
    · simp [h1]
    · by_cases h2 : j = i
      · subst h2; simp
      · simp [h1, h2]
theorem takeD_get (h : Heap) (D : List Nat) (j : Nat) : (takeD h D).get j = if j ∈ D then h.get j else none := by
  unfold takeD
  rw [takeD_aux]
  rfl

noncomputable def Vw.frzD (W : Vw) (D : List Nat) (w : World) : Vw := by
  classical exact { W with snap := fun b => if ∃ i, i ∈ D ∧ W.lv i ∧ (W.mu i).1 = b then w.heap[b]? else W.snap b, lv := fun id => W.lv id ∧ id ∉ D }

theorem HRel.block {W : Vw} {h : Heap} {w : World} (hr : HRel W h w) {id : Nat} (hl : W.lv id) : ∃ o, w.heap[(W.mu id).1]? = some o := by
  obtain ⟨o, ho⟩ := Option.isSome_iff_exists.1 ((hr.lv id).1 hl)
  have := hr.obj id o ho
  cases o with
  | arr cs wr => obtain ⟨c, e, fr, q, _⟩ := this; exact ⟨_, q⟩
  | map es => obtain ⟨m, k, q, _⟩ := this; exact ⟨_, q⟩
  | siter l pos => exact ⟨_, this⟩
  | loop L => obtain ⟨fn, us, df, q, _⟩ := this; exact ⟨_, q⟩

theorem frzD_le {W : Vw} {h : Heap} {w : World} (hr : HRel W h w) (D : List Nat) : Le W (W.frzD D w) where
  kn _ h := h
  mu _ _ := rfl
  sz _ _ := rfl
  snap b o hb := by
    unfold Vw.frzD; simp only
    split
    · rename_i ho
      obtain ⟨i, _, h2, rfl⟩ := ho
      rw [hr.apart i h2] at hb; cases hb
    · exact hb
  lv _ _ h := h.1

theorem HRel.frzD {W : Vw} {h : Heap} {w : World} (hr : HRel W h w) (D : List Nat) : HRel (W.frzD D w) (killD h D) w ∧ Stp W W.own w (W.frzD D w) (W.frzD D w).own w := by
  have hle := frzD_le hr D
  refine ⟨⟨fun j hj => by rw [killD_raw]; exact hr.kn j hj, fun j hj => hr.lk j hj.1, fun j => ?_, fun j hj => by rw [killD_nx]; rw [killD_raw] at hj; exact hr.lt j hj, fun b o hb => ?_, fun j o hj => ?_, fun j k h1 h2 => hr.inj j k h1.1 h2.1, fun j hj => ?_, fun p hp => ?tg, hr.gl.mono hle.snap⟩,
    ⟨hle, Nat.le_refl _, fun b _ _ => rfl, fun b hb => ?_, fun b hb => ?_, .refl w⟩⟩
  case tg =>
    have hp' : p ∈ h.tg := by rw [← killD_tg D h]; exact hp
    exact ⟨(hr.tg p hp').1, ((hr.tg p hp').2).mono hle (hr.tg p hp').1⟩
  · rw [killD_get]
    show (W.lv j ∧ j ∉ D) ↔ _
    by_cases e : j ∈ D
    · simp [e]
    · simp [e, hr.lv j]
  · unfold Vw.frzD at hb; simp only at hb
    split at hb
    · exact hb
    · exact hr.snap b o hb
  · rw [killD_get] at hj
    by_cases e : j ∈ D
    · simp [e] at hj
    · simp [e] at hj
      exact (hr.obj j o hj).mono hle (hr.known (by simp [hj]))
  · unfold Vw.frzD; simp only
    rw [if_neg]
    · exact hr.apart j hj.1
    · rintro ⟨i, h1, h2, h3⟩
      have := hr.inj i j h2 hj.1 h3
      subst this
      exact hj.2 h1
  · obtain ⟨id, h1, h2⟩ := hb
    exact .inl ⟨id, h1.1, h2⟩
  · unfold Vw.frzD at hb; simp only at hb
    split at hb
    · rename_i ho
      obtain ⟨i, _, h2, h3⟩ := ho
      exact .inr (.inl ⟨i, h2, h3⟩)
    · exact .inl hb

theorem Fz.of {W : Vw} {h : Heap} {w : World} (hr : HRel W h w) (D : List Nat) : Fz W (takeD h D) w (W.frzD D w) where
  lv id hi := by
    rw [takeD_get] at hi
    split at hi
    · exact (hr.lv id).2 hi
    · simp at hi
  obj id o ho := by
    rw [takeD_get] at ho
    split at ho
    · exact hr.obj id o ho
    · cases ho
  snap := (frzD_le hr D).snap
  now id hi := by
    rw [takeD_get] at hi
    split at hi
    · rename_i hm
      unfold Vw.frzD; simp only
      rw [if_pos ⟨id, hm, (hr.lv id).2 hi, rfl⟩]
    · simp at hi

mutual
/-- A value, some of whose memory becomes read-only. -/
inductive FrzA (h : Heap) : V → V → Prop
  | same (v : V) : FrzA h v v
  | frz (v v' : V) (hf : Frz h v v') : FrzA h v v'
  | agg (cs cs' : List V) (hc : FrzAL h cs cs') : FrzA h (.agg cs) (.agg cs')
inductive FrzAL (h : Heap) : List V → List V → Prop
  | nil : FrzAL h [] []
  | cons (v v' : V) (l l' : List V) (hv : FrzA h v v') (hl : FrzAL h l l') : FrzAL h (v :: l) (v' :: l')
end

mutual
theorem FrzA.vr {W W' : Vw} {h : Heap} {w : World} (z : Fz W h w W') (hle : Le W W') {v v' : V} (f : FrzA h v v') {u : Value} (r : VR W v u) : VR W' v' u := by
  cases f with
  | same => exact r.mono hle
  | frz _ _ hf => exact hf.vr z r
  | agg cs cs' hc => cases r with | agg _ us h1 => exact .agg _ _ (FrzAL.vr z hle hc h1)
theorem FrzAL.vr {W W' : Vw} {h : Heap} {w : World} (z : Fz W h w W') (hle : Le W W') {l l' : List V} (f : FrzAL h l l') {us : List Value} (r : VRs W l us) : VRs W' l' us := by
  cases f with
  | nil => cases r; exact .nil
  | cons v v' l l' hv hl => cases r with | cons _ u _ m h1 h2 => exact .cons _ _ _ _ (FrzA.vr z hle hv h1) (FrzAL.vr z hle hl h2)
end
end Go.Y
