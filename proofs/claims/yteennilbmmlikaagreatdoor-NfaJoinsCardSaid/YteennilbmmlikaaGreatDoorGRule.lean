/- Rules for pieces of code whose slots differ. -/
import Derived.Test.YteennilbmmlikaaGreatDoorYRow
namespace Go.Y

def pick (so sl : List Nat) (vs : List V) : List V := sl.map fun s => match lookV (so.zip vs) s with | some v => v | none => .undef

theorem lookV_mem {σ : St} : ∀ {so : List Nat} {s : Nat}, s ∈ so → lookV (so.zip (so.map fun i => lv i σ)) s = some (lv s σ)
  | x :: r, s, h => by
    simp only [List.map_cons, List.zip_cons_cons, lookV]
    by_cases hx : x = s
    · rw [if_pos hx, hx]
    · rw [if_neg hx]
      exact lookV_mem (by rcases List.mem_cons.1 h with h | h; exact absurd h.symm hx; exact h)

theorem pick_ok {σ : St} {so sl : List Nat} (hs : sl.all so.contains = true) {vs : List V} (hv : (so.map fun i => lv i σ) = vs) : (sl.map fun i => lv i σ) = pick so sl vs := by
  subst hv
  unfold pick
  apply List.map_congr_left
  intro s hm
  have := List.all_eq_true.1 hs s hm
  rw [lookV_mem (by simpa using this)]

section
variable {Y : YP}
theorem view_rule {n : Nat} (sl : List Nat) {σ : St} {l : List Code} {Q : Out → St → Prop} {vs : List V} (hc : l.isEmpty = false) (hn : σ.env.length = n) (hv : (sl.map fun i => lv i σ) = vs) (h : TriL Y l ⟨mk n (sl.zip vs), [], σ.h⟩ Q) : TriL Y l σ Q :=
  triL_view (fun e => by rw [e] at hc; cases hc) hn hv rfl h

def RoundW (Y : YP) (n : Nat) (so sl : List Nat) (I : Nat → List V → Heap → Prop) (m id : Nat) (r : List Code) (Q : Out → St → Prop) (o : Out) (len : Nat) (vs : List V) (h : Heap) : Prop :=
  match o with
  | .normal => len = n ∧ ∃ m', m' < m ∧ I m' (pick so sl vs) h
  | .exit j => if j = id then len = n ∧ ∃ sl' : List Nat, sl'.all so.contains = true ∧ TriL Y r ⟨mk n (sl'.zip (pick so sl' vs)), [], h⟩ Q else AtV so Q (.exit j) len vs h
  | .ret => AtV so Q .ret len vs h

theorem loop2 {n : Nat} (sl so : List Nat) {σ : St} {l : List Code} {Q : Out → St → Prop} (hsub : sl.all so.contains = true) (hl : isLoop l = true) (I : Nat → List V → Heap → Prop) (m0 : Nat) (hn : σ.env.length = n)
    (h0 : I m0 (sl.map fun i => lv i σ) σ.h)
    (round : ∀ m vs h, I m vs h → TriL Y (flat (loopB l)) ⟨mk n (sl.zip vs), [], h⟩ (VQ so (RoundW Y n so sl I m (loopId l) (l.drop 1) Q))) : TriL Y l σ Q := by
  obtain ⟨h1, h2⟩ := isLoop_eq hl
  rw [h1]
  refine triL_block (tri_loop (fun m τ => τ.env.length = n ∧ I m (sl.map fun i => lv i τ) τ.h) (n := m0) ⟨hn, h0⟩ ?_)
  rintro m τ ⟨hτ, hI⟩
  have hr := triL_flat (c := loopB l) (r := []) (by rw [List.append_nil]; exact round m _ _ hI)
  refine (tri_view hτ rfl rfl hr).mono ?_
  intro o σ' ho
  cases o with
  | normal =>
    obtain ⟨h1, m', h2, h3⟩ := ho
    exact ⟨m', h2, h1, by rw [pick_ok hsub rfl]; exact h3⟩
  | exit j =>
    have ho : RoundW Y n so sl I m (loopId l) (l.drop 1) Q (.exit j) σ'.env.length (so.map fun i => lv i σ') σ'.h := ho
    simp only [RoundW] at ho
    by_cases hj : j = loopId l
    · rw [if_pos hj] at ho
      simp only [if_pos hj]
      obtain ⟨h3, sl', h4, h5⟩ := ho
      exact triL_view h2 h3 (pick_ok h4 rfl) rfl h5
    · rw [if_neg hj] at ho
      simp only [if_neg hj]
      exact ho σ' rfl rfl rfl
  | ret => exact ho σ' rfl rfl rfl

theorem roundW_exit {n : Nat} {so sl : List Nat} {I : Nat → List V → Heap → Prop} {m id j : Nat} {r : List Code} {Q : Out → St → Prop} {len : Nat} {vs : List V} {h : Heap} (sl' : List Nat) (hj : j = id) (hn : len = n) (hs : sl'.all so.contains = true)
    (ht : TriL Y r ⟨mk n (sl'.zip (pick so sl' vs)), [], h⟩ Q) : RoundW Y n so sl I m id r Q (.exit j) len vs h := by
  simp only [RoundW]
  rw [if_pos hj]
  exact ⟨hn, sl', hs, ht⟩

def isLoopE : List Code → Bool
  | [.block _ (.loop _)] => true
  | _ => false
theorem isLoopE_eq {l : List Code} (h : isLoopE l = true) : l = [.block (loopId l) (.loop (loopB l))] := by
  unfold isLoopE at h
  split at h
  · rfl
  · cases h

def RoundE (n : Nat) (so sl : List Nat) (I : Nat → List V → Heap → Prop) (m id : Nat) (Q : Out → St → Prop) (o : Out) (len : Nat) (vs : List V) (h : Heap) : Prop :=
  match o with
  | .normal => len = n ∧ ∃ m', m' < m ∧ I m' (pick so sl vs) h
  | .exit j => if j = id then AtV so Q .normal len vs h else AtV so Q (.exit j) len vs h
  | .ret => AtV so Q .ret len vs h

theorem loopE {n : Nat} (sl so : List Nat) {σ : St} {l : List Code} {Q : Out → St → Prop} (hsub : sl.all so.contains = true) (hl : isLoopE l = true) (I : Nat → List V → Heap → Prop) (m0 : Nat) (hn : σ.env.length = n)
    (h0 : I m0 (sl.map fun i => lv i σ) σ.h)
    (round : ∀ m vs h, I m vs h → TriL Y (flat (loopB l)) ⟨mk n (sl.zip vs), [], h⟩ (VQ so (RoundE n so sl I m (loopId l) Q))) : TriL Y l σ Q := by
  rw [isLoopE_eq hl]
  refine triL_block (tri_loop (fun m τ => τ.env.length = n ∧ I m (sl.map fun i => lv i τ) τ.h) (n := m0) ⟨hn, h0⟩ ?_)
  rintro m τ ⟨hτ, hI⟩
  have hr := triL_flat (c := loopB l) (r := []) (by rw [List.append_nil]; exact round m _ _ hI)
  refine (tri_view hτ rfl rfl hr).mono ?_
  intro o σ' ho
  cases o with
  | normal =>
    obtain ⟨h1, m', h2, h3⟩ := ho
    exact ⟨m', h2, h1, by rw [pick_ok hsub rfl]; exact h3⟩
  | exit j =>
    have ho : RoundE n so sl I m (loopId l) Q (.exit j) σ'.env.length (so.map fun i => lv i σ') σ'.h := ho
    simp only [RoundE] at ho
    by_cases hj : j = loopId l
    · rw [if_pos hj] at ho
      simp only [if_pos hj]
      exact ho σ' rfl rfl rfl
    · rw [if_neg hj] at ho
      simp only [if_neg hj]
      exact ho σ' rfl rfl rfl
  | ret => exact ho σ' rfl rfl rfl

def ContW (Y : YP) (n : Nat) (so : List Nat) (id : Nat) (r : List Code) (Q : Out → St → Prop) (o : Out) (len : Nat) (vs : List V) (h : Heap) : Prop :=
  match o with
  | .normal => len = n ∧ ∃ sl' : List Nat, sl'.all so.contains = true ∧ TriL Y r ⟨mk n (sl'.zip (pick so sl' vs)), [], h⟩ Q
  | .exit j => if j = id then len = n ∧ ∃ sl' : List Nat, sl'.all so.contains = true ∧ TriL Y r ⟨mk n (sl'.zip (pick so sl' vs)), [], h⟩ Q else AtV so Q (.exit j) len vs h
  | .ret => AtV so Q .ret len vs h

theorem block2 {n : Nat} (so : List Nat) {σ : St} {l : List Code} {Q : Out → St → Prop} (hl : isBlock l = true)
    (h : TriL Y (flat (blockB l)) σ (VQ so (ContW Y n so (blockId l) (l.drop 1) Q))) : TriL Y l σ Q := by
  obtain ⟨h1, h2⟩ := isBlock_eq hl
  rw [h1]
  have h3 := triL_flat (c := blockB l) (r := []) (by rw [List.append_nil]; exact h)
  refine triL_block (Tri.mono h3 ?_)
  intro o σ' ho
  cases o with
  | normal => obtain ⟨g1, sl', g2, g3⟩ := ho; exact triL_view h2 g1 (pick_ok g2 rfl) rfl g3
  | ret => exact ho σ' rfl rfl rfl
  | exit j =>
    have ho : ContW Y n so (blockId l) (l.drop 1) Q (.exit j) _ _ _ := ho
    simp only [ContW] at ho
    by_cases hj : j = blockId l
    · rw [if_pos hj] at ho
      simp only [if_pos hj]
      obtain ⟨g1, sl', g2, g3⟩ := ho
      exact triL_view h2 g1 (pick_ok g2 rfl) rfl g3
    · rw [if_neg hj] at ho
      simp only [if_neg hj]
      exact ho σ' rfl rfl rfl

theorem at_pick {n : Nat} {so sl : List Nat} {K : Out → Nat → List V → Heap → Prop} {o : Out} {vs : List V} {h : Heap} (hs : sl.all so.contains = true) (hk : K o n (pick so sl vs) h) : AtV so (VQ sl K) o n vs h := by
  rintro τ rfl h2 rfl
  show K o τ.env.length (sl.map fun i => lv i τ) τ.h
  rw [pick_ok hs h2]
  exact hk

def Two (so1 : List Nat) (vs1 : List V) (so2 : List Nat) (vs2 : List V) : Prop := ∃ τ : St, (so1.map fun i => lv i τ) = vs1 ∧ (so2.map fun i => lv i τ) = vs2
end

theorem fin_at {Y : YP} {fn : Func} {so : List Nat} {P : V → Heap → Prop} {o : Out} {n : Nat} {vs : List V} {h : Heap} {v : V} (ho : o = .normal ∨ o = .ret) (hv : resV Y fn (so.zip vs) = some v) (hp : P v h) : AtV so (FinS Y fn P) o n vs h :=
  fin_ok ⟨ho, v, hv, hp⟩
end Go.Y

/- A nil slice may be taken for an empty one that is read-only. -/
namespace Go.Y

def Wk0 (v v' : V) : Prop := v = v' ∨ (∃ c k c', v = .sl none 0 c k ∧ v' = .ts [] 0 c' ∧ ∀ x, c' = some x → x = 0) ∨ ∃ cs n c, v = .ts cs n c ∧ v' = .ts cs n none
inductive WkL : List V → List V → Prop
  | nil : WkL [] []
  | cons (v v' : V) (l l' : List V) (h : Wk0 v v') (hl : WkL l l') : WkL (v :: l) (v' :: l')
def Wk (v v' : V) : Prop := Wk0 v v' ∨ ∃ cs cs', v = .lb cs ∧ v' = .lb cs' ∧ WkL cs cs'

theorem Wk0.refl (v : V) : Wk0 v v := .inl rfl
theorem Wk.refl (v : V) : Wk v v := .inl (.inl rfl)
theorem Wk0.vr {W : Vw} {v v' : V} (h : Wk0 v v') {u : Value} (r : VR W v u) : VR W v' u := by
  rcases h with rfl | ⟨c, k, c', rfl, rfl, hc⟩ | ⟨cs, n, c, rfl, rfl⟩
  · exact r
  · cases r; exact .tsz _ hc
  · cases r with
    | tsn _ _ a cap' hl hc => exact .tsn _ _ a cap' hl (fun c h => by cases h)
    | tsz _ hc => exact .tsz _ (fun c h => by cases h)
    | ts _ _ _ cap' blk off c e fr us hl hcap hs hc hr => exact .ts _ _ _ cap' blk off c e fr us hl (fun c h => by cases h) hs hc hr
theorem WkL.vr {W : Vw} : ∀ {l l' : List V} {us : List Value}, WkL l l' → VRs W l us → VRs W l' us
  | _, _, _, .nil, r => by cases r; exact .nil
  | _, _, _, .cons _ _ _ _ h hl, r => by cases r with | cons _ _ _ _ h1 h2 => exact .cons _ _ _ _ (h.vr h1) (hl.vr h2)

inductive WkA : List V → List V → Prop
  | nil : WkA [] []
  | one (v v' : V) (l l' : List V) (h : Wk0 v v') (hl : WkA l l') : WkA (v :: l) (v' :: l')
  | agg (cs cs' l l' : List V) (h : WkL cs cs') (hl : WkA l l') : WkA (.agg cs :: l) (.agg cs' :: l')
theorem WkA.vr {W : Vw} : ∀ {l l' : List V} {us : List Value}, WkA l l' → VRs W l us → VRs W l' us
  | _, _, _, .nil, r => by cases r; exact .nil
  | _, _, _, .one _ _ _ _ h hl, r => by cases r with | cons _ _ _ _ h1 h2 => exact .cons _ _ _ _ (h.vr h1) (hl.vr h2)
  | _, _, _, .agg _ _ _ _ h hl, r => by cases r with | cons _ _ _ _ h1 h2 => cases h1 with | agg _ _ h1 => exact .cons _ _ _ _ (.agg _ _ (h.vr h1)) (hl.vr h2)
theorem PCon.wk {Y : YP} {f : FuncId} {args args' : List V} {P : V → Prop} (hw : WkA args args') (h : PCon Y f args' P) : PCon Y f args P :=
  ⟨h.body, fun W w us hs hg hv => h.tr W w us hs hg (hw.vr hv)⟩
theorem WkL.refl : ∀ l : List V, WkL l l
  | [] => .nil
  | v :: l => .cons _ _ _ _ (.refl v) (WkL.refl l)

inductive WkE : List V → List V → Prop
  | nil : WkE [] []
  | cons (v v' : V) (l l' : List V) (h : Wk v v') (hl : WkE l l') : WkE (v :: l) (v' :: l')
theorem WkE.refl : ∀ l : List V, WkE l l
  | [] => .nil
  | v :: l => .cons _ _ _ _ (.refl v) (WkE.refl l)
theorem WkE.length : ∀ {l l' : List V}, WkE l l' → l.length = l'.length
  | _, _, .nil => rfl
  | _, _, .cons _ _ _ _ _ hl => by simp [hl.length]
theorem WkE.get : ∀ {l l' : List V}, WkE l l' → ∀ {t : Nat} {v' : V}, l'[t]? = some v' → ∃ v, l[t]? = some v ∧ Wk v v'
  | _, _, .nil, t, v', h => by simp at h
  | _, _, .cons v v1 l l' hv hl, 0, v', h => by simp at h; subst h; exact ⟨v, rfl, hv⟩
  | _, _, .cons v v1 l l' hv hl, t + 1, v', h => by simp at h; simpa using hl.get h
theorem WkE.set : ∀ {l l' : List V} (t : Nat) {v v' : V}, WkE l l' → Wk v v' → WkE (l.set t v) (l'.set t v')
  | _, _, _, _, _, .nil, _ => .nil
  | _, _, 0, _, _, .cons _ _ _ _ _ hl, h => .cons _ _ _ _ h hl
  | _, _, t + 1, _, _, .cons _ _ _ _ h1 hl, h => .cons _ _ _ _ h1 (hl.set t h)
theorem WkE.mk {n : Nat} : ∀ (sl : List Nat) {vs vs' : List V}, WkE vs vs' → WkE (mk n (sl.zip vs)) (mk n (sl.zip vs')) := by
  intro sl vs vs' h
  have key : ∀ (sl : List Nat) {vs vs' : List V} {e e' : List V}, WkE vs vs' → WkE e e' → WkE ((sl.zip vs).foldl (fun e p => e.set p.1 p.2) e) ((sl.zip vs').foldl (fun e p => e.set p.1 p.2) e') := by
    intro sl
    induction sl with
    | nil => intro vs vs' e e' _ he; simpa using he
    | cons s sl ih =>
      intro vs vs' e e' h he
      cases h with
      | nil => simpa using he
      | cons v v' l l' hv hl => simp only [List.zip_cons_cons, List.foldl_cons]; exact ih hl (he.set s hv)
  exact key sl h (.refl _)

theorem tri_wk {Y : YP} {e e' : List V} {h : Heap} {c : Code} {Q : Out → St → Prop} (hw : WkE e e') (ht : Tri Y c ⟨e', [], h⟩ Q) : Tri Y c ⟨e, [], h⟩ Q := by
  intro W a w W0 own0 w0 hr hs
  have hbox : ∀ t b, boxAt ⟨e', [], h⟩ a t b → boxAt ⟨e, [], h⟩ a t b := by
    rintro t b ⟨⟨cs, h1⟩, h2⟩
    obtain ⟨v, h3, h4⟩ := hw.get h1
    rcases h4 with (rfl | ⟨_, _, _, _, h5, _⟩ | ⟨_, _, _, _, h5⟩) | ⟨cs0, _, rfl, _, _⟩
    · exact ⟨⟨cs, h3⟩, h2⟩
    · cases h5
    · cases h5
    · exact ⟨⟨cs0, h3⟩, h2⟩
  have hr' : Rel W ⟨e', [], h⟩ a w := by
    refine ⟨hr.heap, by rw [hr.size]; exact hw.length, fun t v ht => ?_, fun t t' b h1 h2 => hr.box t t' b (hbox _ _ h1) (hbox _ _ h2), fun _ _ _ hm => by simp at hm, hr.defers⟩
    obtain ⟨v0, h3, h4⟩ := hw.get ht
    obtain ⟨u, h5, h6⟩ := hr.env t v0 h3
    refine ⟨u, h5, ?_⟩
    rcases h4 with h4 | ⟨cs, cs', rfl, rfl, hl⟩
    · rcases h4 with rfl | h4
      · exact h6
      · have h7 := Wk0.vr (v := v0) (v' := v) (.inr h4) (W := W) (u := u)
        rcases h4 with ⟨c, k, c', rfl, rfl, hc⟩ | ⟨cs, n, c, rfl, rfl⟩
        · exact h7 h6
        · exact h7 h6
    · obtain ⟨b, cc, et, hu, hb, hv, hsn⟩ := h6
      exact ⟨b, cc, et, hu, hb, hl.vr hv, hsn⟩
  exact ht W a w W0 own0 w0 hr' (hs.weaken fun b hb => by
    rcases hb with h1 | ⟨t, h1⟩ | h1
    · exact .inl h1
    · exact .inr (.inl ⟨t, hbox _ _ h1⟩)
    · exact .inr (.inr h1))

theorem view_wk {Y : YP} {n : Nat} (sl : List Nat) {σ : St} {l : List Code} {Q : Out → St → Prop} {vs : List V} (vs' : List V) (hc : l.isEmpty = false) (hn : σ.env.length = n) (hv : (sl.map fun i => lv i σ) = vs) (hw : WkE vs vs')
    (h : TriL Y l ⟨mk n (sl.zip vs'), [], σ.h⟩ Q) : TriL Y l σ Q := by
  refine view_rule sl hc hn hv ?_
  match l, hc, h with
  | c :: r, _, h => exact tri_wk (hw.mk sl) h
section
variable {Y : YP}
def RoundX (Y : YP) (n : Nat) (so sl : List Nat) (I : Nat → List V → Heap → Prop) (m id : Nat) (r : List Code) (Q : Out → St → Prop) (o : Out) (len : Nat) (vs : List V) (h : Heap) : Prop :=
  match o with
  | .normal => len = n ∧ ∃ m', m' < m ∧ ∃ vs', WkE (pick so sl vs) vs' ∧ I m' vs' h
  | .exit j => if j = id then len = n ∧ ∃ sl' : List Nat, sl'.all so.contains = true ∧ TriL Y r ⟨mk n (sl'.zip (pick so sl' vs)), [], h⟩ Q else AtV so Q (.exit j) len vs h
  | .ret => AtV so Q .ret len vs h

theorem loop3 {n : Nat} (sl so : List Nat) {σ : St} {l : List Code} {Q : Out → St → Prop} (hsub : sl.all so.contains = true) (hl : isLoop l = true) (I : Nat → List V → Heap → Prop) (m0 : Nat) (hn : σ.env.length = n)
    (h0 : ∃ vs', WkE (sl.map fun i => lv i σ) vs' ∧ I m0 vs' σ.h)
    (round : ∀ m vs h, I m vs h → TriL Y (flat (loopB l)) ⟨mk n (sl.zip vs), [], h⟩ (VQ so (RoundX Y n so sl I m (loopId l) (l.drop 1) Q))) : TriL Y l σ Q := by
  obtain ⟨h1, h2⟩ := isLoop_eq hl
  rw [h1]
  refine triL_block (tri_loop (fun m τ => τ.env.length = n ∧ ∃ vs', WkE (sl.map fun i => lv i τ) vs' ∧ I m vs' τ.h) (n := m0) ⟨hn, h0⟩ ?_)
  rintro m τ ⟨hτ, vs', hw, hI⟩
  have hr := triL_flat (c := loopB l) (r := []) (by rw [List.append_nil]; exact round m _ _ hI)
  refine (tri_view hτ rfl rfl (tri_wk (hw.mk sl) hr)).mono ?_
  intro o σ' ho
  cases o with
  | normal =>
    obtain ⟨h1, m', h2, vs2, h3, h4⟩ := ho
    exact ⟨m', h2, h1, vs2, by rw [pick_ok hsub rfl]; exact h3, h4⟩
  | exit j =>
    have ho : RoundX Y n so sl I m (loopId l) (l.drop 1) Q (.exit j) σ'.env.length (so.map fun i => lv i σ') σ'.h := ho
    simp only [RoundX] at ho
    by_cases hj : j = loopId l
    · rw [if_pos hj] at ho
      simp only [if_pos hj]
      obtain ⟨h3, sl', h4, h5⟩ := ho
      exact triL_view h2 h3 (pick_ok h4 rfl) rfl h5
    · rw [if_neg hj] at ho
      simp only [if_neg hj]
      exact ho σ' rfl rfl rfl
  | ret => exact ho σ' rfl rfl rfl

theorem roundX_exit {n : Nat} {so sl : List Nat} {I : Nat → List V → Heap → Prop} {m id j : Nat} {r : List Code} {Q : Out → St → Prop} {len : Nat} {vs : List V} {h : Heap} (sl' : List Nat) (hj : j = id) (hn : len = n) (hs : sl'.all so.contains = true)
    (ht : TriL Y r ⟨mk n (sl'.zip (pick so sl' vs)), [], h⟩ Q) : RoundX Y n so sl I m id r Q (.exit j) len vs h := by
  simp only [RoundX]
  rw [if_pos hj]
  exact ⟨hn, sl', hs, ht⟩
end
end Go.Y

/- What patterns come to, over lists of bytes. -/
namespace Go.Y

structure Span where
  lo : Int
  hi : Int
  deriving DecidableEq, Inhabited
structure Glob where
  k : Int
  b : Int
  sp : List Span
  deriving DecidableEq, Inhabited

abbrev encS (x : Span) : List V := [.i .u8 x.lo, .i .u8 x.hi]
abbrev encG (x : Glob) : List V := [.i .i64 x.k, .i .u8 x.b, lst encS x.sp]
theorem encS_len (x : Span) : (encS x).length = 2 := rfl
def nextS (s : List UInt8) (i : Nat) (b : Bool) : Int × Nat × Bool := match s[i]? with
  | some c => (c.toNat, i + 1, b)
  | none => (0, i, true)

def endS (s : List UInt8) (i : Nat) : Except Nat (Int × Nat) := match s[i]? with
  | none => .error i
  | some c => if c = 93 ∨ c = 45 then .error i else if c = 92 then match s[i + 1]? with
      | none => .error (i + 1)
      | some d => .ok (d.toNat, i + 2)
    else .ok (c.toNat, i + 1)

def itemS (s : List UInt8) (i : Nat) : Except Nat (Span × Nat) := match endS s i with
  | .error e => .error e
  | .ok (lo, j) => if s[j]? = some 45 then match endS s (j + 1) with
      | .error e => .error e
      | .ok (hi, k) => if hi < lo then .error (k - 1) else .ok (⟨lo, hi⟩, k)
    else .ok (⟨lo, lo⟩, j)

def setS : Nat → List UInt8 → Nat → List Span → Except Nat (List Span × Nat)
  | 0, _, i, _ => .error i
  | n + 1, s, i, out => if out ≠ [] ∧ s[i]? = some 93 then .ok (out, i + 1) else match itemS s i with
    | .error e => .error e
    | .ok (x, j) => setS n s j (out ++ [x])

def pieceS (s : List UInt8) (i : Nat) : Except Nat (Glob × Nat) := match s[i]? with
  | none => .error i
  | some c => if c = 42 then .ok (⟨2, 0, []⟩, i + 1) else if c = 63 then .ok (⟨1, 0, []⟩, i + 1) else
    if c = 91 then match setS (s.length + 1) s (i + 1) [] with
      | .error e => .error e
      | .ok (l, j) => .ok (⟨3, 0, l⟩, j)
    else if c = 92 then match s[i + 1]? with
      | none => .error (i + 1)
      | some d => .ok (⟨0, d.toNat, []⟩, i + 2)
    else .ok (⟨0, c.toNat, []⟩, i + 1)

def parseS : Nat → List UInt8 → Nat → List Glob → Except Nat (List Glob)
  | 0, _, i, _ => .error i
  | n + 1, s, i, out => if i < s.length then match pieceS s i with
      | .error e => .error e
      | .ok (x, j) => parseS n s j (out ++ [x])
    else .ok out

theorem endS_ok {s : List UInt8} {i : Nat} {c : Int} {j : Nat} (h : endS s i = .ok (c, j)) : i < j ∧ j ≤ s.length ∧ j ≤ i + 2 := by
  unfold endS at h
  split at h
  · cases h
  · rename_i c1 h1
    have hi := (List.getElem?_eq_some_iff.1 h1).1
    split at h
    · cases h
    · split at h
      · split at h
        · cases h
        · rename_i d h2
          have hi2 := (List.getElem?_eq_some_iff.1 h2).1
          cases h
          omega
      · cases h
        omega

theorem itemS_ok {s : List UInt8} {i : Nat} {x : Span} {j : Nat} (h : itemS s i = .ok (x, j)) : i < j ∧ j ≤ s.length := by
  unfold itemS at h
  split at h
  · cases h
  · rename_i lo k h1
    have := endS_ok h1
    split at h
    · split at h
      · cases h
      · rename_i hi k2 h2
        have := endS_ok h2
        split at h
        · cases h
        · cases h; omega
    · cases h; omega

theorem setS_ok {s : List UInt8} : ∀ {n i : Nat} {out l : List Span} {j : Nat}, setS n s i out = .ok (l, j) → i < j ∧ j ≤ s.length
  | 0, _, _, _, _, h => by cases h
  | n + 1, i, out, l, j, h => by
    simp only [setS] at h
    split at h
    · rename_i hc
      have := (List.getElem?_eq_some_iff.1 hc.2).1
      cases h; omega
    · split at h
      · cases h
      · rename_i x k h1
        have g1 := itemS_ok h1
        have g2 := setS_ok h
        omega

end Go.Y

/- Sides as values, and small laws. -/
namespace Go.Y
set_option maxRecDepth 100000

structure Side where
  on : Bool
  shut : Bool
  eof : Bool
  place : Int
  clock : Int
  typed : List UInt8
  lines : List (List UInt8)
  fly : List UInt8
  ages : List Int
  ready : List UInt8
  buffer : List UInt8

abbrev encI (n : Int) : List V := [.i .i64 n]
abbrev encT (s : List UInt8) : List V := [.s s]
theorem encI_len (n : Int) : (encI n).length = 1 := rfl
abbrev sideL (s : Side) (lines ages : V) : List V := [.b s.on, .b s.shut, .b s.eof, .i .i64 s.place, .i .i64 s.clock, .s s.typed, lines, .s s.fly, ages, .s s.ready, .s s.buffer]
abbrev sideC (s : Side) : List V := sideL s (lst encT s.lines) (lst encI s.ages)
abbrev side0 : List V := [.b false, .b false, .b false, .i .i64 0, .i .i64 0, .s [], .sl none 0 (some 0) 0, .s [], .sl none 0 (some 0) 0, .s [], .s []]

theorem row_one {α : Type} (f : α → V) (l : List α) : row (fun a => [f a]) l = l.map f := by
  induction l with
  | nil => rfl
  | cons a l ih => simp only [row, List.map_cons, List.flatten_cons] at ih ⊢; rw [ih]; rfl
theorem rowI (l : List Int) : row encI l = l.map (.i .i64) := row_one _ l
theorem rowI_len (l : List Int) : (row encI l).length = l.length := by rw [rowI]; simp
theorem rowI_all (l : List Int) : allCells (row encI l) = true := by
  rw [rowI]
  induction l with
  | nil => rfl
  | cons a l ih => simp only [List.map_cons, allCells, ih, Bool.and_true]; rfl
theorem rowI_frz (l : List Int) (h : Heap) : FrzL h (row encI l) (row encI l) := by
  rw [rowI]
  induction l with
  | nil => exact .nil
  | cons a l ih => exact .cons _ _ _ _ (.i _ _) ih


theorem range_snoc {p : Nat → Bool} {i : Nat} (h : (List.range i).all p = true) (hp : p i = true) : (List.range (i + 1)).all p = true := by
  rw [List.range_succ, List.all_append, h]; simp [hp]

theorem bnd_nat {i n : Nat} (h : i < n) : (0 : Int) ≤ (i : Nat) ∧ ((i : Nat) : Int) < (n : Nat) := ⟨by omega, by omega⟩
end Go.Y

/- Rules by printed trees: the goal over code is never shown to the elaborator. -/
namespace Go.Y

theorem pre_tree {Y : YP} (hY : YOK Y) {loc : Nat → Bool} {fuel : Nat} (n : Nat) {slots : List Nat} {σ : St} {env' : List V} {h : Heap} {l : List Code} {Q : Out → St → Prop} {T : (Out → Nat → List V → Heap → Prop) → Prop}
    (tree : ∀ K, codeP Y loc fuel (pre l) ⟨env', [], h⟩ (VQ slots K) = T K) (hσ : σ = ⟨env', [], h⟩) (hc : (post l).isEmpty = false) (hT : T (PreV Y n slots (post l) Q)) : TriL Y l σ Q := by
  refine pre_rule hY (n := n) (loc := loc) fuel slots hc ?_
  rw [hσ, tree]
  exact hT
theorem all_tree {Y : YP} (hY : YOK Y) {loc : Nat → Bool} {fuel : Nat} {slots : List Nat} {σ : St} {env' : List V} {h : Heap} {l : List Code} {K : Out → Nat → List V → Heap → Prop} {T : (Out → Nat → List V → Heap → Prop) → Prop}
    (tree : ∀ K, codeP Y loc fuel l ⟨env', [], h⟩ (VQ slots K) = T K) (hσ : σ = ⟨env', [], h⟩) (hT : T K) : TriL Y l σ (VQ slots K) := by
  refine all_rule hY (loc := loc) fuel slots ?_
  rw [hσ, tree]
  exact hT
theorem end_tree {Y : YP} (hY : YOK Y) {loc : Nat → Bool} {fuel : Nat} {slots : List Nat} {σ : St} {env' : List V} {h : Heap} {l : List Code} {fn : Func} {P : V → Heap → Prop} {T : (Out → Nat → List V → Heap → Prop) → Prop}
    (tree : ∀ K, codeP Y loc fuel l ⟨env', [], h⟩ (VQ slots K) = T K) (hσ : σ = ⟨env', [], h⟩) (hT : T (Fin Y fn slots P)) : TriL Y l σ (FinS Y fn P) := by
  refine end_rule hY (loc := loc) fuel slots ?_
  rw [hσ, tree]
  exact hT
theorem hcells_of {h : Heap} {id : Nat} {cs : List V} {wr : Bool} (hg : h.get id = some (.arr cs wr)) (off n : Nat) : hcells h id off n = takeX n (cs.drop off) := by
  simp only [hcells, hg]

theorem tree_con {Y : YP} (hY : YOK Y) {f : FuncId} {fn : Func} (hf : Y.P.funcs[f]? = some fn) (hb : fn.body.isSome = true) {args : List V} (hc : coldAll args = true) {P : V → Prop} {slots : List Nat} {env' : List V} {T : (Out → Nat → List V → Heap → Prop) → Prop}
    (tree : ∀ K, codeP Y (Y.loc f) 100 (flat (bodyOf fn)) ⟨env', [], .empty⟩ (VQ slots K) = T K) (he : args ++ List.replicate (fn.ntmps - args.length) .undef = env')
    (hfin : T (Fin Y fn slots (fun v h => ∃ r, Frz h v r ∧ P r))) : PCon Y f args P := by
  refine pcon_of hY hf hb hc ?_
  rw [he]
  refine end_rule hY (loc := Y.loc f) 100 slots ?_
  rw [tree]
  exact hfin
end Go.Y

/- Some objects become read-only ahead of a call; an object's cells with them. -/
namespace Go.Y

theorem FrzAL.length {h : Heap} : ∀ {l l' : List V}, FrzAL h l l' → l.length = l'.length
  | _, _, .nil => rfl
  | _, _, .cons _ _ _ _ _ hl => by simp [hl.length]
theorem FrzAL.get {h : Heap} : ∀ {l l' : List V}, FrzAL h l l' → ∀ {j : Nat} {v' : V}, l'[j]? = some v' → ∃ v, l[j]? = some v ∧ FrzA h v v'
  | _, _, .nil, j, v', h => by simp at h
  | _, _, .cons v v1 l l' hv hl, 0, v', h => by simp at h; subst h; exact ⟨v, rfl, hv⟩
  | _, _, .cons v v1 l l' hv hl, j + 1, v', h => by simp at h; simpa using hl.get h
theorem FrzAL.refl {h : Heap} : ∀ l : List V, FrzAL h l l
  | [] => .nil
  | v :: l => .cons _ _ _ _ (.same v) (FrzAL.refl l)

theorem HRel.cool {W : Vw} {h : Heap} {w : World} (hr : HRel W h w) (D : List Nat) {O : Nat} {cs cs' : List V} {wr : Bool} (hg : h.get O = some (.arr cs wr)) (hD : O ∉ D) (hf : FrzAL (takeD h D) cs cs') :
    HRel (W.frzD D w) ((killD h D).set O (some (.arr cs' wr))) w := by
  obtain ⟨g1, g2⟩ := hr.frzD D
  have hk : (killD h D).get O = some (.arr cs wr) := by rw [killD_get, if_neg hD]; exact hg
  refine ⟨fun j hj => ?_, g1.lk, fun j => ?_, fun j hj => ?_, g1.snap, fun j o hj => ?_, g1.inj, g1.apart, fun p hp => g1.tg p hp, g1.gl⟩
  · rw [Heap.raw_set]
    split
    · rfl
    · exact g1.kn j hj
  · rw [Heap.get_set]
    by_cases e : j = O
    · subst e; rw [if_pos rfl, g1.lv j, hk]; simp
    · rw [if_neg e]; exact g1.lv j
  · rw [Heap.raw_set] at hj
    by_cases e : j = O
    · subst e; exact g1.ltg (by rw [hk]; rfl)
    · rw [if_neg e] at hj; exact g1.lt j hj
  · rw [Heap.get_set] at hj
    by_cases e : j = O
    · subst e
      rw [if_pos rfl] at hj
      simp only [Option.some.injEq] at hj
      subst hj
      obtain ⟨c, e, fr, h1, h2, h3, h4, h5⟩ := hr.obj j _ hg
      refine ⟨c, e, fr, h1, h2, by rw [← hf.length]; exact h3, fun i v' hi => ?_, by rw [← hf.length]; exact h5⟩
      obtain ⟨v, hv, hz⟩ := hf.get hi
      obtain ⟨u, hu, hvu⟩ := h4 i v hv
      exact ⟨u, hu, hz.vr (Fz.of hr D) (frzD_le hr D) hvu⟩
    · rw [if_neg e] at hj; exact g1.obj j o hj

theorem Con.cool {Y : YP} {f : FuncId} {args args' : List V} {h : Heap} {Q : V → Heap → Prop} (D : List Nat) {O : Nat} {cs cs' : List V} {wr : Bool} (hg : h.get O = some (.arr cs wr)) (hD : O ∉ D) (hf : FrzAL (takeD h D) cs cs') (ha : FrzAL (takeD h D) args args')
    (c : Con Y f args' ((killD h D).set O (some (.arr cs' wr))) Q) : Con Y f args h Q :=
  ⟨c.body, fun W w us hr hv => by
    have g1 := hr.cool D hg hD hf
    have g2 := (hr.frzD D).2
    refine (c.tr (W.frzD D w) w us g1 (ha.vr (Fz.of hr D) (frzD_le hr D) hv)).mono ?_
    rintro e w' ⟨v, h', W', u, h1, h2, h3, h4, h5⟩
    exact ⟨v, h', W', u, h1, h2, h3, h4, g2.trans h5⟩⟩
theorem Con.coolR {Y : YP} {f : FuncId} {args : List V} {h : Heap} {Q : V → Heap → Prop}
    (c : Con Y f args h fun v h' => ∃ (D : List Nat) (O : Nat) (cs cs' : List V) (wr : Bool), h'.get O = some (.arr cs wr) ∧ O ∉ D ∧ FrzAL (takeD h' D) cs cs' ∧ ∃ v', FrzA (takeD h' D) v v' ∧ Q v' ((killD h' D).set O (some (.arr cs' wr)))) : Con Y f args h Q :=
  ⟨c.body, fun W w us hr hv => (c.tr W w us hr hv).mono fun e w' ⟨v, h', W', u, ⟨D, O, cs, cs', wr, h1, h2, h3, v', h4, h5⟩, he, hh, hvu, hst⟩ =>
    ⟨v', _, _, u, h5, he, hh.cool D h1 h2 h3, h4.vr (Fz.of hh D) (frzD_le hh D) hvu, hst.trans (hh.frzD D).2⟩⟩

theorem HRel.more {W : Vw} {h : Heap} {w w' : World} (r : HRel W h w) {s : Nat → Option Obj} (hs : ∀ b o, W.snap b = some o → s b = some o) (hz : w.heap.size ≤ w'.heap.size)
    (hk : ∀ b, b < w.heap.size → w'.heap[b]? = w.heap[b]?) (hn : ∀ b o, s b = some o → w'.heap[b]? = some o) (hstr : Str w w') :
    HRel (W.more w.heap.size s) h w' ∧ Stp W W.own w (W.more w.heap.size s) (W.more w.heap.size s).own w' := by
  have hle := more_le (w := w) hs
  have hsame : Same w w' := fun b o hb => by rw [hk b (lt_of_block hb)]; exact hb
  have hlt : ∀ id, W.lv id → (W.mu id).1 < w.heap.size := by
    intro id hl
    obtain ⟨o, ho⟩ := r.block hl
    exact lt_of_block ho
  refine ⟨⟨r.kn, r.lk, r.lv, r.lt, ?_, ?_, r.inj, ?_, fun p hp => ⟨(r.tg p hp).1, (((r.tg p hp).2).same hsame).mono hle (r.tg p hp).1⟩, r.gl.mono hle.snap⟩, ⟨hle, hz, fun b hb _ => hk b hb, fun b hb => .inl hb, ?_, hstr⟩⟩
  · intro b o hb
    simp only [Vw.more] at hb
    split at hb
    · exact hn b o hb
    · exact hsame b o (r.snap b o hb)
  · intro id o ho
    exact ((r.obj id o ho).same hsame).mono hle (r.known (by simp [ho]))
  · intro id hl
    have := hlt id hl
    simp only [Vw.more]
    rw [if_neg (by omega)]
    exact r.apart id hl
  · intro b hb
    simp only [Vw.more] at hb
    split at hb
    · rename_i h1; exact .inr (.inr h1)
    · exact .inl hb

theorem Con.ofP {Y : YP} {f : FuncId} {args args' : List V} {h : Heap} {P : V → Prop} (D : List Nat) (hf : FrzAL (takeD h D) args args') (p : PCon Y f args' P) : Con Y f args h fun v h' => P v ∧ h' = killD h D :=
  ⟨p.body, fun W w us hr hv => by
    obtain ⟨g1, g2⟩ := hr.frzD D
    refine (p.tr (W.frzD D w) w us g1.snap g1.gl (hf.vr (Fz.of hr D) (frzD_le hr D) hv)).mono ?_
    rintro e w' ⟨r, W', u, h1, h2, h3, h4, h5, h6, h7, h8, h9, h10⟩
    obtain ⟨k1, k2⟩ := g1.more (s := W'.snap) h4 h7 h8 h5 h10
    refine ⟨r, _, _, u, ⟨h1, rfl⟩, h2, k1, h9 _ ?_, g2.trans k2⟩
    intro b o hb
    simp only [Vw.more]
    split
    · exact hb
    · rename_i hlt
      rcases h6 b (by simp [hb]) with h9' | h9'
      · cases hsn : (W.frzD D w).snap b with
        | none => exact absurd hsn h9'
        | some o' => rw [h4 b o' hsn] at hb; exact hb
      · exact absurd h9' hlt⟩
end Go.Y
