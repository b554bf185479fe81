/- Some objects become read-only ahead of a call; an object's cells with them. -/
import Derived.Test.YtdoanndgjipbmaaYFrz
namespace Go.Y

theorem FrzAL.length {h : Heap} : ∀ {l l' : List V}, FrzAL h l l' → l.length = l'.length
  | _, _, .nil => rfl
  | _, _, .cons _ _ _ _ _ hl => by simp [hl.length]
theorem FrzAL.get {h : Heap} : ∀ {l l' : List V}, FrzAL h l l' → ∀ {j : Nat} {v' : V}, l'[j]? = some v' → ∃ v, l[j]? = some v ∧ FrzA h v v'
  | _, _, .nil, j, v', h => by simp at h
  | _, _, .cons v v1 l l' hv hl, 0, v', h => by simp at h; subst h; exact ⟨v, rfl, hv⟩
  | _, _, .cons v v1 l l' hv hl, j + 1, v', h => by simp at h; simpa using hl.get h
theorem FrzAL.refl {h : Heap} : ∀ l : List V, FrzAL h l l
  | [] => .nil
  | v :: l => .cons _ _ _ _ (.same v) (FrzAL.refl l)

theorem HRel.cool {W : Vw} {h : Heap} {w : World} (hr : HRel W h w) (D : List Nat) {O : Nat} {cs cs' : List V} {wr : Bool} (hg : h.get O = some (.arr cs wr)) (hD : O ∉ D) (hf : FrzAL (takeD h D) cs cs') :
    HRel (W.frzD D w) ((killD h D).set O (some (.arr cs' wr))) w := by
  obtain ⟨g1, g2⟩ := hr.frzD D
  have hk : (killD h D).get O = some (.arr cs wr) := by rw [killD_get, if_neg hD]; exact hg
  refine ⟨fun j hj => ?_, g1.lk, fun j => ?_, fun j hj => ?_, g1.snap, fun j o hj => ?_, g1.inj, g1.apart, fun p hp => g1.tg p hp⟩
  · rw [Heap.raw_set]
    split
    · rfl
    · exact g1.kn j hj
  · rw [Heap.get_set]
    by_cases e : j = O
    · subst e; rw [if_pos rfl, g1.lv j, hk]; simp
    · rw [if_neg e]; exact g1.lv j
  · rw [Heap.raw_set] at hj
    by_cases e : j = O
    · subst e; exact g1.ltg (by rw [hk]; rfl)
    · rw [if_neg e] at hj; exact g1.lt j hj
  · rw [Heap.get_set] at hj
    by_cases e : j = O
    · subst e
      rw [if_pos rfl] at hj
      simp only [Option.some.injEq] at hj
      subst hj
      obtain ⟨c, e, fr, h1, h2, h3, h4, h5⟩ := hr.obj j _ hg
      refine ⟨c, e, fr, h1, h2, by rw [← hf.length]; exact h3, fun i v' hi => ?_, by rw [← hf.length]; exact h5⟩
      obtain ⟨v, hv, hz⟩ := hf.get hi
      obtain ⟨u, hu, hvu⟩ := h4 i v hv
      exact ⟨u, hu, hz.vr (Fz.of hr D) (frzD_le hr D) hvu⟩
    · rw [if_neg e] at hj; exact g1.obj j o hj

/-- A call, once some objects are read-only; what one object holds is known by them. -/
theorem Con.cool {Y : YP} {f : FuncId} {args args' : List V} {h : Heap} {Q : V → Heap → Prop} (D : List Nat) {O : Nat} {cs cs' : List V} {wr : Bool} (hg : h.get O = some (.arr cs wr)) (hD : O ∉ D) (hf : FrzAL (takeD h D) cs cs') (ha : FrzAL (takeD h D) args args')
    (c : Con Y f args' ((killD h D).set O (some (.arr cs' wr))) Q) : Con Y f args h Q :=
  ⟨c.body, fun W w us hr hv => by
    have g1 := hr.cool D hg hD hf
    have g2 := (hr.frzD D).2
    refine (c.tr (W.frzD D w) w us g1 (ha.vr (Fz.of hr D) (frzD_le hr D) hv)).mono ?_
    rintro e w' ⟨v, h', W', u, h1, h2, h3, h4, h5⟩
    exact ⟨v, h', W', u, h1, h2, h3, h4, g2.trans h5⟩⟩
/-- .. and behind it. -/
theorem Con.coolR {Y : YP} {f : FuncId} {args : List V} {h : Heap} {Q : V → Heap → Prop}
    (c : Con Y f args h fun v h' => ∃ (D : List Nat) (O : Nat) (cs cs' : List V) (wr : Bool), h'.get O = some (.arr cs wr) ∧ O ∉ D ∧ FrzAL (takeD h' D) cs cs' ∧ ∃ v', FrzA (takeD h' D) v v' ∧ Q v' ((killD h' D).set O (some (.arr cs' wr)))) : Con Y f args h Q :=
  ⟨c.body, fun W w us hr hv => (c.tr W w us hr hv).mono fun e w' ⟨v, h', W', u, ⟨D, O, cs, cs', wr, h1, h2, h3, v', h4, h5⟩, he, hh, hvu, hst⟩ =>
    ⟨v', _, _, u, h5, he, hh.cool D h1 h2 h3, h4.vr (Fz.of hh D) (frzD_le hh D) hvu, hst.trans (hh.frzD D).2⟩⟩

theorem HRel.more {W : Vw} {h : Heap} {w w' : World} (r : HRel W h w) {s : Nat → Option Obj} (hs : ∀ b o, W.snap b = some o → s b = some o) (hz : w.heap.size ≤ w'.heap.size)
    (hk : ∀ b, b < w.heap.size → w'.heap[b]? = w.heap[b]?) (hn : ∀ b o, s b = some o → w'.heap[b]? = some o) (hstr : Str w w') :
    HRel (W.more w.heap.size s) h w' ∧ Stp W W.own w (W.more w.heap.size s) (W.more w.heap.size s).own w' := by
  have hle := more_le (w := w) hs
  have hsame : Same w w' := fun b o hb => by rw [hk b (lt_of_block hb)]; exact hb
  have hlt : ∀ id, W.lv id → (W.mu id).1 < w.heap.size := by
    intro id hl
    obtain ⟨o, ho⟩ := r.block hl
    exact lt_of_block ho
  refine ⟨⟨r.kn, r.lk, r.lv, r.lt, ?_, ?_, r.inj, ?_, fun p hp => ⟨(r.tg p hp).1, (((r.tg p hp).2).same hsame).mono hle (r.tg p hp).1⟩⟩, ⟨hle, hz, fun b hb _ => hk b hb, fun b hb => .inl hb, ?_, hstr⟩⟩
  · intro b o hb
    simp only [Vw.more] at hb
    split at hb
    · exact hn b o hb
    · exact hsame b o (r.snap b o hb)
  · intro id o ho
    exact ((r.obj id o ho).same hsame).mono hle (r.known (by simp [ho]))
  · intro id hl
    have := hlt id hl
    simp only [Vw.more]
    rw [if_neg (by omega)]
    exact r.apart id hl
  · intro b hb
    simp only [Vw.more] at hb
    split at hb
    · rename_i h1; exact .inr (.inr h1)
    · exact .inl hb

/-- A call of a function that starts from nothing, of what becomes read-only. -/
theorem Con.ofP {Y : YP} {f : FuncId} {args args' : List V} {h : Heap} {P : V → Prop} (D : List Nat) (hf : FrzAL (takeD h D) args args') (p : PCon Y f args' P) : Con Y f args h fun v h' => P v ∧ h' = killD h D :=
  ⟨p.body, fun W w us hr hv => by
    obtain ⟨g1, g2⟩ := hr.frzD D
    refine (p.tr (W.frzD D w) w us g1.snap (hf.vr (Fz.of hr D) (frzD_le hr D) hv)).mono ?_
    rintro e w' ⟨r, W', u, h1, h2, h3, h4, h5, h6, h7, h8, h9, h10⟩
    obtain ⟨k1, k2⟩ := g1.more (s := W'.snap) h4 h7 h8 h5 h10
    refine ⟨r, _, _, u, ⟨h1, rfl⟩, h2, k1, h9 _ ?_, g2.trans k2⟩
    intro b o hb
    simp only [Vw.more]
    split
    · exact hb
    · rename_i hlt
      rcases h6 b (by simp [hb]) with h9' | h9'
      · cases hsn : (W.frzD D w).snap b with
        | none => exact absurd hsn h9'
        | some o' => rw [h4 b o' hsn] at hb; exact hb
      · exact absurd h9' hlt⟩
theorem killD_nil (h : Heap) : killD h [] = h := rfl
end Go.Y

/- Closed runs in parts: calls whose results are known. -/
namespace Go.Y

mutual
def eqW : Nat → V → V → Bool
  | 0, _, _ => false
  | n + 1, a, b => match a, b with
    | .undef, .undef => true
    | .b x, .b y => x == y
    | .i k x, .i k' y => decide (k = k') && decide (x = y)
    | .s l, .s l' => decide (l = l')
    | .p none, .p none => true
    | .sl none x c k, .sl none x' c' k' => decide (x = x') && decide (c = c') && decide (k = k')
    | .ts cs x c, .ts cs' x' c' => decide (x = x') && decide (c = c') && eqWs n cs cs'
    | .tp cs, .tp cs' => eqWs n cs cs'
    | .agg cs, .agg cs' => eqWs n cs cs'
    | .tup cs, .tup cs' => eqWs n cs cs'
    | _, _ => false
def eqWs : Nat → List V → List V → Bool
  | 0, _, _ => false
  | n + 1, l, l' => match l, l' with
    | [], [] => true
    | a :: r, b :: r' => eqW n a b && eqWs n r r'
    | _, _ => false
end
mutual
theorem eqW_ok : ∀ (n : Nat) (a b : V), eqW n a b = true → a = b
  | 0, _, _, h => by simp [eqW] at h
  | n + 1, a, b, h => by
    unfold eqW at h
    split at h
    · rfl
    · simp at h; rw [h]
    · simp at h; rw [h.1, h.2]
    · simp at h; rw [h]
    · rfl
    · simp at h; rw [h.1.1, h.1.2, h.2]
    · simp at h; rw [h.1.1, h.1.2, eqWs_ok n _ _ h.2]
    · rw [eqWs_ok n _ _ h]
    · rw [eqWs_ok n _ _ h]
    · rw [eqWs_ok n _ _ h]
    · cases h
theorem eqWs_ok : ∀ (n : Nat) (a b : List V), eqWs n a b = true → a = b
  | 0, _, _, h => by simp [eqWs] at h
  | n + 1, a, b, h => by
    unfold eqWs at h
    split at h
    · rfl
    · simp at h; rw [eqW_ok n _ _ h.1, eqWs_ok n _ _ h.2]
    · cases h
end

abbrev Known := List (FuncId × List V × V)
def lookT : Known → FuncId → List V → Option V
  | [], _, _ => none
  | e :: T, f, args => if e.1 = f then (if eqWs 1000 e.2.1 args then some e.2.2 else lookT T f args) else lookT T f args
def knT (T : Known) (kn : FuncId → List V → Heap → Option (V × Heap)) : FuncId → List V → Heap → Option (V × Heap) := fun f args h => match lookT T f args with
  | some r => some (r, h)
  | none => kn f args h
inductive KnowOK (Y : YP) : Known → Prop
  | nil : KnowOK Y []
  | cons (f : FuncId) (args : List V) (r : V) (T : Known) (h : PCon Y f args (· = r)) (hT : KnowOK Y T) : KnowOK Y ((f, args, r) :: T)
theorem lookT_ok {Y : YP} : ∀ {T : Known}, KnowOK Y T → ∀ {f args r}, lookT T f args = some r → PCon Y f args (· = r)
  | _, .nil, _, _, _, h => by cases h
  | _, .cons g ags r T hp hT, f, args, r', h => by
    simp only [lookT] at h
    split at h
    · rename_i hg
      split at h
      · rename_i ha
        have := eqWs_ok _ _ _ ha
        subst hg this
        cases h
        exact hp
      · exact lookT_ok hT h
    · exact lookT_ok hT h
theorem frzAL_refl (h : Heap) : ∀ l : List V, FrzAL h l l
  | [] => .nil
  | _ :: l => .cons _ _ _ _ (.same _) (frzAL_refl h l)
theorem knT_ok {Y : YP} {T : Known} {kn : FuncId → List V → Heap → Option (V × Heap)} (hT : KnowOK Y T) (hkn : KOK Y kn) : KOK Y (knT T kn) := by
  refine ⟨fun f args h v h' hv => ?_, hkn.2⟩
  unfold knT at hv
  split at hv
  · rename_i r hr
    simp only [Option.some.injEq, Prod.mk.injEq] at hv
    obtain ⟨rfl, rfl⟩ := hv
    exact ⟨Con.ofP [] (frzAL_refl _ _) (lookT_ok hT hr), .refl _⟩
  · exact hkn.1 _ _ _ _ _ hv
end Go.Y

/- Rules for pieces of code whose slots differ. -/
namespace Go.Y

/-- Some slots' values, out of those of more slots. -/
def pick (so sl : List Nat) (vs : List V) : List V := sl.map fun s => match lookV (so.zip vs) s with | some v => v | none => .undef

theorem lookV_mem {σ : St} : ∀ {so : List Nat} {s : Nat}, s ∈ so → lookV (so.zip (so.map fun i => lv i σ)) s = some (lv s σ)
  | x :: r, s, h => by
    simp only [List.map_cons, List.zip_cons_cons, lookV]
    by_cases hx : x = s
    · rw [if_pos hx, hx]
    · rw [if_neg hx]
      exact lookV_mem (by rcases List.mem_cons.1 h with h | h; exact absurd h.symm hx; exact h)

theorem pick_ok {σ : St} {so sl : List Nat} (hs : sl.all so.contains = true) {vs : List V} (hv : (so.map fun i => lv i σ) = vs) : (sl.map fun i => lv i σ) = pick so sl vs := by
  subst hv
  unfold pick
  apply List.map_congr_left
  intro s hm
  have := List.all_eq_true.1 hs s hm
  rw [lookV_mem (by simpa using this)]

section
variable {Y : YP}
theorem view_rule {n : Nat} (sl : List Nat) {σ : St} {l : List Code} {Q : Out → St → Prop} {vs : List V} (hc : l.isEmpty = false) (hn : σ.env.length = n) (hv : (sl.map fun i => lv i σ) = vs) (h : TriL Y l ⟨mk n (sl.zip vs), [], σ.h⟩ Q) : TriL Y l σ Q :=
  triL_view (fun e => by rw [e] at hc; cases hc) hn hv rfl h

/-- What a round of a loop comes to: seen at the slots 'so'; the loop's head asks for 'sl'. -/
def RoundW (Y : YP) (n : Nat) (so sl : List Nat) (I : Nat → List V → Heap → Prop) (m id : Nat) (r : List Code) (Q : Out → St → Prop) (o : Out) (len : Nat) (vs : List V) (h : Heap) : Prop :=
  match o with
  | .normal => len = n ∧ ∃ m', m' < m ∧ I m' (pick so sl vs) h
  | .exit j => if j = id then len = n ∧ ∃ sl' : List Nat, sl'.all so.contains = true ∧ TriL Y r ⟨mk n (sl'.zip (pick so sl' vs)), [], h⟩ Q else AtV so Q (.exit j) len vs h
  | .ret => AtV so Q .ret len vs h

theorem loop2 {n : Nat} (sl so : List Nat) {σ : St} {l : List Code} {Q : Out → St → Prop} (hsub : sl.all so.contains = true) (hl : isLoop l = true) (I : Nat → List V → Heap → Prop) (m0 : Nat) (hn : σ.env.length = n)
    (h0 : I m0 (sl.map fun i => lv i σ) σ.h)
    (round : ∀ m vs h, I m vs h → TriL Y (flat (loopB l)) ⟨mk n (sl.zip vs), [], h⟩ (VQ so (RoundW Y n so sl I m (loopId l) (l.drop 1) Q))) : TriL Y l σ Q := by
  obtain ⟨h1, h2⟩ := isLoop_eq hl
  rw [h1]
  refine triL_block (tri_loop (fun m τ => τ.env.length = n ∧ I m (sl.map fun i => lv i τ) τ.h) (n := m0) ⟨hn, h0⟩ ?_)
  rintro m τ ⟨hτ, hI⟩
  have hr := triL_flat (c := loopB l) (r := []) (by rw [List.append_nil]; exact round m _ _ hI)
  refine (tri_view hτ rfl rfl hr).mono ?_
  intro o σ' ho
  cases o with
  | normal =>
    obtain ⟨h1, m', h2, h3⟩ := ho
    exact ⟨m', h2, h1, by rw [pick_ok hsub rfl]; exact h3⟩
  | exit j =>
    have ho : RoundW Y n so sl I m (loopId l) (l.drop 1) Q (.exit j) σ'.env.length (so.map fun i => lv i σ') σ'.h := ho
    simp only [RoundW] at ho
    by_cases hj : j = loopId l
    · rw [if_pos hj] at ho
      simp only [if_pos hj]
      obtain ⟨h3, sl', h4, h5⟩ := ho
      exact triL_view h2 h3 (pick_ok h4 rfl) rfl h5
    · rw [if_neg hj] at ho
      simp only [if_neg hj]
      exact ho σ' rfl rfl rfl
  | ret => exact ho σ' rfl rfl rfl

theorem roundW_exit {n : Nat} {so sl : List Nat} {I : Nat → List V → Heap → Prop} {m id j : Nat} {r : List Code} {Q : Out → St → Prop} {len : Nat} {vs : List V} {h : Heap} (sl' : List Nat) (hj : j = id) (hn : len = n) (hs : sl'.all so.contains = true)
    (ht : TriL Y r ⟨mk n (sl'.zip (pick so sl' vs)), [], h⟩ Q) : RoundW Y n so sl I m id r Q (.exit j) len vs h := by
  simp only [RoundW]
  rw [if_pos hj]
  exact ⟨hn, sl', hs, ht⟩

def isLoopE : List Code → Bool
  | [.block _ (.loop _)] => true
  | _ => false
theorem isLoopE_eq {l : List Code} (h : isLoopE l = true) : l = [.block (loopId l) (.loop (loopB l))] := by
  unfold isLoopE at h
  split at h
  · rfl
  · cases h

/-- .. of a loop that stands last. -/
def RoundE (n : Nat) (so sl : List Nat) (I : Nat → List V → Heap → Prop) (m id : Nat) (Q : Out → St → Prop) (o : Out) (len : Nat) (vs : List V) (h : Heap) : Prop :=
  match o with
  | .normal => len = n ∧ ∃ m', m' < m ∧ I m' (pick so sl vs) h
  | .exit j => if j = id then AtV so Q .normal len vs h else AtV so Q (.exit j) len vs h
  | .ret => AtV so Q .ret len vs h

theorem loopE {n : Nat} (sl so : List Nat) {σ : St} {l : List Code} {Q : Out → St → Prop} (hsub : sl.all so.contains = true) (hl : isLoopE l = true) (I : Nat → List V → Heap → Prop) (m0 : Nat) (hn : σ.env.length = n)
    (h0 : I m0 (sl.map fun i => lv i σ) σ.h)
    (round : ∀ m vs h, I m vs h → TriL Y (flat (loopB l)) ⟨mk n (sl.zip vs), [], h⟩ (VQ so (RoundE n so sl I m (loopId l) Q))) : TriL Y l σ Q := by
  rw [isLoopE_eq hl]
  refine triL_block (tri_loop (fun m τ => τ.env.length = n ∧ I m (sl.map fun i => lv i τ) τ.h) (n := m0) ⟨hn, h0⟩ ?_)
  rintro m τ ⟨hτ, hI⟩
  have hr := triL_flat (c := loopB l) (r := []) (by rw [List.append_nil]; exact round m _ _ hI)
  refine (tri_view hτ rfl rfl hr).mono ?_
  intro o σ' ho
  cases o with
  | normal =>
    obtain ⟨h1, m', h2, h3⟩ := ho
    exact ⟨m', h2, h1, by rw [pick_ok hsub rfl]; exact h3⟩
  | exit j =>
    have ho : RoundE n so sl I m (loopId l) Q (.exit j) σ'.env.length (so.map fun i => lv i σ') σ'.h := ho
    simp only [RoundE] at ho
    by_cases hj : j = loopId l
    · rw [if_pos hj] at ho
      simp only [if_pos hj]
      exact ho σ' rfl rfl rfl
    · rw [if_neg hj] at ho
      simp only [if_neg hj]
      exact ho σ' rfl rfl rfl
  | ret => exact ho σ' rfl rfl rfl

/-- What a block comes to. -/
def ContW (Y : YP) (n : Nat) (so : List Nat) (id : Nat) (r : List Code) (Q : Out → St → Prop) (o : Out) (len : Nat) (vs : List V) (h : Heap) : Prop :=
  match o with
  | .normal => len = n ∧ ∃ sl' : List Nat, sl'.all so.contains = true ∧ TriL Y r ⟨mk n (sl'.zip (pick so sl' vs)), [], h⟩ Q
  | .exit j => if j = id then len = n ∧ ∃ sl' : List Nat, sl'.all so.contains = true ∧ TriL Y r ⟨mk n (sl'.zip (pick so sl' vs)), [], h⟩ Q else AtV so Q (.exit j) len vs h
  | .ret => AtV so Q .ret len vs h

theorem block2 {n : Nat} (so : List Nat) {σ : St} {l : List Code} {Q : Out → St → Prop} (hl : isBlock l = true)
    (h : TriL Y (flat (blockB l)) σ (VQ so (ContW Y n so (blockId l) (l.drop 1) Q))) : TriL Y l σ Q := by
  obtain ⟨h1, h2⟩ := isBlock_eq hl
  rw [h1]
  have h3 := triL_flat (c := blockB l) (r := []) (by rw [List.append_nil]; exact h)
  refine triL_block (Tri.mono h3 ?_)
  intro o σ' ho
  cases o with
  | normal => obtain ⟨g1, sl', g2, g3⟩ := ho; exact triL_view h2 g1 (pick_ok g2 rfl) rfl g3
  | ret => exact ho σ' rfl rfl rfl
  | exit j =>
    have ho : ContW Y n so (blockId l) (l.drop 1) Q (.exit j) _ _ _ := ho
    simp only [ContW] at ho
    by_cases hj : j = blockId l
    · rw [if_pos hj] at ho
      simp only [if_pos hj]
      obtain ⟨g1, sl', g2, g3⟩ := ho
      exact triL_view h2 g1 (pick_ok g2 rfl) rfl g3
    · rw [if_neg hj] at ho
      simp only [if_neg hj]
      exact ho σ' rfl rfl rfl

theorem contW_exit {n : Nat} {so : List Nat} {id j : Nat} {r : List Code} {Q : Out → St → Prop} {len : Nat} {vs : List V} {h : Heap} (sl' : List Nat) (hj : j = id) (hn : len = n) (hs : sl'.all so.contains = true)
    (ht : TriL Y r ⟨mk n (sl'.zip (pick so sl' vs)), [], h⟩ Q) : ContW Y n so id r Q (.exit j) len vs h := by
  simp only [ContW]
  rw [if_pos hj]
  exact ⟨hn, sl', hs, ht⟩

theorem at_pick {n : Nat} {so sl : List Nat} {K : Out → Nat → List V → Heap → Prop} {o : Out} {vs : List V} {h : Heap} (hs : sl.all so.contains = true) (hk : K o n (pick so sl vs) h) : AtV so (VQ sl K) o n vs h := by
  rintro τ rfl h2 rfl
  show K o τ.env.length (sl.map fun i => lv i τ) τ.h
  rw [pick_ok hs h2]
  exact hk

/-- Two views of one state. -/
def Two (so1 : List Nat) (vs1 : List V) (so2 : List Nat) (vs2 : List V) : Prop := ∃ τ : St, (so1.map fun i => lv i τ) = vs1 ∧ (so2.map fun i => lv i τ) = vs2
theorem two_pick {so1 so2 sl : List Nat} {vs1 vs2 : List V} (hc : Two so1 vs1 so2 vs2) (h1 : sl.all so1.contains = true) (h2 : sl.all so2.contains = true) : pick so2 sl vs2 = pick so1 sl vs1 := by
  obtain ⟨τ, e1, e2⟩ := hc
  rw [← pick_ok h1 e1, ← pick_ok h2 e2]

theorem all_two (hY : YOK Y) {loc : Nat → Bool} (fuel : Nat) (so1 : List Nat) {so2 : List Nat} {σ : St} {l : List Code} {K : Out → Nat → List V → Heap → Prop} (h : codeP Y loc fuel l σ (VQ so1 fun o n vs h => ∀ vs2, Two so1 vs so2 vs2 → K o n vs2 h)) : TriL Y l σ (VQ so2 K) :=
  (codeP_ok hY _ _ _ _ h).mono fun _ σ' ho => ho _ ⟨σ', rfl, rfl⟩

theorem at_two {n : Nat} {so1 so2 : List Nat} {K : Out → Nat → List V → Heap → Prop} {o : Out} {vs : List V} {h : Heap} (hk : ∀ vs2, Two so1 vs so2 vs2 → K o n vs2 h) : AtV so1 (VQ so2 K) o n vs h := by
  rintro τ rfl h2 rfl
  exact hk _ ⟨τ, h2, rfl⟩

theorem roundW_normal {n : Nat} {so1 so sl : List Nat} {I : Nat → List V → Heap → Prop} {m id : Nat} {r : List Code} {Q : Out → St → Prop} {len : Nat} {vs vs2 : List V} {h : Heap} (ht : Two so1 vs so vs2) (h1 : sl.all so1.contains = true) (h2 : sl.all so.contains = true) (hn : len = n) (m' : Nat) (hm : m' < m)
    (hi : I m' (pick so1 sl vs) h) : RoundW Y n so sl I m id r Q .normal len vs2 h := ⟨hn, m', hm, by rw [two_pick ht h1 h2]; exact hi⟩

theorem roundW_exit2 {n : Nat} {so1 so sl : List Nat} {I : Nat → List V → Heap → Prop} {m id j : Nat} {r : List Code} {Q : Out → St → Prop} {len : Nat} {vs vs2 : List V} {h : Heap} (sl' : List Nat) (h2 : Two so1 vs so vs2) (hj : j = id) (hn : len = n) (hs1 : sl'.all so1.contains = true) (hs : sl'.all so.contains = true)
    (ht : TriL Y r ⟨mk n (sl'.zip (pick so1 sl' vs)), [], h⟩ Q) : RoundW Y n so sl I m id r Q (.exit j) len vs2 h :=
  roundW_exit sl' hj hn hs (by rw [two_pick h2 hs1 hs]; exact ht)

/-- A view that is asked by fewer slots than are seen. -/
theorem vq_more {n : Nat} {so sl : List Nat} {σ : St} {l : List Code} {K : Out → Nat → List V → Heap → Prop} (hs : sl.all so.contains = true) (h : TriL Y l σ (VQ so fun o len vs h => K o len (pick so sl vs) h)) : TriL Y l σ (VQ sl K) :=
  h.mono fun o σ' ho => by
    have ho : K o σ'.env.length (pick so sl (so.map fun i => lv i σ')) σ'.h := ho
    show K o σ'.env.length (sl.map fun i => lv i σ') σ'.h
    rw [pick_ok hs rfl]
    exact ho
end

/-- The end of a function that starts from nothing. -/
theorem fin_at {Y : YP} {fn : Func} {so : List Nat} {P : V → Heap → Prop} {o : Out} {n : Nat} {vs : List V} {h : Heap} {v : V} (ho : o = .normal ∨ o = .ret) (hv : resV Y fn (so.zip vs) = some v) (hp : P v h) : AtV so (FinS Y fn P) o n vs h :=
  fin_ok ⟨ho, v, hv, hp⟩
end Go.Y
