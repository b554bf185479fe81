/- Rules for pieces of code whose slots differ. -/
import Derived.Test.YtfnpgefoikffdaaDoorYFrz
namespace Go.Y

/-- Some slots' values, out of those of more slots. -/
def pick (so sl : List Nat) (vs : List V) : List V := sl.map fun s => match lookV (so.zip vs) s with | some v => v | none => .undef

theorem lookV_mem {σ : St} : ∀ {so : List Nat} {s : Nat}, s ∈ so → lookV (so.zip (so.map fun i => lv i σ)) s = some (lv s σ)
  | x :: r, s, h => by
    simp only [List.map_cons, List.zip_cons_cons, lookV]
    by_cases hx : x = s
    · rw [if_pos hx, hx]
    · rw [if_neg hx]
      exact lookV_mem (by rcases List.mem_cons.1 h with h | h; exact absurd h.symm hx; exact h)

theorem pick_ok {σ : St} {so sl : List Nat} (hs : sl.all so.contains = true) {vs : List V} (hv : (so.map fun i => lv i σ) = vs) : (sl.map fun i => lv i σ) = pick so sl vs := by
  subst hv
  unfold pick
  apply List.map_congr_left
  intro s hm
  have := List.all_eq_true.1 hs s hm
  rw [lookV_mem (by simpa using this)]

section
variable {Y : YP}
theorem view_rule {n : Nat} (sl : List Nat) {σ : St} {l : List Code} {Q : Out → St → Prop} {vs : List V} (hc : l.isEmpty = false) (hn : σ.env.length = n) (hv : (sl.map fun i => lv i σ) = vs) (h : TriL Y l ⟨mk n (sl.zip vs), [], σ.h⟩ Q) : TriL Y l σ Q :=
  triL_view (fun e => by rw [e] at hc; cases hc) hn hv rfl h

/-- What a round of a loop comes to: seen at the slots 'so'; the loop's head asks for 'sl'. -/
def RoundW (Y : YP) (n : Nat) (so sl : List Nat) (I : Nat → List V → Heap → Prop) (m id : Nat) (r : List Code) (Q : Out → St → Prop) (o : Out) (len : Nat) (vs : List V) (h : Heap) : Prop :=
  match o with
  | .normal => len = n ∧ ∃ m', m' < m ∧ I m' (pick so sl vs) h
  | .exit j => if j = id then len = n ∧ ∃ sl' : List Nat, sl'.all so.contains = true ∧ TriL Y r ⟨mk n (sl'.zip (pick so sl' vs)), [], h⟩ Q else AtV so Q (.exit j) len vs h
  | .ret => AtV so Q .ret len vs h

theorem loop2 {n : Nat} (sl so : List Nat) {σ : St} {l : List Code} {Q : Out → St → Prop} (hsub : sl.all so.contains = true) (hl : isLoop l = true) (I : Nat → List V → Heap → Prop) (m0 : Nat) (hn : σ.env.length = n)
    (h0 : I m0 (sl.map fun i => lv i σ) σ.h)
    (round : ∀ m vs h, I m vs h → TriL Y (flat (loopB l)) ⟨mk n (sl.zip vs), [], h⟩ (VQ so (RoundW Y n so sl I m (loopId l) (l.drop 1) Q))) : TriL Y l σ Q := by
  obtain ⟨h1, h2⟩ := isLoop_eq hl
  rw [h1]
  refine triL_block (tri_loop (fun m τ => τ.env.length = n ∧ I m (sl.map fun i => lv i τ) τ.h) (n := m0) ⟨hn, h0⟩ ?_)
  rintro m τ ⟨hτ, hI⟩
  have hr := triL_flat (c := loopB l) (r := []) (by rw [List.append_nil]; exact round m _ _ hI)
  refine (tri_view hτ rfl rfl hr).mono ?_
  intro o σ' ho
  cases o with
  | normal =>
    obtain ⟨h1, m', h2, h3⟩ := ho
    exact ⟨m', h2, h1, by rw [pick_ok hsub rfl]; exact h3⟩
  | exit j =>
    have ho : RoundW Y n so sl I m (loopId l) (l.drop 1) Q (.exit j) σ'.env.length (so.map fun i => lv i σ') σ'.h := ho
    simp only [RoundW] at ho
    by_cases hj : j = loopId l
    · rw [if_pos hj] at ho
      simp only [if_pos hj]
      obtain ⟨h3, sl', h4, h5⟩ := ho
      exact triL_view h2 h3 (pick_ok h4 rfl) rfl h5
    · rw [if_neg hj] at ho
      simp only [if_neg hj]
      exact ho σ' rfl rfl rfl
  | ret => exact ho σ' rfl rfl rfl

theorem roundW_exit {n : Nat} {so sl : List Nat} {I : Nat → List V → Heap → Prop} {m id j : Nat} {r : List Code} {Q : Out → St → Prop} {len : Nat} {vs : List V} {h : Heap} (sl' : List Nat) (hj : j = id) (hn : len = n) (hs : sl'.all so.contains = true)
    (ht : TriL Y r ⟨mk n (sl'.zip (pick so sl' vs)), [], h⟩ Q) : RoundW Y n so sl I m id r Q (.exit j) len vs h := by
  simp only [RoundW]
  rw [if_pos hj]
  exact ⟨hn, sl', hs, ht⟩

def isLoopE : List Code → Bool
  | [.block _ (.loop _)] => true
  | _ => false
theorem isLoopE_eq {l : List Code} (h : isLoopE l = true) : l = [.block (loopId l) (.loop (loopB l))] := by
  unfold isLoopE at h
  split at h
  · rfl
  · cases h

/-- .. of a loop that stands last. -/
def RoundE (n : Nat) (so sl : List Nat) (I : Nat → List V → Heap → Prop) (m id : Nat) (Q : Out → St → Prop) (o : Out) (len : Nat) (vs : List V) (h : Heap) : Prop :=
  match o with
  | .normal => len = n ∧ ∃ m', m' < m ∧ I m' (pick so sl vs) h
  | .exit j => if j = id then AtV so Q .normal len vs h else AtV so Q (.exit j) len vs h
  | .ret => AtV so Q .ret len vs h

theorem loopE {n : Nat} (sl so : List Nat) {σ : St} {l : List Code} {Q : Out → St → Prop} (hsub : sl.all so.contains = true) (hl : isLoopE l = true) (I : Nat → List V → Heap → Prop) (m0 : Nat) (hn : σ.env.length = n)
    (h0 : I m0 (sl.map fun i => lv i σ) σ.h)
    (round : ∀ m vs h, I m vs h → TriL Y (flat (loopB l)) ⟨mk n (sl.zip vs), [], h⟩ (VQ so (RoundE n so sl I m (loopId l) Q))) : TriL Y l σ Q := by
  rw [isLoopE_eq hl]
  refine triL_block (tri_loop (fun m τ => τ.env.length = n ∧ I m (sl.map fun i => lv i τ) τ.h) (n := m0) ⟨hn, h0⟩ ?_)
  rintro m τ ⟨hτ, hI⟩
  have hr := triL_flat (c := loopB l) (r := []) (by rw [List.append_nil]; exact round m _ _ hI)
  refine (tri_view hτ rfl rfl hr).mono ?_
  intro o σ' ho
  cases o with
  | normal =>
    obtain ⟨h1, m', h2, h3⟩ := ho
    exact ⟨m', h2, h1, by rw [pick_ok hsub rfl]; exact h3⟩
  | exit j =>
    have ho : RoundE n so sl I m (loopId l) Q (.exit j) σ'.env.length (so.map fun i => lv i σ') σ'.h := ho
    simp only [RoundE] at ho
    by_cases hj : j = loopId l
    · rw [if_pos hj] at ho
      simp only [if_pos hj]
      exact ho σ' rfl rfl rfl
    · rw [if_neg hj] at ho
      simp only [if_neg hj]
      exact ho σ' rfl rfl rfl
  | ret => exact ho σ' rfl rfl rfl

/-- What a block comes to. -/
def ContW (Y : YP) (n : Nat) (so : List Nat) (id : Nat) (r : List Code) (Q : Out → St → Prop) (o : Out) (len : Nat) (vs : List V) (h : Heap) : Prop :=
  match o with
  | .normal => len = n ∧ ∃ sl' : List Nat, sl'.all so.contains = true ∧ TriL Y r ⟨mk n (sl'.zip (pick so sl' vs)), [], h⟩ Q
  | .exit j => if j = id then len = n ∧ ∃ sl' : List Nat, sl'.all so.contains = true ∧ TriL Y r ⟨mk n (sl'.zip (pick so sl' vs)), [], h⟩ Q else AtV so Q (.exit j) len vs h
  | .ret => AtV so Q .ret len vs h

theorem block2 {n : Nat} (so : List Nat) {σ : St} {l : List Code} {Q : Out → St → Prop} (hl : isBlock l = true)
    (h : TriL Y (flat (blockB l)) σ (VQ so (ContW Y n so (blockId l) (l.drop 1) Q))) : TriL Y l σ Q := by
  obtain ⟨h1, h2⟩ := isBlock_eq hl
  rw [h1]
  have h3 := triL_flat (c := blockB l) (r := []) (by rw [List.append_nil]; exact h)
  refine triL_block (Tri.mono h3 ?_)
  intro o σ' ho
  cases o with
  | normal => obtain ⟨g1, sl', g2, g3⟩ := ho; exact triL_view h2 g1 (pick_ok g2 rfl) rfl g3
  | ret => exact ho σ' rfl rfl rfl
  | exit j =>
    have ho : ContW Y n so (blockId l) (l.drop 1) Q (.exit j) _ _ _ := ho
    simp only [ContW] at ho
    by_cases hj : j = blockId l
    · rw [if_pos hj] at ho
      simp only [if_pos hj]
      obtain ⟨g1, sl', g2, g3⟩ := ho
      exact triL_view h2 g1 (pick_ok g2 rfl) rfl g3
    · rw [if_neg hj] at ho
      simp only [if_neg hj]
      exact ho σ' rfl rfl rfl

theorem contW_exit {n : Nat} {so : List Nat} {id j : Nat} {r : List Code} {Q : Out → St → Prop} {len : Nat} {vs : List V} {h : Heap} (sl' : List Nat) (hj : j = id) (hn : len = n) (hs : sl'.all so.contains = true)
    (ht : TriL Y r ⟨mk n (sl'.zip (pick so sl' vs)), [], h⟩ Q) : ContW Y n so id r Q (.exit j) len vs h := by
  simp only [ContW]
  rw [if_pos hj]
  exact ⟨hn, sl', hs, ht⟩

theorem at_pick {n : Nat} {so sl : List Nat} {K : Out → Nat → List V → Heap → Prop} {o : Out} {vs : List V} {h : Heap} (hs : sl.all so.contains = true) (hk : K o n (pick so sl vs) h) : AtV so (VQ sl K) o n vs h := by
  rintro τ rfl h2 rfl
  show K o τ.env.length (sl.map fun i => lv i τ) τ.h
  rw [pick_ok hs h2]
  exact hk

/-- Two views of one state. -/
def Two (so1 : List Nat) (vs1 : List V) (so2 : List Nat) (vs2 : List V) : Prop := ∃ τ : St, (so1.map fun i => lv i τ) = vs1 ∧ (so2.map fun i => lv i τ) = vs2
theorem two_pick {so1 so2 sl : List Nat} {vs1 vs2 : List V} (hc : Two so1 vs1 so2 vs2) (h1 : sl.all so1.contains = true) (h2 : sl.all so2.contains = true) : pick so2 sl vs2 = pick so1 sl vs1 := by
  obtain ⟨τ, e1, e2⟩ := hc
  rw [← pick_ok h1 e1, ← pick_ok h2 e2]

theorem all_two (hY : YOK Y) {loc : Nat → Bool} (fuel : Nat) (so1 : List Nat) {so2 : List Nat} {σ : St} {l : List Code} {K : Out → Nat → List V → Heap → Prop} (h : codeP Y loc fuel l σ (VQ so1 fun o n vs h => ∀ vs2, Two so1 vs so2 vs2 → K o n vs2 h)) : TriL Y l σ (VQ so2 K) :=
  (codeP_ok hY _ _ _ _ h).mono fun _ σ' ho => ho _ ⟨σ', rfl, rfl⟩

theorem at_two {n : Nat} {so1 so2 : List Nat} {K : Out → Nat → List V → Heap → Prop} {o : Out} {vs : List V} {h : Heap} (hk : ∀ vs2, Two so1 vs so2 vs2 → K o n vs2 h) : AtV so1 (VQ so2 K) o n vs h := by
  rintro τ rfl h2 rfl
  exact hk _ ⟨τ, h2, rfl⟩

theorem roundW_normal {n : Nat} {so1 so sl : List Nat} {I : Nat → List V → Heap → Prop} {m id : Nat} {r : List Code} {Q : Out → St → Prop} {len : Nat} {vs vs2 : List V} {h : Heap} (ht : Two so1 vs so vs2) (h1 : sl.all so1.contains = true) (h2 : sl.all so.contains = true) (hn : len = n) (m' : Nat) (hm : m' < m)
    (hi : I m' (pick so1 sl vs) h) : RoundW Y n so sl I m id r Q .normal len vs2 h := ⟨hn, m', hm, by rw [two_pick ht h1 h2]; exact hi⟩

theorem roundW_exit2 {n : Nat} {so1 so sl : List Nat} {I : Nat → List V → Heap → Prop} {m id j : Nat} {r : List Code} {Q : Out → St → Prop} {len : Nat} {vs vs2 : List V} {h : Heap} (sl' : List Nat) (h2 : Two so1 vs so vs2) (hj : j = id) (hn : len = n) (hs1 : sl'.all so1.contains = true) (hs : sl'.all so.contains = true)
    (ht : TriL Y r ⟨mk n (sl'.zip (pick so1 sl' vs)), [], h⟩ Q) : RoundW Y n so sl I m id r Q (.exit j) len vs2 h :=
  roundW_exit sl' hj hn hs (by rw [two_pick h2 hs1 hs]; exact ht)

/-- A view that is asked by fewer slots than are seen. -/
theorem vq_more {n : Nat} {so sl : List Nat} {σ : St} {l : List Code} {K : Out → Nat → List V → Heap → Prop} (hs : sl.all so.contains = true) (h : TriL Y l σ (VQ so fun o len vs h => K o len (pick so sl vs) h)) : TriL Y l σ (VQ sl K) :=
  h.mono fun o σ' ho => by
    have ho : K o σ'.env.length (pick so sl (so.map fun i => lv i σ')) σ'.h := ho
    show K o σ'.env.length (sl.map fun i => lv i σ') σ'.h
    rw [pick_ok hs rfl]
    exact ho
end

/-- The end of a function that starts from nothing. -/
theorem fin_at {Y : YP} {fn : Func} {so : List Nat} {P : V → Heap → Prop} {o : Out} {n : Nat} {vs : List V} {h : Heap} {v : V} (ho : o = .normal ∨ o = .ret) (hv : resV Y fn (so.zip vs) = some v) (hp : P v h) : AtV so (FinS Y fn P) o n vs h :=
  fin_ok ⟨ho, v, hv, hp⟩
end Go.Y
