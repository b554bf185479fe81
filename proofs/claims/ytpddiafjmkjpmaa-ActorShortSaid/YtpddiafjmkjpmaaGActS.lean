/- What a peer may do, in plain Lean. -/
import Derived.Test.YtpddiafjmkjpmaaGRLine
import Derived.Test.YtpddiafjmkjpmaaGA7
namespace Go.Y
open Go.Proofs
set_option maxRecDepth 100000

def longE (es : List Edge) : Int := es.foldl (fun n e => max (max n e.lo) e.hi) 0
def longestS (l : List Plc) (p : Int) : Int := if p < 0 then 0 else match l[p.toNat]? with
  | some x => longE x.edges
  | none => 0
def shortS (s : Side) (l : List Plc) : Side := { s with clock := min s.clock (longestS l s.place) }
def edgesS (s : Side) (cap : Int) (l : List Plc) : List Edge := if maySd s l.length cap (peerS cap l) && s.on && !s.shut then (match l[s.place.toNat]? with
  | some x => x.edges
  | none => []) else []
def globOf (s : List UInt8) : List Glob := if 200 < s.length then [] else match parseS (s.length + 1) s 0 [] with
  | .error _ => []
  | .ok l => l
def hitS (s : Side) (e : Edge) : Bool := match s.lines with
  | [] => false
  | a :: _ => mayS (globOf e.text) && M (globOf e.text) a
def openS (s : Side) (cap : Int) (e : Edge) : Bool :=
  if e.kind = 1 then leI e.lo s.clock && leI e.text.length (roomS s cap) else if e.kind = 2 then hitS s e else leI e.lo s.clock
def openFrom (s : Side) (cap : Int) : List Edge → Nat → List Int
  | [], _ => []
  | e :: r, i => if openS s cap e then (i : Int) :: openFrom s cap r (i + 1) else openFrom s cap r (i + 1)
def openL (s : Side) (cap : Int) (l : List Plc) : List Int := openFrom s cap (edgesS s cap l) 0
def presE (s : Side) (cap : Int) (e : Edge) : Bool := openS s cap e && (e.kind == 2 || leI 0 e.hi && leI e.hi s.clock)
def pressesS (s : Side) (cap : Int) (l : List Plc) : Bool := (edgesS s cap l).any (presE s cap)
def laterE (s : Side) (cap : Int) (e : Edge) : Bool := (e.kind == 3 || e.kind == 1 && leI e.text.length (roomS s cap)) && ltI s.clock e.lo
def laterS (s : Side) (cap : Int) (l : List Plc) : Bool := (edgesS s cap l).any (laterE s cap)
def doneS (s : Side) (cap : Int) (e : Edge) : Side :=
  if e.kind = 1 then { (writeS s cap e.text).1 with place := e.to, clock := 0 } else if e.kind = 2 then { (nextLn s).1 with place := e.to, clock := 0 }
  else if e.kind = 3 then { s with shut := true, place := 0, typed := [], lines := [], clock := 0 } else { s with clock := 0 }
def doS (s : Side) (cap : Int) (l : List Plc) (i : Int) : Side × Int :=
  if maySd s l.length cap (peerS cap l) = false then (side00, 5) else if i < 0 then (side00, 11) else match (edgesS s cap l)[i.toNat]? with
    | none => (side00, 11)
    | some e => if openS s cap e then (doneS s cap e, 0) else (side00, 11)

theorem longE_go (es : List Edge) (n : Int) : n ≤ es.foldl (fun n e => max (max n e.lo) e.hi) n ∧ ∀ e ∈ es, e.lo ≤ es.foldl (fun n e => max (max n e.lo) e.hi) n ∧ e.hi ≤ es.foldl (fun n e => max (max n e.lo) e.hi) n := by
  induction es generalizing n with
  | nil => exact ⟨Int.le_refl _, fun e he => by cases he⟩
  | cons x es ih =>
    obtain ⟨h1, h2⟩ := ih (max (max n x.lo) x.hi)
    simp only [List.foldl_cons]
    refine ⟨by omega, fun e he => ?_⟩
    rcases List.mem_cons.1 he with rfl | he
    · omega
    · exact h2 e he
theorem longE_ge {es : List Edge} {e : Edge} (h : e ∈ es) : e.lo ≤ longE es ∧ e.hi ≤ longE es := (longE_go es 0).2 e h
theorem longE_0 (es : List Edge) : 0 ≤ longE es := (longE_go es 0).1
theorem longestS_0 (l : List Plc) (p : Int) : 0 ≤ longestS l p := by
  unfold longestS
  split
  · exact Int.le_refl _
  · split
    · exact longE_0 _
    · exact Int.le_refl _
theorem edges_long {s : Side} {cap : Int} {l : List Plc} {e : Edge} (h : e ∈ edgesS s cap l) (p0 : 0 ≤ s.place) : e.lo ≤ longestS l s.place ∧ e.hi ≤ longestS l s.place := by
  unfold edgesS at h
  unfold longestS
  rw [if_neg (by omega)]
  split at h
  · split at h
    · exact longE_ge h
    · cases h
  · cases h

/-! ### may, of the next ones -/
theorem mayOn_parts {s : Side} {np : Nat} {cap : Int} {pm : Bool} (h : mayOn s np cap pm = true) : 0 ≤ s.place ∧ s.place < np ∧ 0 ≤ s.clock ∧ s.ages.length = s.fly.length ∧ downS s.ages = true ∧ (s.shut = true → s.place = 0 ∧ s.clock = 0) := by
  unfold mayOn agedS at h
  simp only [Bool.and_eq_true, decide_eq_true_eq, Bool.or_eq_true, Bool.not_eq_true'] at h
  obtain ⟨⟨⟨⟨⟨⟨⟨⟨⟨⟨⟨a1, a2⟩, a3⟩, a4⟩, a5⟩, a6⟩, a7⟩, a8, a8'⟩, a9⟩, a10⟩, a11⟩, a12⟩ := h
  refine ⟨a2, a3, a4, a8, a8', fun hs => ?_⟩
  rcases a11 with h | h
  · rw [hs] at h; cases h
  · exact ⟨h.1, h.2.1⟩
theorem mayOff_side {s : Side} {np : Nat} {cap : Int} {pm : Bool} (h : mayOff s np cap pm = true) : s = side00 ∧ 0 < np := by
  unfold mayOff at h
  simp only [Bool.and_eq_true, decide_eq_true_eq] at h
  obtain ⟨⟨⟨⟨⟨⟨⟨⟨⟨⟨a1, a2⟩, a3⟩, a4⟩, a5⟩, a6⟩, a7⟩, a8⟩, a9⟩, a10⟩, a11⟩ := h
  exact ⟨a11, by omega⟩

theorem mayOn_clock {s : Side} {np : Nat} {cap : Int} {pm : Bool} (h : mayOn s np cap pm = true) (c : Int) (h0 : 0 ≤ c) (hs : s.shut = true → c = 0) : mayOn { s with clock := c } np cap pm = true := by
  unfold mayOn agedS at h ⊢
  have hr : roomS { s with clock := c } cap = roomS s cap := rfl
  rw [hr]
  simp only [Bool.and_eq_true, decide_eq_true_eq, Bool.or_eq_true, Bool.not_eq_true'] at h ⊢
  obtain ⟨⟨⟨⟨⟨⟨⟨⟨⟨⟨⟨a1, a2⟩, a3⟩, a4⟩, a5⟩, a6⟩, a7⟩, a8, a8'⟩, a9⟩, a10⟩, a11⟩, a12⟩ := h
  refine ⟨⟨⟨⟨⟨⟨⟨⟨⟨⟨⟨a1, a2⟩, a3⟩, h0⟩, a5⟩, a6⟩, a7⟩, a8, a8'⟩, a9⟩, a10⟩, ?_⟩, a12⟩
  rcases a11 with h | h
  · exact .inl h
  · by_cases hsh : s.shut = true
    · exact .inr ⟨h.1, hs hsh, h.2.2⟩
    · exact .inl (by simpa using hsh)
theorem short_may {s : Side} {cap : Int} {l : List Plc} {pm : Bool} (h : maySd s l.length cap pm = true) : maySd (shortS s l) l.length cap pm = true := by
  have h0 := longestS_0 l s.place
  unfold maySd at h ⊢
  have e : (shortS s l).on = s.on := rfl
  rw [e]
  cases hon : s.on with
  | true =>
    rw [hon] at h
    have hp := mayOn_parts h
    exact mayOn_clock h _ (by omega) (fun hs => by have := (hp.2.2.2.2.2 hs).2; omega)
  | false =>
    rw [hon] at h
    obtain ⟨e1, e2⟩ := mayOff_side h
    have : shortS s l = s := by
      subst e1
      unfold shortS
      have : min side00.clock (longestS l side00.place) = side00.clock := by
        have : side00.clock = 0 := rfl
        have h1 : 0 ≤ longestS l side00.place := h0
        omega
      rw [this]
    rw [this]; exact h

theorem down_bump {l : List Int} (h : downS l = true) (hb : ∀ a ∈ l, a ≤ 2 ^ 61) : downS (l.map bump) = true := by
  unfold downS at h ⊢
  rw [List.all_eq_true] at h ⊢
  have key : ∀ (j : Nat) (a : Int), l[j]? = some a → 0 ≤ a ∧ bump a = a + 1 := by
    intro j a ha
    have hj : j < l.length := (List.getElem?_eq_some_iff.1 ha).1
    have := h j (List.mem_range.2 hj)
    unfold okAge at this
    rw [ha] at this
    simp only [Bool.and_eq_true, decide_eq_true_eq] at this
    have hm : a ∈ l := List.mem_of_getElem? ha
    have := hb a hm
    refine ⟨by omega, ?_⟩
    unfold bump
    exact wrap_ok (by omega) (by omega)
  intro j hj
  have hj : j < l.length := by simpa using hj
  have h1 := h j (List.mem_range.2 hj)
  unfold okAge at h1 ⊢
  rw [List.getElem?_map]
  rw [List.getElem?_eq_getElem hj] at h1 ⊢
  have k1 := key j _ (List.getElem?_eq_getElem hj)
  simp only [Option.map_some, k1.2] at h1 ⊢
  simp only [Bool.and_eq_true, decide_eq_true_eq] at h1 ⊢
  refine ⟨by omega, ?_⟩
  cases j with
  | zero => rfl
  | succ k =>
    have hk : k < l.length := by omega
    have k2 := key k _ (List.getElem?_eq_getElem hk)
    have h2 := h1.2
    simp only [List.getElem?_map, List.getElem?_eq_getElem hk, Option.map_some, decide_eq_true_eq, k2.2] at h2 ⊢
    omega

/-- Bounds under which a tick is nothing but a sum. -/
def Young (s : Side) (B : Int) : Prop := (∀ a ∈ s.ages, a ≤ B) ∧ s.clock ≤ B
theorem tick_clock {s : Side} {B : Int} (h : Young s B) (hB : B ≤ 2 ^ 61) (h0 : 0 ≤ s.clock) : (tickS s).clock = if s.on && !s.shut then s.clock + 1 else s.clock := by
  unfold tickS
  simp only
  split
  · exact wrap_ok (by omega) (by have := h.2; omega)
  · rfl
theorem Young.tick {s : Side} {B : Int} (h : Young s B) (hB : B ≤ 2 ^ 61) (h0 : 0 ≤ s.clock) (hd : downS s.ages = true) : Young (tickS s) (B + 1) := by
  refine ⟨fun a ha => ?_, ?_⟩
  · simp only [tickS] at ha
    obtain ⟨b, hb, rfl⟩ := List.mem_map.1 ha
    have h1 := h.1 b hb
    have : 0 ≤ b := by
      obtain ⟨j, hj, rfl⟩ := List.getElem_of_mem hb
      unfold downS at hd
      rw [List.all_eq_true] at hd
      have := hd j (List.mem_range.2 hj)
      unfold okAge at this
      rw [List.getElem?_eq_getElem hj] at this
      simp only [Bool.and_eq_true, decide_eq_true_eq] at this
      exact this.1
    have : bump b = b + 1 := by unfold bump; exact wrap_ok (by omega) (by omega)
    omega
  · rw [tick_clock h hB h0]
    have := h.2
    split <;> omega
theorem tick_may {s : Side} {cap : Int} {l : List Plc} {pm : Bool} {B : Int} (hy : Young s B) (hB : B ≤ 2 ^ 61) (h : maySd s l.length cap pm = true) : maySd (tickS s) l.length cap pm = true := by
  unfold maySd at h ⊢
  have e : (tickS s).on = s.on := rfl
  rw [e]
  cases hon : s.on with
  | true =>
    rw [hon] at h
    have h : mayOn s l.length cap pm = true := h
    show mayOn (tickS s) l.length cap pm = true
    obtain ⟨p1, p2, p3, p4, p5, p6⟩ := mayOn_parts h
    have hc := tick_clock hy hB p3
    have h2 := mayOn_clock h (tickS s).clock (by rw [hc]; split <;> omega) (fun hs => by rw [hc, hs]; simp; exact (p6 hs).2)
    have hd := down_bump p5 (fun a ha => by have := hy.1 a ha; omega)
    unfold mayOn agedS at h2 ⊢
    have hr : roomS (tickS s) cap = roomS { s with clock := (tickS s).clock } cap := rfl
    rw [hr]
    simp only [tickS, List.length_map] at h2 ⊢
    rw [hd, Bool.and_true]
    rw [p5, Bool.and_true] at h2
    exact h2
  | false =>
    rw [hon] at h
    obtain ⟨e1, e2⟩ := mayOff_side h
    have : tickS s = s := by subst e1; rfl
    rw [this]; exact h
theorem maySd_parts {s : Side} {cap : Int} {l : List Plc} {pm : Bool} (h : maySd s l.length cap pm = true) : 0 ≤ s.place ∧ s.place < l.length ∧ 0 ≤ s.clock ∧ downS s.ages = true := by
  unfold maySd at h
  cases hon : s.on with
  | true =>
    rw [hon] at h
    obtain ⟨p1, p2, p3, p4, p5, p6⟩ := mayOn_parts h
    exact ⟨p1, p2, p3, p5⟩
  | false =>
    rw [hon] at h
    obtain ⟨e1, e2⟩ := mayOff_side h
    subst e1
    exact ⟨by decide, by show (0 : Int) < _; omega, by decide, by decide⟩

/-! ### Short -/
section
variable {s : Side} {cap : Int} {l : List Plc}
theorem short_edges (h : maySd s l.length cap (peerS cap l) = true) : edgesS (shortS s l) cap l = edgesS s cap l := by
  unfold edgesS
  rw [h, short_may h]
  rfl
theorem le_min {a c m : Int} (h : a ≤ m) : leI a (min c m) = leI a c := by
  unfold leI
  by_cases hc : a ≤ c
  · simp [hc, h, Int.le_min]
  · have : ¬ a ≤ min c m := by omega
    simp [hc, this]
theorem lt_min {a c m : Int} (h : a ≤ m) : ltI (min c m) a = ltI c a := by
  unfold ltI
  by_cases hc : c < a
  · have : min c m < a := by omega
    simp [hc, this]
  · have : ¬ min c m < a := by omega
    simp [hc, this]
theorem short_open {e : Edge} (h : e.lo ≤ longestS l s.place) : openS (shortS s l) cap e = openS s cap e := by
  unfold openS
  have hr : roomS (shortS s l) cap = roomS s cap := rfl
  have hc : (shortS s l).clock = min s.clock (longestS l s.place) := rfl
  have hh : hitS (shortS s l) e = hitS s e := rfl
  rw [hr, hc, hh, le_min h]
theorem openFrom_congr {s' : Side} : ∀ (es : List Edge) (i : Nat), (∀ e ∈ es, openS s' cap e = openS s cap e) → openFrom s' cap es i = openFrom s cap es i
  | [], _, _ => rfl
  | e :: r, i, h => by
    unfold openFrom
    rw [h e (by simp), openFrom_congr r (i + 1) fun x hx => h x (by simp [hx])]
theorem short_openL (h : maySd s l.length cap (peerS cap l) = true) : openL (shortS s l) cap l = openL s cap l := by
  unfold openL
  rw [short_edges h]
  exact openFrom_congr _ _ fun e he => short_open (edges_long he (maySd_parts h).1).1
theorem any_congr' {α : Type} {p q : α → Bool} : ∀ (l : List α), (∀ x ∈ l, p x = q x) → l.any p = l.any q
  | [], _ => rfl
  | x :: l, h => by rw [List.any_cons, List.any_cons, h x (by simp), any_congr' l fun y hy => h y (by simp [hy])]
theorem short_presses (h : maySd s l.length cap (peerS cap l) = true) : pressesS (shortS s l) cap l = pressesS s cap l := by
  unfold pressesS
  rw [short_edges h]
  refine any_congr' _ fun e he => ?_
  have hl := edges_long he (maySd_parts h).1
  have hc : (shortS s l).clock = min s.clock (longestS l s.place) := rfl
  unfold presE
  rw [short_open hl.1, hc, le_min hl.2]
theorem short_later (h : maySd s l.length cap (peerS cap l) = true) : laterS (shortS s l) cap l = laterS s cap l := by
  unfold laterS
  rw [short_edges h]
  refine any_congr' _ fun e he => ?_
  have hl := edges_long he (maySd_parts h).1
  have hc : (shortS s l).clock = min s.clock (longestS l s.place) := rfl
  have hr : roomS (shortS s l) cap = roomS s cap := rfl
  unfold laterE
  rw [hr, hc, lt_min hl.1]
theorem short_done (e : Edge) : doneS (shortS s l) cap e = doneS s cap e := by
  unfold doneS
  have hr : roomS (shortS s l) cap = roomS s cap := rfl
  have hw : { (writeS (shortS s l) cap e.text).1 with place := e.to, clock := 0 } = { (writeS s cap e.text).1 with place := e.to, clock := 0 } := by
    unfold writeS
    rw [hr]
    split <;> rfl
  have hn : { (nextLn (shortS s l)).1 with place := e.to, clock := 0 } = { (nextLn s).1 with place := e.to, clock := 0 } := by
    unfold nextLn
    have : (shortS s l).lines = s.lines := rfl
    rw [this]
    split <;> rfl
  rw [hw, hn]
  rfl
theorem short_do (h : maySd s l.length cap (peerS cap l) = true) (i : Int) : doS (shortS s l) cap l i = doS s cap l i := by
  unfold doS
  rw [h, short_may h, short_edges h]
  have e1 : ¬ (true = false) := by decide
  rw [if_neg e1, if_neg e1]
  by_cases hi : i < 0
  · rw [if_pos hi, if_pos hi]
  · rw [if_neg hi, if_neg hi]
    cases h1 : (edgesS s cap l)[i.toNat]? with
    | none => rfl
    | some e =>
      simp only
      rw [short_open (edges_long (List.mem_of_getElem? h1) (maySd_parts h).1).1, short_done]
theorem short_short : shortS (shortS s l) l = shortS s l := by
  unfold shortS
  simp only [Int.min_assoc, Int.min_self]
theorem short_tick {B : Int} (hy : Young s B) (hB : B ≤ 2 ^ 61) (h0 : 0 ≤ s.clock) : shortS (tickS (shortS s l)) l = shortS (tickS s) l := by
  have hm := longestS_0 l s.place
  have hy' : Young (shortS s l) B := ⟨hy.1, by have := hy.2; show min s.clock (longestS l s.place) ≤ B; omega⟩
  have h1 := tick_clock hy hB h0
  have h2 := tick_clock hy' hB (show 0 ≤ min s.clock (longestS l s.place) by omega)
  have h3 : (shortS s l).on = s.on := rfl
  have h4 : (shortS s l).shut = s.shut := rfl
  have h5 : (shortS s l).clock = min s.clock (longestS l s.place) := rfl
  rw [h3, h4, h5] at h2
  have e : min (tickS (shortS s l)).clock (longestS l s.place) = min (tickS s).clock (longestS l s.place) := by
    rw [h1, h2]
    split <;> omega
  show { tickS (shortS s l) with clock := min (tickS (shortS s l)).clock (longestS l s.place) } = { tickS s with clock := min (tickS s).clock (longestS l s.place) }
  rw [e]
  rfl
end
end Go.Y

/- Edges that will be open later, in plain Lean. -/
namespace Go.Y
open Go.Proofs
set_option maxRecDepth 100000

/-! ### what a parse comes to is short -/
theorem setS_len {s : List UInt8} : ∀ {n i : Nat} {out l : List Span} {j : Nat}, setS n s i out = .ok (l, j) → l.length ≤ out.length + (j - i)
  | 0, _, _, _, _, h => by cases h
  | n + 1, i, out, l, j, h => by
    simp only [setS] at h
    split at h
    · cases h; omega
    · split at h
      · cases h
      · rename_i x k h1
        have g1 := itemS_ok h1
        have g2 := setS_len h
        have g3 := setS_ok h
        simp only [List.length_append, List.length_cons, List.length_nil] at g2
        omega
theorem pieceS_len {s : List UInt8} {i : Nat} {x : Glob} {j : Nat} (h : pieceS s i = .ok (x, j)) : x.sp.length ≤ s.length := by
  unfold pieceS at h
  split at h
  · cases h
  · split at h
    · cases h; exact Nat.zero_le _
    · split at h
      · cases h; exact Nat.zero_le _
      · split at h
        · split at h
          · cases h
          · rename_i l k h1
            have g1 := setS_len h1
            have g2 := setS_ok h1
            cases h
            simp only [List.length_nil] at g1
            show l.length ≤ s.length
            omega
        · split at h
          · split at h
            · cases h
            · cases h; exact Nat.zero_le _
          · cases h; exact Nat.zero_le _
theorem parseS_len {s : List UInt8} : ∀ {n i : Nat} {out l : List Glob}, parseS n s i out = .ok l → i ≤ s.length → (∀ x ∈ out, x.sp.length ≤ s.length) → l.length ≤ out.length + (s.length - i) ∧ ∀ x ∈ l, x.sp.length ≤ s.length
  | 0, _, _, _, h, _, _ => by cases h
  | n + 1, i, out, l, h, hi, ho => by
    simp only [parseS] at h
    split at h
    · split at h
      · cases h
      · rename_i x j h1
        have g1 := pieceS_ok h1
        have g2 := pieceS_len h1
        have g3 := parseS_len h g1.2 (fun y hy => by
          rcases List.mem_append.1 hy with hy | hy
          · exact ho y hy
          · rw [List.mem_singleton.1 hy]; exact g2)
        simp only [List.length_append, List.length_cons, List.length_nil] at g3
        exact ⟨by omega, g3.2⟩
    · simp only [Except.ok.injEq] at h
      subst h
      exact ⟨by omega, ho⟩
theorem globOf_ok (s : List UInt8) : okG (globOf s) := by
  unfold globOf
  split
  · exact ⟨by decide, fun x hx => by cases hx⟩
  · rename_i h200
    split
    · exact ⟨by decide, fun x hx => by cases hx⟩
    · rename_i l hl
      have := parseS_len hl (Nat.zero_le _) (fun x hx => by cases hx)
      simp only [List.length_nil] at this
      exact ⟨by omega, fun x hx => by have := this.2 x hx; omega⟩
theorem parseR_glob (s : List UInt8) : ∃ a e : Int, parseR s = .tup [lst encG (globOf s), .i .i64 a, .i .i64 e] := by
  unfold parseR globOf
  split
  · exact ⟨_, _, rfl⟩
  · cases parseS (s.length + 1) s 0 [] with
    | error e => exact ⟨_, _, rfl⟩
    | ok l => exact ⟨_, _, rfl⟩

/-! ### edges that are right -/
theorem peer_edges {s : Side} {cap : Int} {l : List Plc} (hp : peerS cap l = true) {e : Edge} (h : e ∈ edgesS s cap l) : edgeS e cap l.length = true := by
  unfold edgesS at h
  split at h
  · split at h
    · rename_i x hx
      unfold peerS at hp
      simp only [Bool.and_eq_true] at hp
      have hlt := (List.getElem?_eq_some_iff.1 hx).1
      have := List.all_eq_true.1 hp.2 _ (List.mem_range.2 hlt)
      unfold okPl at this
      rw [hx] at this
      simp only [Bool.and_eq_true] at this
      exact List.all_eq_true.1 this.2 e h
    · cases h
  · cases h
theorem edge_kinds {e : Edge} {cap : Int} {np : Nat} (h : edgeS e cap np = true) : (e.kind = 1 ∧ e.text ≠ [] ∨ e.kind = 2 ∨ e.kind = 3) ∧ e.lo ≤ 9 := by
  unfold edgeS at h
  split at h
  · rename_i h1
    simp only [Bool.and_eq_true, timesS, leI, decide_eq_true_eq, Bool.not_eq_true', beq_eq_false_iff_ne] at h
    exact ⟨.inl ⟨h1, h.1.2⟩, h.1.1.2.1.2⟩
  · split at h
    · rename_i h2
      simp only [Bool.and_eq_true, beq_iff_eq] at h
      exact ⟨.inr (.inl h2), by have := h.1.1.2; omega⟩
    · split at h
      · rename_i h3
        simp only [Bool.and_eq_true, timesS, leI, decide_eq_true_eq] at h
        exact ⟨.inr (.inr h3), h.2.1.2⟩
      · cases h
theorem maySd_peer {s : Side} {cap : Int} {l : List Plc} {pm : Bool} (h : maySd s l.length cap pm = true) : pm = true := by
  unfold maySd at h
  cases pm with
  | true => rfl
  | false =>
    split at h
    · simp [mayOn] at h
    · simp [mayOff] at h

/-! ### ticks -/
def tickN : Nat → Side → Side
  | 0, s => s
  | k + 1, s => tickS (tickN k s)
theorem tickN_rest (s : Side) : ∀ k, ∃ ag c, tickN k s = { s with ages := ag, clock := c }
  | 0 => ⟨s.ages, s.clock, rfl⟩
  | k + 1 => by
    obtain ⟨ag, c, h⟩ := tickN_rest s k
    exact ⟨_, _, by rw [tickN, h]; rfl⟩
section
variable {s : Side} {cap : Int} {l : List Plc}
theorem tickN_ok (h : maySd s l.length cap (peerS cap l) = true) (hy : Young s (2 ^ 60)) : ∀ k : Nat, k ≤ 100 → maySd (tickN k s) l.length cap (peerS cap l) = true ∧ Young (tickN k s) (2 ^ 60 + (k : Int)) ∧ (tickN k s).clock = if s.on && !s.shut then s.clock + k else s.clock
  | 0, _ => ⟨h, by simpa [tickN] using hy, by simp [tickN]⟩
  | k + 1, hk => by
    obtain ⟨h1, h2, h3⟩ := tickN_ok h hy k (by omega)
    obtain ⟨p0, p1, p2, p3⟩ := maySd_parts h1
    refine ⟨tick_may h2 (by omega) h1, ?_, ?_⟩
    · have := h2.tick (by omega) p2 p3
      rw [tickN]
      have e : (2 : Int) ^ 60 + ((k + 1 : Nat) : Int) = 2 ^ 60 + (k : Int) + 1 := by omega
      rw [e]; exact this
    · obtain ⟨ag, c, hr⟩ := tickN_rest s k
      have ho : (tickN k s).on = s.on := by rw [hr]
      have hs : (tickN k s).shut = s.shut := by rw [hr]
      rw [tickN, tick_clock h2 (by omega) p2, ho, hs, h3]
      split <;> omega
theorem tickN_edges (h : maySd s l.length cap (peerS cap l) = true) (hy : Young s (2 ^ 60)) {k : Nat} (hk : k ≤ 100) : edgesS (tickN k s) cap l = edgesS s cap l := by
  have h1 := (tickN_ok h hy k hk).1
  unfold edgesS
  rw [h, h1]
  obtain ⟨ag, c, hr⟩ := tickN_rest s k
  rw [hr]
theorem tickN_open (h : maySd s l.length cap (peerS cap l) = true) (hy : Young s (2 ^ 60)) {k : Nat} (hk : k ≤ 100) (e : Edge) :
    openS (tickN k s) cap e = if e.kind = 1 then leI e.lo (tickN k s).clock && leI e.text.length (roomS s cap) else if e.kind = 2 then hitS s e else leI e.lo (tickN k s).clock := by
  obtain ⟨ag, c, hr⟩ := tickN_rest s k
  unfold openS
  have h1 : roomS (tickN k s) cap = roomS s cap := by rw [hr]; rfl
  have h2 : hitS (tickN k s) e = hitS s e := by rw [hr]; rfl
  rw [h1, h2]

theorem openFrom_len (s : Side) (cap : Int) : ∀ (es : List Edge) (i : Nat), (openFrom s cap es i).length = es.countP (openS s cap)
  | [], _ => rfl
  | e :: r, i => by
    unfold openFrom
    rw [List.countP_cons]
    split
    · rename_i h; simp [openFrom_len s cap r (i + 1)]
    · rename_i h; simp [openFrom_len s cap r (i + 1)]
theorem count_lt {α : Type} {p q : α → Bool} : ∀ (l : List α), (∀ x ∈ l, p x = true → q x = true) → decide (l.countP p < l.countP q) = l.any fun x => q x && !p x
  | [], _ => rfl
  | x :: l, h => by
    have h1 := count_lt l fun y hy => h y (by simp [hy])
    have h2 : l.countP p ≤ l.countP q := List.countP_mono_left fun y hy => h y (by simp [hy])
    have h3 := h x (by simp)
    rw [List.countP_cons, List.countP_cons, List.any_cons, ← h1]
    cases hp : p x with
    | true => rw [h3 hp]; simp
    | false =>
      cases hq : q x with
      | true => simp; omega
      | false => simp

theorem tick_mono (h : maySd s l.length cap (peerS cap l) = true) (hy : Young s (2 ^ 60)) {k : Nat} (hk : k ≤ 100) (e : Edge) (ho : openS s cap e = true) : openS (tickN k s) cap e = true := by
  rw [tickN_open h hy hk]
  have hc := (tickN_ok h hy k hk).2.2
  have hc' : s.clock ≤ (tickN k s).clock := by rw [hc]; split <;> omega
  unfold openS at ho
  have mono : leI e.lo s.clock = true → leI e.lo (tickN k s).clock = true := by
    intro h; simp only [leI, decide_eq_true_eq] at h ⊢; omega
  split
  · rename_i h1
    rw [if_pos h1] at ho
    simp only [Bool.and_eq_true] at ho ⊢
    exact ⟨mono ho.1, ho.2⟩
  · rename_i h1
    rw [if_neg h1] at ho
    split
    · rename_i h2
      rw [if_pos h2] at ho; exact ho
    · rename_i h2
      rw [if_neg h2] at ho; exact mono ho
theorem comes_more (h : maySd s l.length cap (peerS cap l) = true) (hy : Young s (2 ^ 60)) {k : Nat} (hk : k ≤ 100) : (openL s cap l).length ≤ (openL (tickN k s) cap l).length := by
  unfold openL
  rw [openFrom_len, openFrom_len, tickN_edges h hy hk]
  exact List.countP_mono_left fun e _ => tick_mono h hy hk e
theorem ltI_not (a b : Int) : ltI a b = !leI b a := by
  unfold ltI leI
  by_cases h : a < b
  · have : ¬ b ≤ a := by omega
    simp [h, this]
  · have : b ≤ a := by omega
    simp [h, this]
theorem edges_on {e : Edge} (he : e ∈ edgesS s cap l) : s.on = true ∧ s.shut = false := by
  unfold edgesS at he
  split at he
  · rename_i h
    simp only [Bool.and_eq_true, Bool.not_eq_true'] at h
    exact ⟨h.1.2, h.2⟩
  · cases he
theorem comes_later (h : maySd s l.length cap (peerS cap l) = true) (hy : Young s (2 ^ 60)) : laterS s cap l = decide ((openL s cap l).length < (openL (tickN 10 s) cap l).length) ∧ laterS (tickN 10 s) cap l = false := by
  have hp := maySd_peer h
  have p := maySd_parts h
  have h10 := tickN_ok h hy 10 (by omega)
  have hE := tickN_edges h hy (k := 10) (by omega)
  have key : ∀ e ∈ edgesS s cap l, e.lo ≤ 9 ∧ (e.kind = 1 ∨ e.kind = 2 ∨ e.kind = 3) ∧ (tickN 10 s).clock = s.clock + 10 := by
    intro e he
    obtain ⟨k1, k2⟩ := edge_kinds (peer_edges hp he)
    obtain ⟨k3, k4⟩ := edges_on he
    refine ⟨k2, ?_, ?_⟩
    · rcases k1 with h | h | h
      · exact .inl h.1
      · exact .inr (.inl h)
      · exact .inr (.inr h)
    · rw [h10.2.2, k3, k4]; rfl
  have hroom : roomS (tickN 10 s) cap = roomS s cap := by obtain ⟨ag, c, hr⟩ := tickN_rest s 10; rw [hr]; rfl
  refine ⟨?_, ?_⟩
  · unfold openL
    rw [openFrom_len, openFrom_len, hE, count_lt _ fun e _ => tick_mono h hy (by omega) e]
    unfold laterS
    refine any_congr' _ fun e he => ?_
    obtain ⟨k1, k2, k3⟩ := key e he
    have l10 : leI e.lo (tickN 10 s).clock = true := by simp only [leI, decide_eq_true_eq]; omega
    rw [tickN_open h hy (by omega), l10]
    unfold laterE openS
    rw [ltI_not]
    rcases k2 with k2 | k2 | k2
    · rw [k2]
      simp only [if_true, Bool.true_and]
      cases leI e.lo s.clock <;> cases leI (e.text.length : Nat) (roomS s cap) <;> rfl
    · rw [k2]
      have : ¬ ((2 : Int) = 1) := by decide
      simp only [this, if_true, if_false]
      cases hitS s e <;> cases leI e.lo s.clock <;> rfl
    · rw [k2]
      have a1 : ¬ ((3 : Int) = 1) := by decide
      have a2 : ¬ ((3 : Int) = 2) := by decide
      simp only [a1, a2, if_false]
      cases leI e.lo s.clock <;> rfl
  · unfold laterS
    rw [hE, List.any_eq_false]
    intro e he
    obtain ⟨k1, k2, k3⟩ := key e he
    unfold laterE
    have : ltI (tickN 10 s).clock e.lo = false := by simp only [ltI, decide_eq_false_iff_not]; omega
    rw [this, Bool.and_false]; simp
end
end Go.Y
