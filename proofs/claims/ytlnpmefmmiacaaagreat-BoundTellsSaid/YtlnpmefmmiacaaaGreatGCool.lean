/- Some objects become read-only ahead of a call; an object's cells with them. -/
import Derived.Test.YtlnpmefmmiacaaaGreatYFrz
import Derived.Test.YtlnpmefmmiacaaaGreatYTryzP
import Derived.Test.YtlnpmefmmiacaaaGreatYZ
namespace Go.Y

theorem FrzAL.length {h : Heap} : ∀ {l l' : List V}, FrzAL h l l' → l.length = l'.length
  | _, _, .nil => rfl
  | _, _, .cons _ _ _ _ _ hl => by simp [hl.length]
theorem FrzAL.get {h : Heap} : ∀ {l l' : List V}, FrzAL h l l' → ∀ {j : Nat} {v' : V}, l'[j]? = some v' → ∃ v, l[j]? = some v ∧ FrzA h v v'
  | _, _, .nil, j, v', h => by simp at h
  | _, _, .cons v v1 l l' hv hl, 0, v', h => by simp at h; subst h; exact ⟨v, rfl, hv⟩
  | _, _, .cons v v1 l l' hv hl, j + 1, v', h => by simp at h; simpa using hl.get h
theorem FrzAL.refl {h : Heap} : ∀ l : List V, FrzAL h l l
  | [] => .nil
  | v :: l => .cons _ _ _ _ (.same v) (FrzAL.refl l)

theorem HRel.cool {W : Vw} {h : Heap} {w : World} (hr : HRel W h w) (D : List Nat) {O : Nat} {cs cs' : List V} {wr : Bool} (hg : h.get O = some (.arr cs wr)) (hD : O ∉ D) (hf : FrzAL (takeD h D) cs cs') :
    HRel (W.frzD D w) ((killD h D).set O (some (.arr cs' wr))) w := by
  obtain ⟨g1, g2⟩ := hr.frzD D
  have hk : (killD h D).get O = some (.arr cs wr) := by rw [killD_get, if_neg hD]; exact hg
  refine ⟨g1.nx, fun j => ?_, fun j hj => ?_, g1.snap, fun j o hj => ?_, g1.inj, g1.apart, fun p hp => g1.tg p hp⟩
  · rw [Heap.get_set]
    by_cases e : j = O
    · subst e; rw [if_pos rfl, g1.lv j, hk]; simp
    · rw [if_neg e]; exact g1.lv j
  · rw [Heap.get_set] at hj
    by_cases e : j = O
    · subst e; exact g1.lt j (by rw [hk]; rfl)
    · rw [if_neg e] at hj; exact g1.lt j hj
  · rw [Heap.get_set] at hj
    by_cases e : j = O
    · subst e
      rw [if_pos rfl] at hj
      simp only [Option.some.injEq] at hj
      subst hj
      obtain ⟨c, e, fr, h1, h2, h3, h4, h5⟩ := hr.obj j _ hg
      refine ⟨c, e, fr, h1, h2, by rw [← hf.length]; exact h3, fun i v' hi => ?_, by rw [← hf.length]; exact h5⟩
      obtain ⟨v, hv, hz⟩ := hf.get hi
      obtain ⟨u, hu, hvu⟩ := h4 i v hv
      exact ⟨u, hu, hz.vr (Fz.of hr D) (frzD_le hr D) hvu⟩
    · rw [if_neg e] at hj; exact g1.obj j o hj

/-- A call, once some objects are read-only; what one object holds is known by them. -/
theorem Con.cool {Y : YP} {f : FuncId} {args args' : List V} {h : Heap} {Q : V → Heap → Prop} (D : List Nat) {O : Nat} {cs cs' : List V} {wr : Bool} (hg : h.get O = some (.arr cs wr)) (hD : O ∉ D) (hf : FrzAL (takeD h D) cs cs') (ha : FrzAL (takeD h D) args args')
    (c : Con Y f args' ((killD h D).set O (some (.arr cs' wr))) Q) : Con Y f args h Q :=
  ⟨c.body, fun W w us hr hv => by
    have g1 := hr.cool D hg hD hf
    have g2 := (hr.frzD D).2
    refine (c.tr (W.frzD D w) w us g1 (ha.vr (Fz.of hr D) (frzD_le hr D) hv)).mono ?_
    rintro e w' ⟨v, h', W', u, h1, h2, h3, h4, h5⟩
    exact ⟨v, h', W', u, h1, h2, h3, h4, g2.trans h5⟩⟩
/-- .. and behind it. -/
theorem Con.coolR {Y : YP} {f : FuncId} {args : List V} {h : Heap} {Q : V → Heap → Prop}
    (c : Con Y f args h fun v h' => ∃ (D : List Nat) (O : Nat) (cs cs' : List V) (wr : Bool), h'.get O = some (.arr cs wr) ∧ O ∉ D ∧ FrzAL (takeD h' D) cs cs' ∧ ∃ v', FrzA (takeD h' D) v v' ∧ Q v' ((killD h' D).set O (some (.arr cs' wr)))) : Con Y f args h Q :=
  ⟨c.body, fun W w us hr hv => (c.tr W w us hr hv).mono fun e w' ⟨v, h', W', u, ⟨D, O, cs, cs', wr, h1, h2, h3, v', h4, h5⟩, he, hh, hvu, hst⟩ =>
    ⟨v', _, _, u, h5, he, hh.cool D h1 h2 h3, h4.vr (Fz.of hh D) (frzD_le hh D) hvu, hst.trans (hh.frzD D).2⟩⟩

theorem HRel.more {W : Vw} {h : Heap} {w w' : World} (r : HRel W h w) {s : Nat → Option Obj} (hs : ∀ b o, W.snap b = some o → s b = some o) (hz : w.heap.size ≤ w'.heap.size)
    (hk : ∀ b, b < w.heap.size → w'.heap[b]? = w.heap[b]?) (hn : ∀ b o, s b = some o → w'.heap[b]? = some o) (hstr : Str w w') :
    HRel (W.more w.heap.size s) h w' ∧ Stp W W.own w (W.more w.heap.size s) (W.more w.heap.size s).own w' := by
  have hle := more_le (w := w) hs
  have hsame : Same w w' := fun b o hb => by rw [hk b (lt_of_block hb)]; exact hb
  have hlt : ∀ id, W.lv id → (W.mu id).1 < w.heap.size := by
    intro id hl
    obtain ⟨o, ho⟩ := r.block hl
    exact lt_of_block ho
  refine ⟨⟨r.nx, r.lv, r.lt, ?_, ?_, r.inj, ?_, fun p hp => ⟨(r.tg p hp).1, (((r.tg p hp).2).same hsame).mono hle (by rw [r.nx]; exact (r.tg p hp).1)⟩⟩, ⟨hle, hz, fun b hb _ => hk b hb, fun b hb => .inl hb, ?_, hstr⟩⟩
  · intro b o hb
    simp only [Vw.more] at hb
    split at hb
    · exact hn b o hb
    · exact hsame b o (r.snap b o hb)
  · intro id o ho
    have hid : id < W.nx := by rw [r.nx]; exact r.lt id (by simp [ho])
    exact ((r.obj id o ho).same hsame).mono hle hid
  · intro id hl
    have := hlt id hl
    simp only [Vw.more]
    rw [if_neg (by omega)]
    exact r.apart id hl
  · intro b hb
    simp only [Vw.more] at hb
    split at hb
    · rename_i h1; exact .inr (.inr h1)
    · exact .inl hb

/-- A call of a function that starts from nothing, of what becomes read-only. -/
theorem Con.ofP {Y : YP} {f : FuncId} {args args' : List V} {h : Heap} {P : V → Prop} (D : List Nat) (hf : FrzAL (takeD h D) args args') (p : PCon Y f args' P) : Con Y f args h fun v h' => P v ∧ h' = killD h D :=
  ⟨p.body, fun W w us hr hv => by
    obtain ⟨g1, g2⟩ := hr.frzD D
    refine (p.tr (W.frzD D w) w us g1.snap (hf.vr (Fz.of hr D) (frzD_le hr D) hv)).mono ?_
    rintro e w' ⟨r, W', u, h1, h2, h3, h4, h5, h6, h7, h8, h9, h10⟩
    obtain ⟨k1, k2⟩ := g1.more (s := W'.snap) h4 h7 h8 h5 h10
    refine ⟨r, _, _, u, ⟨h1, rfl⟩, h2, k1, h9 _ ?_, g2.trans k2⟩
    intro b o hb
    simp only [Vw.more]
    split
    · exact hb
    · rename_i hlt
      rcases h6 b (by simp [hb]) with h9' | h9'
      · cases hsn : (W.frzD D w).snap b with
        | none => exact absurd hsn h9'
        | some o' => rw [h4 b o' hsn] at hb; exact hb
      · exact absurd h9' hlt⟩
theorem killD_nil (h : Heap) : killD h [] = h := rfl
end Go.Y

/- Closed runs in parts: calls whose results are known. -/
namespace Go.Y

mutual
def eqW : Nat → V → V → Bool
  | 0, _, _ => false
  | n + 1, a, b => match a, b with
    | .undef, .undef => true
    | .b x, .b y => x == y
    | .i k x, .i k' y => decide (k = k') && decide (x = y)
    | .s l, .s l' => decide (l = l')
    | .p none, .p none => true
    | .sl none x c k, .sl none x' c' k' => decide (x = x') && decide (c = c') && decide (k = k')
    | .ts cs x c, .ts cs' x' c' => decide (x = x') && decide (c = c') && eqWs n cs cs'
    | .tp cs, .tp cs' => eqWs n cs cs'
    | .agg cs, .agg cs' => eqWs n cs cs'
    | .tup cs, .tup cs' => eqWs n cs cs'
    | _, _ => false
def eqWs : Nat → List V → List V → Bool
  | 0, _, _ => false
  | n + 1, l, l' => match l, l' with
    | [], [] => true
    | a :: r, b :: r' => eqW n a b && eqWs n r r'
    | _, _ => false
end
mutual
theorem eqW_ok : ∀ (n : Nat) (a b : V), eqW n a b = true → a = b
  | 0, _, _, h => by simp [eqW] at h
  | n + 1, a, b, h => by
    unfold eqW at h
    split at h
    · rfl
    · simp at h; rw [h]
    · simp at h; rw [h.1, h.2]
    · simp at h; rw [h]
    · rfl
    · simp at h; rw [h.1.1, h.1.2, h.2]
    · simp at h; rw [h.1.1, h.1.2, eqWs_ok n _ _ h.2]
    · rw [eqWs_ok n _ _ h]
    · rw [eqWs_ok n _ _ h]
    · rw [eqWs_ok n _ _ h]
    · cases h
theorem eqWs_ok : ∀ (n : Nat) (a b : List V), eqWs n a b = true → a = b
  | 0, _, _, h => by simp [eqWs] at h
  | n + 1, a, b, h => by
    unfold eqWs at h
    split at h
    · rfl
    · simp at h; rw [eqW_ok n _ _ h.1, eqWs_ok n _ _ h.2]
    · cases h
end

abbrev Known := List (FuncId × List V × V)
def lookT : Known → FuncId → List V → Option V
  | [], _, _ => none
  | e :: T, f, args => if e.1 = f then (if eqWs 1000 e.2.1 args then some e.2.2 else lookT T f args) else lookT T f args
def knT (T : Known) (kn : FuncId → List V → Heap → Option (V × Heap)) : FuncId → List V → Heap → Option (V × Heap) := fun f args h => match lookT T f args with
  | some r => some (r, h)
  | none => kn f args h
inductive KnowOK (Y : YP) : Known → Prop
  | nil : KnowOK Y []
  | cons (f : FuncId) (args : List V) (r : V) (T : Known) (h : PCon Y f args (· = r)) (hT : KnowOK Y T) : KnowOK Y ((f, args, r) :: T)
theorem lookT_ok {Y : YP} : ∀ {T : Known}, KnowOK Y T → ∀ {f args r}, lookT T f args = some r → PCon Y f args (· = r)
  | _, .nil, _, _, _, h => by cases h
  | _, .cons g ags r T hp hT, f, args, r', h => by
    simp only [lookT] at h
    split at h
    · rename_i hg
      split at h
      · rename_i ha
        have := eqWs_ok _ _ _ ha
        subst hg this
        cases h
        exact hp
      · exact lookT_ok hT h
    · exact lookT_ok hT h
theorem frzAL_refl (h : Heap) : ∀ l : List V, FrzAL h l l
  | [] => .nil
  | _ :: l => .cons _ _ _ _ (.same _) (frzAL_refl h l)
theorem knT_ok {Y : YP} {T : Known} {kn : FuncId → List V → Heap → Option (V × Heap)} (hT : KnowOK Y T) (hkn : KOK Y kn) : KOK Y (knT T kn) := by
  refine ⟨fun f args h v h' hv => ?_, hkn.2⟩
  unfold knT at hv
  split at hv
  · rename_i r hr
    simp only [Option.some.injEq, Prod.mk.injEq] at hv
    obtain ⟨rfl, rfl⟩ := hv
    exact ⟨Con.ofP [] (frzAL_refl _ _) (lookT_ok hT hr), .refl _⟩
  · exact hkn.1 _ _ _ _ _ hv
end Go.Y

/- Layer 33's own test runs, by running the code. -/
namespace Go.Y
open Go.Proofs
set_option maxRecDepth 100000

def Tryz.kn (_ : FuncId) (_ : List V) (_ : Heap) : Option (V × Heap) := none
theorem Tryz.mode5 {f : Nat} (h : Tryz.Y.mode f = 5) : False := by
  have hall : (Tryz.modes.all fun p => p != 5) = true := by kernel_rfl
  have h2 : Tryz.modes.getD f 0 = 5 := h
  rw [List.getD_eq_getElem?_getD] at h2
  cases h3 : Tryz.modes[f]? with
  | none => rw [h3] at h2; cases h2
  | some m =>
    rw [h3] at h2
    rw [List.all_eq_true] at hall
    have := hall m (List.mem_of_getElem? h3)
    have h2 : m = 5 := h2
    subst h2
    simp at this
theorem Tryz.knok : KOK Tryz.Y Tryz.kn := by
  refine ⟨fun f args h v h' hv => ?_, fun f args h v x hm _ => (Tryz.mode5 hm).elim⟩
  unfold Tryz.kn at hv
  cases hv
end Go.Y
