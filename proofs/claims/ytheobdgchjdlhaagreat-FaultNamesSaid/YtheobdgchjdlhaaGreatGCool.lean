/- Some objects become read-only ahead of a call; an object's cells with them. -/
import Derived.Test.YtheobdgchjdlhaaGreatGLib
namespace Go.Y

theorem FrzAL.length {h : Heap} : ∀ {l l' : List V}, FrzAL h l l' → l.length = l'.length
  | _, _, .nil => rfl
  | _, _, .cons _ _ _ _ _ hl => by simp [hl.length]
theorem FrzAL.get {h : Heap} : ∀ {l l' : List V}, FrzAL h l l' → ∀ {j : Nat} {v' : V}, l'[j]? = some v' → ∃ v, l[j]? = some v ∧ FrzA h v v'
  | _, _, .nil, j, v', h => by simp at h
  | _, _, .cons v v1 l l' hv hl, 0, v', h => by simp at h; subst h; exact ⟨v, rfl, hv⟩
  | _, _, .cons v v1 l l' hv hl, j + 1, v', h => by simp at h; simpa using hl.get h
theorem FrzAL.refl {h : Heap} : ∀ l : List V, FrzAL h l l
  | [] => .nil
  | v :: l => .cons _ _ _ _ (.same v) (FrzAL.refl l)

theorem HRel.cool {W : Vw} {h : Heap} {w : World} (hr : HRel W h w) (D : List Nat) {O : Nat} {cs cs' : List V} {wr : Bool} (hg : h.get O = some (.arr cs wr)) (hD : O ∉ D) (hf : FrzAL (takeD h D) cs cs') :
    HRel (W.frzD D w) ((killD h D).set O (some (.arr cs' wr))) w := by
  obtain ⟨g1, g2⟩ := hr.frzD D
  have hk : (killD h D).get O = some (.arr cs wr) := by rw [killD_get, if_neg hD]; exact hg
  refine ⟨g1.nx, fun j => ?_, fun j hj => ?_, g1.snap, fun j o hj => ?_, g1.inj, g1.apart, fun p hp => g1.tg p hp⟩
  · rw [Heap.get_set]
    by_cases e : j = O
    · subst e; rw [if_pos rfl, g1.lv j, hk]; simp
    · rw [if_neg e]; exact g1.lv j
  · rw [Heap.get_set] at hj
    by_cases e : j = O
    · subst e; exact g1.lt j (by rw [hk]; rfl)
    · rw [if_neg e] at hj; exact g1.lt j hj
  · rw [Heap.get_set] at hj
    by_cases e : j = O
    · subst e
      rw [if_pos rfl] at hj
      simp only [Option.some.injEq] at hj
      subst hj
      obtain ⟨c, e, fr, h1, h2, h3, h4, h5⟩ := hr.obj j _ hg
      refine ⟨c, e, fr, h1, h2, by rw [← hf.length]; exact h3, fun i v' hi => ?_, by rw [← hf.length]; exact h5⟩
      obtain ⟨v, hv, hz⟩ := hf.get hi
      obtain ⟨u, hu, hvu⟩ := h4 i v hv
      exact ⟨u, hu, hz.vr (Fz.of hr D) (frzD_le hr D) hvu⟩
    · rw [if_neg e] at hj; exact g1.obj j o hj

/-- A call, once some objects are read-only; what one object holds is known by them. -/
theorem Con.cool {Y : YP} {f : FuncId} {args args' : List V} {h : Heap} {Q : V → Heap → Prop} (D : List Nat) {O : Nat} {cs cs' : List V} {wr : Bool} (hg : h.get O = some (.arr cs wr)) (hD : O ∉ D) (hf : FrzAL (takeD h D) cs cs') (ha : FrzAL (takeD h D) args args')
    (c : Con Y f args' ((killD h D).set O (some (.arr cs' wr))) Q) : Con Y f args h Q :=
  ⟨c.body, fun W w us hr hv => by
    have g1 := hr.cool D hg hD hf
    have g2 := (hr.frzD D).2
    refine (c.tr (W.frzD D w) w us g1 (ha.vr (Fz.of hr D) (frzD_le hr D) hv)).mono ?_
    rintro e w' ⟨v, h', W', u, h1, h2, h3, h4, h5⟩
    exact ⟨v, h', W', u, h1, h2, h3, h4, g2.trans h5⟩⟩
/-- .. and behind it. -/
theorem Con.coolR {Y : YP} {f : FuncId} {args : List V} {h : Heap} {Q : V → Heap → Prop}
    (c : Con Y f args h fun v h' => ∃ (D : List Nat) (O : Nat) (cs cs' : List V) (wr : Bool), h'.get O = some (.arr cs wr) ∧ O ∉ D ∧ FrzAL (takeD h' D) cs cs' ∧ ∃ v', FrzA (takeD h' D) v v' ∧ Q v' ((killD h' D).set O (some (.arr cs' wr)))) : Con Y f args h Q :=
  ⟨c.body, fun W w us hr hv => (c.tr W w us hr hv).mono fun e w' ⟨v, h', W', u, ⟨D, O, cs, cs', wr, h1, h2, h3, v', h4, h5⟩, he, hh, hvu, hst⟩ =>
    ⟨v', _, _, u, h5, he, hh.cool D h1 h2 h3, h4.vr (Fz.of hh D) (frzD_le hh D) hvu, hst.trans (hh.frzD D).2⟩⟩

theorem HRel.more {W : Vw} {h : Heap} {w w' : World} (r : HRel W h w) {s : Nat → Option Obj} (hs : ∀ b o, W.snap b = some o → s b = some o) (hz : w.heap.size ≤ w'.heap.size)
    (hk : ∀ b, b < w.heap.size → w'.heap[b]? = w.heap[b]?) (hn : ∀ b o, s b = some o → w'.heap[b]? = some o) (hstr : Str w w') :
    HRel (W.more w.heap.size s) h w' ∧ Stp W W.own w (W.more w.heap.size s) (W.more w.heap.size s).own w' := by
  have hle := more_le (w := w) hs
  have hsame : Same w w' := fun b o hb => by rw [hk b (lt_of_block hb)]; exact hb
  have hlt : ∀ id, W.lv id → (W.mu id).1 < w.heap.size := by
    intro id hl
    obtain ⟨o, ho⟩ := r.block hl
    exact lt_of_block ho
  refine ⟨⟨r.nx, r.lv, r.lt, ?_, ?_, r.inj, ?_, fun p hp => ⟨(r.tg p hp).1, (((r.tg p hp).2).same hsame).mono hle (by rw [r.nx]; exact (r.tg p hp).1)⟩⟩, ⟨hle, hz, fun b hb _ => hk b hb, fun b hb => .inl hb, ?_, hstr⟩⟩
  · intro b o hb
    simp only [Vw.more] at hb
    split at hb
    · exact hn b o hb
    · exact hsame b o (r.snap b o hb)
  · intro id o ho
    have hid : id < W.nx := by rw [r.nx]; exact r.lt id (by simp [ho])
    exact ((r.obj id o ho).same hsame).mono hle hid
  · intro id hl
    have := hlt id hl
    simp only [Vw.more]
    rw [if_neg (by omega)]
    exact r.apart id hl
  · intro b hb
    simp only [Vw.more] at hb
    split at hb
    · rename_i h1; exact .inr (.inr h1)
    · exact .inl hb

/-- A call of a function that starts from nothing, of what becomes read-only. -/
theorem Con.ofP {Y : YP} {f : FuncId} {args args' : List V} {h : Heap} {P : V → Prop} (D : List Nat) (hf : FrzAL (takeD h D) args args') (p : PCon Y f args' P) : Con Y f args h fun v h' => P v ∧ h' = killD h D :=
  ⟨p.body, fun W w us hr hv => by
    obtain ⟨g1, g2⟩ := hr.frzD D
    refine (p.tr (W.frzD D w) w us g1.snap (hf.vr (Fz.of hr D) (frzD_le hr D) hv)).mono ?_
    rintro e w' ⟨r, W', u, h1, h2, h3, h4, h5, h6, h7, h8, h9, h10⟩
    obtain ⟨k1, k2⟩ := g1.more (s := W'.snap) h4 h7 h8 h5 h10
    refine ⟨r, _, _, u, ⟨h1, rfl⟩, h2, k1, h9 _ ?_, g2.trans k2⟩
    intro b o hb
    simp only [Vw.more]
    split
    · exact hb
    · rename_i hlt
      rcases h6 b (by simp [hb]) with h9' | h9'
      · cases hsn : (W.frzD D w).snap b with
        | none => exact absurd hsn h9'
        | some o' => rw [h4 b o' hsn] at hb; exact hb
      · exact absurd h9' hlt⟩
theorem killD_nil (h : Heap) : killD h [] = h := rfl
end Go.Y
