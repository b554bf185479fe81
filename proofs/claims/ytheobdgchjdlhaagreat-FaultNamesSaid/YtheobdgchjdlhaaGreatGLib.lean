/- Helpers for functions by contracts: numbers, objects, frozen lists. -/
import Derived.Test.YtheobdgchjdlhaaGreatYFrz
namespace Go.Y

theorem wrap_ok {n : Int} (h0 : -2 ^ 62 ≤ n) (h1 : n ≤ 2 ^ 62) : IntKind.i64.wrap n = n := by
  have e : (2 : Int) ^ IntKind.i64.bits = 18446744073709551616 := by decide
  have e2 : (2 : Int) ^ (IntKind.i64.bits - 1) = 9223372036854775808 := by decide
  unfold IntKind.wrap
  simp only [e, e2, IntKind.signed, Bool.true_and]
  by_cases h : 0 ≤ n
  · have : n % 18446744073709551616 = n := Int.emod_eq_of_lt h (by omega)
    rw [this]
    simp; omega
  · have : n % 18446744073709551616 = n + 18446744073709551616 := by omega
    rw [this]
    simp; omega

theorem wrap_succ {i : Nat} (h : i < 2 ^ 61) : IntKind.i64.wrap ((i : Int) + 1) = ((i + 1 : Nat) : Int) := by
  rw [wrap_ok (by omega) (by omega)]; omega

/-- Nothing but one object is turned. -/
def FrO (h : Heap) (id : Nat) (h' : Heap) : Prop := h.nx ≤ h'.nx ∧ ∀ j, j < h.nx → j ≠ id → h'.get j = h.get j
theorem FrO.refl (h : Heap) (id : Nat) : FrO h id h := ⟨Nat.le_refl _, fun _ _ _ => rfl⟩
theorem FrO.trans {a b c : Heap} {id : Nat} (h : FrO a id b) (g : FrO b id c) : FrO a id c :=
  ⟨Nat.le_trans h.1 g.1, fun j hj hn => by rw [g.2 j (Nat.lt_of_lt_of_le hj h.1) hn, h.2 j hj hn]⟩
theorem FrO.set (h : Heap) (id : Nat) (o : Option YObj) : FrO h id (h.set id o) := ⟨Nat.le_refl _, fun j _ hn => by rw [Heap.get_set, if_neg hn]⟩
theorem FrO.same {h h' : Heap} (hn : h.nx ≤ h'.nx) (hs : ∀ j, j < h.nx → h'.get j = h.get j) (id : Nat) : FrO h id h' := ⟨hn, fun j hj _ => hs j hj⟩

/-- A list that is being built, whose cells are frozen already but for nil. -/
structure Lst {α : Type} (f : α → List V) (k : Nat) (h : Heap) (a : Option (Nat × Nat)) (l : Nat) (c : Option Nat) (kk : Nat) (out : List α) : Prop where
  cells : ∃ cells, IsL h k a l c kk cells ∧ colds1 cells = true ∧ FrzL .empty cells (row f out)
  len : l = out.length

theorem Lst.nil {α : Type} (f : α → List V) (k : Nat) (h : Heap) (c : Option Nat) (kk : Nat) : Lst f k h none 0 c kk ([] : List α) := ⟨⟨[], IsL.nil _ _ _ _, rfl, .nil⟩, rfl⟩

theorem colds1_append : ∀ {l m : List V}, colds1 l = true → colds1 m = true → colds1 (l ++ m) = true
  | [], m, _, h => h
  | v :: l, m, h, g => by
    simp only [colds1, Bool.and_eq_true] at h
    simp only [List.cons_append, colds1, Bool.and_eq_true]
    exact ⟨h.1, colds1_append h.2 g⟩

theorem IsL.fr {h h' : Heap} {k : Nat} {a : Option (Nat × Nat)} {l : Nat} {c : Option Nat} {kk : Nat} {cs : List V} (hl : IsL h k a l c kk cs) (hn : h.nx ≤ h'.nx) (hs : ∀ j, a = some (j, 0) → j < h.nx → h'.get j = h.get j) : IsL h' k a l c kk cs := by
  refine ⟨hl.1, ?_⟩
  rcases hl.2 with h1 | ⟨id, rfl, h2, h3, h4, h5⟩
  · exact .inl h1
  · exact .inr ⟨id, rfl, h2, h3, by omega, by rw [hs id rfl h4, h5]⟩

theorem Lst.fr {α : Type} {f : α → List V} {h h' : Heap} {k : Nat} {a : Option (Nat × Nat)} {l : Nat} {c : Option Nat} {kk : Nat} {out : List α} (hl : Lst f k h a l c kk out) (hn : h.nx ≤ h'.nx) (hs : ∀ j, a = some (j, 0) → j < h.nx → h'.get j = h.get j) : Lst f k h' a l c kk out := by
  obtain ⟨⟨cells, h1, h2, h3⟩, h4⟩ := hl
  exact ⟨⟨cells, h1.fr hn hs, h2, h3⟩, h4⟩

/-- An append of some elements. -/
theorem Lst.app {α : Type} {f : α → List V} {Y : YP} {h : Heap} {k : Nat} {a : Option (Nat × Nat)} {l : Nat} {c : Option Nat} {kk : Nat} {out : List α} {new : List V} {st e : TypeId} {te : TI} (xs : List α) {cap : Option Nat}
    (hk : Y.kd st = some (.slice e)) (hte : Y.ty e = some te) (hs : te.size = k) (hk0 : k ≠ 0) (hl : Lst f k h a l c kk out) (hf : FrzL .empty new (row f xs)) (hcold : colds1 new = true) (hm : xs ≠ []) (hn : new.length = xs.length * k) (hc : allCells new = true)
    (hb : (out.length + xs.length) * te.bytes ≤ most) (hb' : out.length + xs.length ≤ most) :
    ∃ a' l' c' k' h', appendH Y h st st (.sl a l c kk) (.ts new xs.length cap) = some (.sl a' l' c' k', h') ∧ Lst f k h' a' l' c' k' (out ++ xs) ∧ Fr h a h' ∧ ∃ j, a' = some (j, 0) ∧ h.nx ≤ j := by
  obtain ⟨⟨cells, h1, h2, h3⟩, h4⟩ := hl
  subst h4
  obtain ⟨a', l', c', k', h', q1, q2, q3, q4, q5⟩ := append_ts (Y := Y) (new := new) (m := xs.length) (cap := cap) hk hte hs hk0 h1 (by simpa using hm) (takeX_len hn.symm) hc hb hb'
  exact ⟨a', l', c', k', h', q1, ⟨⟨cells ++ new, q2, colds1_append h2 hcold, by rw [row_append]; exact h3.append hf⟩, by simp [q4]⟩, q3, q5⟩

/-- .. of one. -/
theorem Lst.app1 {α : Type} {f : α → List V} {Y : YP} {h : Heap} {k : Nat} {a : Option (Nat × Nat)} {l : Nat} {c : Option Nat} {kk : Nat} {out : List α} {new : List V} {st e : TypeId} {te : TI} (x : α)
    (hk : Y.kd st = some (.slice e)) (hte : Y.ty e = some te) (hs : te.size = k) (hk0 : k ≠ 0) (hl : Lst f k h a l c kk out) (hf : FrzL .empty new (f x)) (hcold : colds1 new = true) (hn : new.length = k) (hc : allCells new = true)
    (hby : te.bytes ≤ 1024) (hb : out.length < 2 ^ 29) :
    ∃ a' l' c' k' h', appendH Y h st st (.sl a l c kk) (.ts new 1 (some 1)) = some (.sl a' l' c' k', h') ∧ Lst f k h' a' l' c' k' (out ++ [x]) ∧ Fr h a h' ∧ ∃ j, a' = some (j, 0) ∧ h.nx ≤ j := by
  have hm : most = 1099511627776 := by decide
  have h1 : (out.length + 1) * te.bytes ≤ 2 ^ 29 * 1024 := Nat.mul_le_mul (by omega) hby
  exact Lst.app [x] hk hte hs hk0 hl (by simpa [row] using hf) hcold (by simp) (by simp [hn]) hc (by simp; omega) (by simp; omega)

theorem colds1_frzl {h1 h2 : Heap} : ∀ {l l' : List V}, colds1 l = true → FrzL h1 l l' → FrzL h2 l l' := colds1_frz

/-- The list, once it is done. -/
theorem Lst.frz {α : Type} {f : α → List V} {h : Heap} {k : Nat} (hk : k ≠ 0) (hfl : ∀ x, (f x).length = k) {a : Option (Nat × Nat)} {l : Nat} {c : Option Nat} {kk : Nat} {out : List α} (hl : Lst f k h a l c kk out) : Frz h (.sl a l c kk) (lst f out) := by
  obtain ⟨⟨cells, h1, h2, h3⟩, h4⟩ := hl
  subst h4
  rcases h1.2 with ⟨rfl, h0, h5⟩ | ⟨id, rfl, rfl, rfl, h5, h6⟩
  · have : out = [] := List.eq_nil_of_length_eq_zero h0
    subst this
    exact .sln _ _ _ (fun x hx => by cases hx)
  · exact .sl _ _ _ _ _ _ _ _ _ _ h6 (by rw [List.drop_zero, h1.1]; exact takeX_all _) (fun x hx => by cases hx) hk (colds1_frzl h2 h3)

/-- A list that was just built is read-only from now on: what is left of memory. -/
theorem Lst.afterZ {α : Type} {f : α → List V} {h : Heap} {k : Nat} (hk : k ≠ 0) (hfl : ∀ x, (f x).length = k) {a : Option (Nat × Nat)} {l : Nat} {c : Option Nat} {kk : Nat} {out : List α} (hl : Lst f k h a l c kk out) :
    ∃ D : List Nat, Frz (takeD h D) (.sl a l c kk) (lst f out) ∧ (∀ j, j ∈ D → a = some (j, 0)) := by
  obtain ⟨⟨cells, h1, h2, h3⟩, h4⟩ := hl
  subst h4
  rcases h1.2 with ⟨rfl, h0, h5⟩ | ⟨id, rfl, rfl, rfl, h5, h6⟩
  · have : out = [] := List.eq_nil_of_length_eq_zero h0
    subst this
    exact ⟨[], .sln _ _ _ (fun x hx => by cases hx), by simp⟩
  · exact ⟨[id], .sl _ _ _ _ _ cells true cells _ _ (by rw [takeD_get, if_pos (by simp), h6]) (by rw [List.drop_zero, h1.1]; exact takeX_all _) (fun x hx => by cases hx) hk (colds1_frzl h2 h3), by simp⟩

theorem Lst.off {α : Type} {f : α → List V} {h : Heap} {k : Nat} {a : Option (Nat × Nat)} {l : Nat} {c : Option Nat} {kk : Nat} {out : List α} (hl : Lst f k h a l c kk out) {j o : Nat} (ha : a = some (j, o)) : o = 0 := by
  obtain ⟨⟨cells, ⟨_, hx | ⟨id2, hx, _⟩⟩, _⟩, _⟩ := hl
  · rw [hx.1] at ha; cases ha
  · rw [hx] at ha; cases ha; rfl

/-- .. behind an append to a list that is new since. -/
theorem FrO.app {α : Type} {f : α → List V} {h0 h h' : Heap} {id k : Nat} {a : Option (Nat × Nat)} {l : Nat} {c : Option Nat} {kk : Nat} {out : List α} (g : FrO h0 id h) (hl : Lst f k h a l c kk out) (hnew : ∀ j, a = some (j, 0) → h0.nx ≤ j) (q : Fr h a h') : FrO h0 id h' :=
  ⟨Nat.le_trans g.1 q.1, fun j hj hn => by
    rw [q.2 j (Nat.lt_of_lt_of_le hj g.1) (fun o ho => by
      have h0 := hl.off ho; subst h0
      have := hnew j ho; omega)]
    exact g.2 j hj hn⟩

/-! ### Rows -/
theorem row_cons {α : Type} {f : α → List V} {k : Nat} (hk : ∀ x, (f x).length = k) (l : List α) {i : Nat} (hi : i < l.length) : (row f l).drop (i * k) = f l[i] ++ row f (l.drop (i + 1)) := by
  rw [row_drop hk, List.drop_eq_getElem_cons hi]; rfl

/-- Two lists of one length: so far the same. -/
theorem take_same {α : Type} {a b : List α} {i : Nat} (h : a.take i = b.take i) (ha : a.length ≤ i) (hb : b.length ≤ i) : a = b := by
  rwa [List.take_of_length_le ha, List.take_of_length_le hb] at h
theorem take_more {α : Type} {a b : List α} {i : Nat} (h : a.take i = b.take i) (ha : i < a.length) (hb : i < b.length) (he : a[i] = b[i]) : a.take (i + 1) = b.take (i + 1) := by
  rw [List.take_succ_eq_append_getElem ha, List.take_succ_eq_append_getElem hb, h, he]

/-! ### Bytes -/
theorem u8_eq (c d : UInt8) : (((c.toNat : Nat) : Int) == ((d.toNat : Nat) : Int)) = (c == d) := by
  rw [Bool.eq_iff_iff]
  simp only [beq_iff_eq, Int.ofNat_inj]
  exact ⟨fun h => UInt8.toNat_inj.1 h, fun h => by rw [h]⟩
end Go.Y
