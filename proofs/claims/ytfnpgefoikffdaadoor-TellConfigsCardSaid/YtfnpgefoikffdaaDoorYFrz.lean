/- What a function hands back becomes read-only; slices.Clone. -/
import Derived.Test.YtfnpgefoikffdaaDoorYRow
namespace Go.Y

/-- A value, some of whose memory becomes read-only; a tuple of such. -/
def FrzT (h : Heap) (v v' : V) : Prop := FrzA h v v' ∨ ∃ vs vs', v = .tup vs ∧ v' = .tup vs' ∧ FrzAL h vs vs'

theorem FrzT.vr {W W' : Vw} {h : Heap} {w : World} (z : Fz W h w W') (hle : Le W W') {v v' : V} (f : FrzT h v v') {u : Value} (r : VR W v u) : VR W' v' u := by
  rcases f with f | ⟨vs, vs', rfl, rfl, f⟩
  · exact f.vr z hle r
  · cases r with | tup _ us h1 => exact .tup _ _ (f.vr z hle h1)

/-- What is to be shown of the value and of memory, once some objects are read-only. -/
def AfterZ (Q : V → Heap → Prop) (v : V) (h : Heap) : Prop := ∃ (D : List Nat) (v' : V), FrzT (takeD h D) v v' ∧ Q v' (killD h D)

theorem AfterZ.now {Q : V → Heap → Prop} {v : V} {h : Heap} (hq : Q v h) : AfterZ Q v h := ⟨[], v, .inl (.same v), hq⟩

theorem Con.freeze {Y : YP} {f : FuncId} {args : List V} {h : Heap} {Q : V → Heap → Prop} (c : Con Y f args h (AfterZ Q)) : Con Y f args h Q :=
  ⟨c.body, fun W w us hr hv => (c.tr W w us hr hv).mono fun e w' ⟨v, h1, W', u, ⟨D, v', hf, hq⟩, he, hh, hvu, hst⟩ => by
    obtain ⟨g1, g2⟩ := hh.frzD D
    exact ⟨v', _, _, u, hq, he, g1, hf.vr (Fz.of hh D) (frzD_le hh D) hvu, hst.trans g2⟩⟩

/-- A function over memory. -/
theorem conz_of {Y : YP} (hY : YOK Y) {f : FuncId} {fn : Func} (hf : Y.P.funcs[f]? = some fn) (hb : fn.body.isSome = true) {args : List V} {h : Heap} {Q : V → Heap → Prop}
    (ht : TriL Y (flat (bodyOf fn)) ⟨args ++ List.replicate (fn.ntmps - args.length) .undef, [], h⟩ (FinS Y fn (AfterZ Q))) : Con Y f args h Q := Con.freeze (con_of hY hf hb ht)

/-- The end of a function over memory. -/
theorem finC {Y : YP} {fn : Func} {slots : List Nat} {Q : V → Heap → Prop} {o : Out} {n : Nat} {vs : List V} {h : Heap} {v : V} (ho : o = .normal ∨ o = .ret) (hv : resV Y fn (slots.zip vs) = some v) (hq : AfterZ Q v h) :
    Fin Y fn slots (AfterZ Q) o n vs h := ⟨ho, v, hv, hq⟩

/-! ### slices.Clone -/
def cloneV (k : Nat) : List V → Heap → Option (V × Heap)
  | [.sl none 0 _ _], h => some (.sl none 0 (some 0) 0, h)
  | [.ts _ 0 _], h => some (.ts [] 0 (some 0), h)
  | [.ts cs (n + 1) _], h => match takeX ((n + 1) * k) cs with
    | some c => if allCells c = true ∧ n + 1 ≤ 2 ^ 30 then some (.sl (some (h.nx, 0)) (n + 1) none k, h.push (.arr c true)) else none
    | none => none
  | _, _ => none

theorem clone_app0 {Y : YP} {st e : TypeId} {te : TI} (hk : Y.kd st = some (.slice e)) (hte : Y.ty e = some te) (h0 : te.size ≠ 0) (cs : List V) (cap : Option Nat) (h : Heap) :
    appendH Y h st st (.ts [] 0 (some 0)) (.ts cs 0 cap) = some (.ts [] 0 (some 0), h) := by
  simp [appendH, appendY, hk, hte, source, elems, elemsS, takeX, allCells, h0]

theorem clone_app {Y : YP} {st e : TypeId} {te : TI} (hk : Y.kd st = some (.slice e)) (hte : Y.ty e = some te) (h0 : te.size ≠ 0) (hb : te.bytes ≤ 1024) {cs c : List V} {n : Nat} {cap : Option Nat} (hc : takeX ((n + 1) * te.size) cs = some c) (ha : allCells c = true) (hn : n + 1 ≤ 2 ^ 30)
    (h : Heap) : appendH Y h st st (.ts [] 0 (some 0)) (.ts cs (n + 1) cap) = some (.sl (some (h.nx, 0)) (n + 1) none te.size, h.push (.arr c true)) := by
  have hsrc : source Y ⟨[], [], h⟩ te st (.ts cs (n + 1) cap) = some (n + 1, c) := by
    simp only [source, hk, elems, elemsS, hc]; rfl
  have hm : most = 1099511627776 := by decide
  have h1 : (n + 1) * te.bytes ≤ 2 ^ 30 * 1024 := Nat.mul_le_mul hn hb
  have h2 : ¬ ((0 + (n + 1)) * te.bytes > most ∨ 0 + (n + 1) > most) := by rw [Nat.zero_add, hm]; omega
  have h3 : ¬ (0 + (n + 1) ≤ 0) := by omega
  simp only [appendH, appendY, hk, hte, hsrc]
  rw [if_neg (by simp [ha, h0])]
  simp only [Nat.succ_ne_zero, if_false]
  rw [if_neg h2]
  simp [takeX]

theorem clone_con {Y : YP} (hY : YOK Y) {f : FuncId} {fn : Func} (hf : Y.P.funcs[f]? = some fn) (hb : fn.body.isSome = true) {st e : TypeId} {te : TI} {k : Nat} (hk : Y.kd st = some (.slice e)) (hte : Y.ty e = some te) (hk0 : te.size = k) (h0 : k ≠ 0) (hby : te.bytes ≤ 1024)
    (t0 : ∀ (c : Option Nat) (k : Nat) (h : Heap) (K : Out → Nat → List V → Heap → Prop), K .ret 8 [V.sl none 0 (some 0) 0] h → TriL Y (flat (bodyOf fn)) ⟨[V.sl none 0 c k] ++ List.replicate (fn.ntmps - 1) .undef, [], h⟩ (VQ [2] K))
    (t1 : ∀ (cs : List V) (n : Nat) (c : Option Nat) (h : Heap) (K : Out → Nat → List V → Heap → Prop), ((n = 0 → K Out.ret 8 [V.sl none 0 (some 0) 0] h) ∧
      ((∃ (a : Option (Nat × Nat)), ∃ (l : Nat), ∃ (c_1 : Option Nat), ∃ (k : Nat), ∃ (h_1 : Heap), appendH Y h st st (V.ts [] 0 (some 0)) (V.ts cs n c) = some (V.sl a l c_1 k, h_1) ∧ K Out.ret 8 [V.sl a l c_1 k] h_1) ∨
        appendH Y h st st (V.ts [] 0 (some 0)) (V.ts cs n c) = some (V.ts [] 0 (some 0), h) ∧ K Out.ret 8 [V.ts [] 0 (some 0)] h)) → TriL Y (flat (bodyOf fn)) ⟨[V.ts cs n c] ++ List.replicate (fn.ntmps - 1) .undef, [], h⟩ (VQ [2] K))
    (hr : fn.results.toList = [.tmp 2]) {args : List V} {h : Heap} {v : V} {h' : Heap} (hv : cloneV k args h = some (v, h')) : Con Y f args h fun v' k' => v' = v ∧ k' = h' := by
  have hres : ∀ v : V, v.plain = v → v ≠ .undef → resV Y fn ([2].zip [v]) = some v := by
    intro v h1 h2
    simp only [resV, hr, resVs, resV1, List.zip_cons_cons, List.zip_nil_right, lookV, if_true, Option.map_some, h1]
  have view : ∀ {args : List V} {h : Heap} {Q : V → Heap → Prop}, TriL Y (flat (bodyOf fn)) ⟨args ++ List.replicate (fn.ntmps - args.length) .undef, [], h⟩ (VQ [2] (Fin Y fn [2] (AfterZ Q))) → Con Y f args h Q := fun ht =>
    conz_of hY hf hb (TriL.mono ht fun o σ' ho => fin_ok ho σ' rfl rfl rfl)
  unfold cloneV at hv
  split at hv
  · simp only [Option.some.injEq, Prod.mk.injEq] at hv
    obtain ⟨rfl, rfl⟩ := hv
    exact view (t0 _ _ _ _ (finC (.inr rfl) (hres _ rfl (fun e => nomatch e)) (.now ⟨rfl, rfl⟩)))
  · simp only [Option.some.injEq, Prod.mk.injEq] at hv
    obtain ⟨rfl, rfl⟩ := hv
    refine view (t1 _ _ _ _ _ ⟨fun _ => finC (.inr rfl) (hres _ rfl (fun e => nomatch e)) ⟨[], _, .inl (.frz _ _ (.sln _ _ _ fun x hx => by simpa using hx.symm)), rfl, rfl⟩, .inr ⟨?_, finC (.inr rfl) (hres _ rfl (fun e => nomatch e)) (.now ⟨rfl, rfl⟩)⟩⟩)
    exact clone_app0 hk hte (by omega) _ _ _
  · split at hv
    · rename_i c hc
      split at hv
      · rename_i hcond
        simp only [Option.some.injEq, Prod.mk.injEq] at hv
        obtain ⟨rfl, rfl⟩ := hv
        refine view (t1 _ _ _ _ _ ⟨fun hz => absurd hz (by omega), .inl ⟨_, _, _, _, _, clone_app hk hte (by omega) hby (by rw [hk0]; exact hc) hcond.1 hcond.2 _, ?_⟩⟩)
        rw [hk0]
        exact finC (.inr rfl) (hres _ rfl (fun e => nomatch e)) (.now ⟨rfl, rfl⟩)
      · cases hv
    · cases hv
  · cases hv

theorem clone_tame {k : Nat} {args : List V} {h : Heap} {v : V} {h' : Heap} (hv : cloneV k args h = some (v, h')) : Tame h h' := by
  unfold cloneV at hv
  repeat' (split at hv <;> try (cases hv; done))
  all_goals (simp only [Option.some.injEq, Prod.mk.injEq] at hv; obtain ⟨_, rfl⟩ := hv)
  all_goals first
    | exact .refl _
    | exact .push _ _
end Go.Y

/- Helpers for functions by contracts: numbers, objects, frozen lists. -/
namespace Go.Y

theorem wrap_ok {n : Int} (h0 : -2 ^ 62 ≤ n) (h1 : n ≤ 2 ^ 62) : IntKind.i64.wrap n = n := by
  have e : (2 : Int) ^ IntKind.i64.bits = 18446744073709551616 := by decide
  have e2 : (2 : Int) ^ (IntKind.i64.bits - 1) = 9223372036854775808 := by decide
  unfold IntKind.wrap
  simp only [e, e2, IntKind.signed, Bool.true_and]
  by_cases h : 0 ≤ n
  · have : n % 18446744073709551616 = n := Int.emod_eq_of_lt h (by omega)
    rw [this]
    simp; omega
  · have : n % 18446744073709551616 = n + 18446744073709551616 := by omega
    rw [this]
    simp; omega

theorem wrap_succ {i : Nat} (h : i < 2 ^ 61) : IntKind.i64.wrap ((i : Int) + 1) = ((i + 1 : Nat) : Int) := by
  rw [wrap_ok (by omega) (by omega)]; omega

/-- Nothing but one object is turned. -/
def FrO (h : Heap) (id : Nat) (h' : Heap) : Prop := h.nx ≤ h'.nx ∧ ∀ j, j < h.nx → j ≠ id → h'.get j = h.get j
theorem FrO.refl (h : Heap) (id : Nat) : FrO h id h := ⟨Nat.le_refl _, fun _ _ _ => rfl⟩
theorem FrO.trans {a b c : Heap} {id : Nat} (h : FrO a id b) (g : FrO b id c) : FrO a id c :=
  ⟨Nat.le_trans h.1 g.1, fun j hj hn => by rw [g.2 j (Nat.lt_of_lt_of_le hj h.1) hn, h.2 j hj hn]⟩
theorem FrO.set (h : Heap) (id : Nat) (o : Option YObj) : FrO h id (h.set id o) := ⟨Nat.le_refl _, fun j _ hn => by rw [Heap.get_set, if_neg hn]⟩
theorem FrO.same {h h' : Heap} (hn : h.nx ≤ h'.nx) (hs : ∀ j, j < h.nx → h'.get j = h.get j) (id : Nat) : FrO h id h' := ⟨hn, fun j hj _ => hs j hj⟩

/-- A list that is being built, whose cells are frozen already but for nil. -/
structure Lst {α : Type} (f : α → List V) (k : Nat) (h : Heap) (a : Option (Nat × Nat)) (l : Nat) (c : Option Nat) (kk : Nat) (out : List α) : Prop where
  cells : ∃ cells, IsL h k a l c kk cells ∧ colds1 cells = true ∧ FrzL .empty cells (row f out)
  len : l = out.length

theorem Lst.nil {α : Type} (f : α → List V) (k : Nat) (h : Heap) (c : Option Nat) (kk : Nat) : Lst f k h none 0 c kk ([] : List α) := ⟨⟨[], IsL.nil _ _ _ _, rfl, .nil⟩, rfl⟩

theorem colds1_append : ∀ {l m : List V}, colds1 l = true → colds1 m = true → colds1 (l ++ m) = true
  | [], m, _, h => h
  | v :: l, m, h, g => by
    simp only [colds1, Bool.and_eq_true] at h
    simp only [List.cons_append, colds1, Bool.and_eq_true]
    exact ⟨h.1, colds1_append h.2 g⟩

theorem IsL.fr {h h' : Heap} {k : Nat} {a : Option (Nat × Nat)} {l : Nat} {c : Option Nat} {kk : Nat} {cs : List V} (hl : IsL h k a l c kk cs) (hn : h.nx ≤ h'.nx) (hs : ∀ j, a = some (j, 0) → j < h.nx → h'.get j = h.get j) : IsL h' k a l c kk cs := by
  refine ⟨hl.1, ?_⟩
  rcases hl.2 with h1 | ⟨id, rfl, h2, h3, h4, h5⟩
  · exact .inl h1
  · exact .inr ⟨id, rfl, h2, h3, by omega, by rw [hs id rfl h4, h5]⟩

theorem Lst.fr {α : Type} {f : α → List V} {h h' : Heap} {k : Nat} {a : Option (Nat × Nat)} {l : Nat} {c : Option Nat} {kk : Nat} {out : List α} (hl : Lst f k h a l c kk out) (hn : h.nx ≤ h'.nx) (hs : ∀ j, a = some (j, 0) → j < h.nx → h'.get j = h.get j) : Lst f k h' a l c kk out := by
  obtain ⟨⟨cells, h1, h2, h3⟩, h4⟩ := hl
  exact ⟨⟨cells, h1.fr hn hs, h2, h3⟩, h4⟩

/-- An append of some elements. -/
theorem Lst.app {α : Type} {f : α → List V} {Y : YP} {h : Heap} {k : Nat} {a : Option (Nat × Nat)} {l : Nat} {c : Option Nat} {kk : Nat} {out : List α} {new : List V} {st e : TypeId} {te : TI} (xs : List α) {cap : Option Nat}
    (hk : Y.kd st = some (.slice e)) (hte : Y.ty e = some te) (hs : te.size = k) (hk0 : k ≠ 0) (hl : Lst f k h a l c kk out) (hf : FrzL .empty new (row f xs)) (hcold : colds1 new = true) (hm : xs ≠ []) (hn : new.length = xs.length * k) (hc : allCells new = true)
    (hb : (out.length + xs.length) * te.bytes ≤ most) (hb' : out.length + xs.length ≤ most) :
    ∃ a' l' c' k' h', appendH Y h st st (.sl a l c kk) (.ts new xs.length cap) = some (.sl a' l' c' k', h') ∧ Lst f k h' a' l' c' k' (out ++ xs) ∧ Fr h a h' ∧ ∃ j, a' = some (j, 0) ∧ h.nx ≤ j := by
  obtain ⟨⟨cells, h1, h2, h3⟩, h4⟩ := hl
  subst h4
  obtain ⟨a', l', c', k', h', q1, q2, q3, q4, q5⟩ := append_ts (Y := Y) (new := new) (m := xs.length) (cap := cap) hk hte hs hk0 h1 (by simpa using hm) (takeX_len hn.symm) hc hb hb'
  exact ⟨a', l', c', k', h', q1, ⟨⟨cells ++ new, q2, colds1_append h2 hcold, by rw [row_append]; exact h3.append hf⟩, by simp [q4]⟩, q3, q5⟩

/-- .. of one. -/
theorem Lst.app1 {α : Type} {f : α → List V} {Y : YP} {h : Heap} {k : Nat} {a : Option (Nat × Nat)} {l : Nat} {c : Option Nat} {kk : Nat} {out : List α} {new : List V} {st e : TypeId} {te : TI} (x : α)
    (hk : Y.kd st = some (.slice e)) (hte : Y.ty e = some te) (hs : te.size = k) (hk0 : k ≠ 0) (hl : Lst f k h a l c kk out) (hf : FrzL .empty new (f x)) (hcold : colds1 new = true) (hn : new.length = k) (hc : allCells new = true)
    (hby : te.bytes ≤ 1024) (hb : out.length < 2 ^ 29) :
    ∃ a' l' c' k' h', appendH Y h st st (.sl a l c kk) (.ts new 1 (some 1)) = some (.sl a' l' c' k', h') ∧ Lst f k h' a' l' c' k' (out ++ [x]) ∧ Fr h a h' ∧ ∃ j, a' = some (j, 0) ∧ h.nx ≤ j := by
  have hm : most = 1099511627776 := by decide
  have h1 : (out.length + 1) * te.bytes ≤ 2 ^ 29 * 1024 := Nat.mul_le_mul (by omega) hby
  exact Lst.app [x] hk hte hs hk0 hl (by simpa [row] using hf) hcold (by simp) (by simp [hn]) hc (by simp; omega) (by simp; omega)

theorem colds1_frzl {h1 h2 : Heap} : ∀ {l l' : List V}, colds1 l = true → FrzL h1 l l' → FrzL h2 l l' := colds1_frz

/-- The list, once it is done. -/
theorem Lst.frz {α : Type} {f : α → List V} {h : Heap} {k : Nat} (hk : k ≠ 0) (hfl : ∀ x, (f x).length = k) {a : Option (Nat × Nat)} {l : Nat} {c : Option Nat} {kk : Nat} {out : List α} (hl : Lst f k h a l c kk out) : Frz h (.sl a l c kk) (lst f out) := by
  obtain ⟨⟨cells, h1, h2, h3⟩, h4⟩ := hl
  subst h4
  rcases h1.2 with ⟨rfl, h0, h5⟩ | ⟨id, rfl, rfl, rfl, h5, h6⟩
  · have : out = [] := List.eq_nil_of_length_eq_zero h0
    subst this
    exact .sln _ _ _ (fun x hx => by cases hx)
  · exact .sl _ _ _ _ _ _ _ _ _ _ h6 (by rw [List.drop_zero, h1.1]; exact takeX_all _) (fun x hx => by cases hx) hk (colds1_frzl h2 h3)

/-- A list that was just built is read-only from now on: what is left of memory. -/
theorem Lst.afterZ {α : Type} {f : α → List V} {h : Heap} {k : Nat} (hk : k ≠ 0) (hfl : ∀ x, (f x).length = k) {a : Option (Nat × Nat)} {l : Nat} {c : Option Nat} {kk : Nat} {out : List α} (hl : Lst f k h a l c kk out) :
    ∃ D : List Nat, Frz (takeD h D) (.sl a l c kk) (lst f out) ∧ (∀ j, j ∈ D → a = some (j, 0)) := by
  obtain ⟨⟨cells, h1, h2, h3⟩, h4⟩ := hl
  subst h4
  rcases h1.2 with ⟨rfl, h0, h5⟩ | ⟨id, rfl, rfl, rfl, h5, h6⟩
  · have : out = [] := List.eq_nil_of_length_eq_zero h0
    subst this
    exact ⟨[], .sln _ _ _ (fun x hx => by cases hx), by simp⟩
  · exact ⟨[id], .sl _ _ _ _ _ cells true cells _ _ (by rw [takeD_get, if_pos (by simp), h6]) (by rw [List.drop_zero, h1.1]; exact takeX_all _) (fun x hx => by cases hx) hk (colds1_frzl h2 h3), by simp⟩

theorem Lst.off {α : Type} {f : α → List V} {h : Heap} {k : Nat} {a : Option (Nat × Nat)} {l : Nat} {c : Option Nat} {kk : Nat} {out : List α} (hl : Lst f k h a l c kk out) {j o : Nat} (ha : a = some (j, o)) : o = 0 := by
  obtain ⟨⟨cells, ⟨_, hx | ⟨id2, hx, _⟩⟩, _⟩, _⟩ := hl
  · rw [hx.1] at ha; cases ha
  · rw [hx] at ha; cases ha; rfl

/-- .. behind an append to a list that is new since. -/
theorem FrO.app {α : Type} {f : α → List V} {h0 h h' : Heap} {id k : Nat} {a : Option (Nat × Nat)} {l : Nat} {c : Option Nat} {kk : Nat} {out : List α} (g : FrO h0 id h) (hl : Lst f k h a l c kk out) (hnew : ∀ j, a = some (j, 0) → h0.nx ≤ j) (q : Fr h a h') : FrO h0 id h' :=
  ⟨Nat.le_trans g.1 q.1, fun j hj hn => by
    rw [q.2 j (Nat.lt_of_lt_of_le hj g.1) (fun o ho => by
      have h0 := hl.off ho; subst h0
      have := hnew j ho; omega)]
    exact g.2 j hj hn⟩

/-! ### Rows -/
theorem row_cons {α : Type} {f : α → List V} {k : Nat} (hk : ∀ x, (f x).length = k) (l : List α) {i : Nat} (hi : i < l.length) : (row f l).drop (i * k) = f l[i] ++ row f (l.drop (i + 1)) := by
  rw [row_drop hk, List.drop_eq_getElem_cons hi]; rfl

/-- Two lists of one length: so far the same. -/
theorem take_same {α : Type} {a b : List α} {i : Nat} (h : a.take i = b.take i) (ha : a.length ≤ i) (hb : b.length ≤ i) : a = b := by
  rwa [List.take_of_length_le ha, List.take_of_length_le hb] at h
theorem take_more {α : Type} {a b : List α} {i : Nat} (h : a.take i = b.take i) (ha : i < a.length) (hb : i < b.length) (he : a[i] = b[i]) : a.take (i + 1) = b.take (i + 1) := by
  rw [List.take_succ_eq_append_getElem ha, List.take_succ_eq_append_getElem hb, h, he]

/-! ### Bytes -/
theorem u8_eq (c d : UInt8) : (((c.toNat : Nat) : Int) == ((d.toNat : Nat) : Int)) = (c == d) := by
  rw [Bool.eq_iff_iff]
  simp only [beq_iff_eq, Int.ofNat_inj]
  exact ⟨fun h => UInt8.toNat_inj.1 h, fun h => by rw [h]⟩
end Go.Y
