/- What the pieces of functions come to: printed by program. -/
import Derived.Test.YtfnpgefoikffdaaDoorYTrydP
import Derived.Test.YtfnpgefoikffdaaDoorYFun
import Derived.Test.YtfnpgefoikffdaaDoorGRule
namespace Go.Y
open Go.Proofs
set_option maxRecDepth 100000
set_option maxHeartbeats 0
theorem f41_0 (id : Nat) (c : Int) (h : Heap) (K : Out → Nat → List V → Heap → Prop) : (codeP Tryd.Y (Tryd.Y.loc 41) 100 ((flat (bodyOf Tryd.f41))) ⟨(V.p (some (id, 0)) :: V.i IntKind.u8 c :: List.replicate 15 .undef), [], h⟩ (VQ [4] K)) =
  (Con Tryd.Y (50 : Nat) [V.p (some (id, 0))] h fun (v : V) (h' : Heap) =>
  v = V.tup [] ∧
 ∃ (a : Option (Nat × Nat)),
 ∃ (l : Nat),
 ∃ (c_1 : Option Nat),
 ∃ (k : Nat),
 hcells h' id 1 1 = some [V.sl a l c_1 k] ∧
 ∃ (a_1 : Option (Nat × Nat)),
 ∃ (l_1 : Nat),
 ∃ (c_2 : Option Nat),
 ∃ (k_1 : Nat),
 ∃ (h : Heap),
 appendH Tryd.Y h' 84 84 (V.sl a l c_1 k)
 (V.ts [V.i IntKind.u8 c] 1 (some 1)) =
 some (V.sl a_1 l_1 c_2 k_1, h) ∧
 ∃ (h_1 : Heap),
 hstore h id 1 [V.sl a_1 l_1 c_2 k_1] = some h_1 ∧
 K Out.ret 17 [V.nilifc] h_1) := by kernel_rfl
theorem f35_0 (id : Nat) (s : List UInt8) (h : Heap) (K : Out → Nat → List V → Heap → Prop) : (codeP Tryd.Y (Tryd.Y.loc 35) 100 ((flat (bodyOf Tryd.f35))) ⟨(V.p (some (id, 0)) :: V.s s :: List.replicate 17 .undef), [], h⟩ (VQ [4, 5] K)) =
  (Con Tryd.Y (50 : Nat) [V.p (some (id, 0))] h fun (v : V) (h' : Heap) =>
  v = V.tup [] ∧
 ∃ (a : Option (Nat × Nat)),
 ∃ (l : Nat),
 ∃ (c : Option Nat),
 ∃ (k : Nat),
 hcells h' id 1 1 = some [V.sl a l c k] ∧
 ∃ (a_1 : Option (Nat × Nat)),
 ∃ (l_1 : Nat),
 ∃ (c_1 : Option Nat),
 ∃ (k_1 : Nat),
 ∃ (h : Heap),
 appendH Tryd.Y h' 84 9 (V.sl a l c k) (V.s s) =
 some (V.sl a_1 l_1 c_1 k_1, h) ∧
 ∃ (h_1 : Heap),
 hstore h id 1 [V.sl a_1 l_1 c_1 k_1] = some h_1 ∧
 K Out.ret 19 [V.i IntKind.i64 (↑s.length : Int), V.nilifc] h_1) := by kernel_rfl
theorem f36_0 (id : Nat) (h : Heap) (K : Out → Nat → List V → Heap → Prop) : (codeP Tryd.Y (Tryd.Y.loc 36) 100 ((flat (bodyOf Tryd.f36))) ⟨(V.p (some (id, 0)) :: List.replicate 13 .undef), [], h⟩ (VQ [2] K)) =
  (∃ (a : Option (Nat × Nat)),
  ∃ (l : Nat),
 ∃ (c : Option Nat),
 ∃ (k : Nat),
 hcells h id 1 1 = some [V.sl a l c k] ∧
 (l = 0 → a = none) ∧
 ∃ (a_1 : Option (Nat × Nat)),
 ∃ (l : Nat),
 ∃ (c : Option Nat),
 ∃ (k : Nat),
 hcells h id 1 1 = some [V.sl a_1 l c k] ∧
 ∃ (s : List UInt8),
 ∃ (h_1 : Heap),
 strH Tryd.Y h 113 a (↑l : Int) = some (h_1, s) ∧ K Out.ret 14 [V.s s] h_1) := by kernel_rfl
theorem f50_0 (id : Nat) (h : Heap) (K : Out → Nat → List V → Heap → Prop) : (codeP Tryd.Y (Tryd.Y.loc 50) 100 ((flat (bodyOf Tryd.f50))) ⟨(V.p (some (id, 0)) :: List.replicate 19 .undef), [], h⟩ (VQ [] K)) =
  (∃ (a : Option (Nat × Nat)),
  hcells h id 0 1 = some [V.p a] ∧
 (Tryd.Y.ty 86).isSome = true ∧
 If a.isNone
 ((∃ (id_1 : Nat),
 ∃ (cs : List V),
 ∃ (wr : Bool),
 ∃ (ti : TI),
 some (id, 0) = some (id_1, 0) ∧
 h.get id_1 = some (YObj.arr cs wr) ∧
 h.tagOf id_1 = some 86 ∧
 some
 (TI.mk (2 : Nat) (32 : Nat) (Kd.struct [((0 : Nat), 83), ((1 : Nat), 84)]) [V.p none, V.sl none (0 : Nat) (some (0 : Nat)) (0 : Nat)]) =
 some ti ∧
 (ti.size = 0 → False) ∧ ti.size ≤ cs.length) ∧
 (∃ (id_1 : Nat),
 ∃ (cs : List V),
 ∃ (wr : Bool),
 ∃ (ti : TI),
 some (id, 0) = some (id_1, 0) ∧
 h.get id_1 = some (YObj.arr cs wr) ∧
 h.tagOf id_1 = some 86 ∧
 some
 (TI.mk (2 : Nat) (32 : Nat) (Kd.struct [((0 : Nat), 83), ((1 : Nat), 84)]) [V.p none, V.sl none (0 : Nat) (some (0 : Nat)) (0 : Nat)]) =
 some ti ∧
 (ti.size = 0 → False) ∧ ti.size ≤ cs.length) ∧
 ∃ (h_1 : Heap),
 hstore h id 0 [V.p (some (id, 0))] = some h_1 ∧ K Out.normal 20 [] h_1)
 (∃ (a : Option (Nat × Nat)),
 hcells h id 0 1 = some [V.p a] ∧
 (Tryd.Y.ty 86).isSome = true ∧
 (∃ (p : Nat × Nat), a = some p ∧ some (id, 0) = some p ∧ (h.get p.fst).isSome = true) ∧
 K Out.normal 20 [] h)) := by kernel_rfl
theorem f57_0 (s0 : List UInt8) (x1 : Int) (h : Heap) (K : Out → Nat → List V → Heap → Prop) : (codeP Tryd.Y (Tryd.Y.loc 57) 100 ((flat (bodyOf Tryd.f57))) ⟨(V.s s0 :: V.i IntKind.u8 x1 :: List.replicate 6 .undef), [], h⟩ (VQ [4] K)) =
  (∃ (n : Int),
  (PCon Tryd.Y (71 : Nat) [V.s s0, V.i IntKind.u8 x1] fun (v : V) => v = V.i IntKind.i64 n) ∧
 K Out.ret 8 [V.i IntKind.i64 n] h) := by kernel_rfl
theorem f71_0 (s0 : List UInt8) (x1 : Int) (h : Heap) (K : Out → Nat → List V → Heap → Prop) : (codeP Tryd.Y (Tryd.Y.loc 71) 100 ((flat (bodyOf Tryd.f71))) ⟨(V.s s0 :: V.i IntKind.u8 x1 :: List.replicate 6 .undef), [], h⟩ (VQ [4] K)) =
  (K Out.ret 8 [V.i IntKind.i64 (idxFrom s0 x1.toNat.toUInt8 (0 : Nat))] h) := by kernel_rfl
end Go.Y

/- strings.Builder, by contracts. -/
namespace Go.Y
open Go.Proofs
set_option maxRecDepth 100000

abbrev cellB (c : UInt8) : V := .i .u8 (c.toNat : Nat)
def te8 : TI := ⟨1, 1, .int .u8, [.i .u8 0]⟩

structure Bd (h : Heap) (id : Nat) (bs : List UInt8) : Prop where
  ex : ∃ (a s : Option (Nat × Nat)) (n : Nat) (c : Option Nat) (k : Nat), h.get id = some (.arr [.p a, .sl s n c k] true) ∧ (a = none ∨ a = some (id, 0)) ∧ IsL h 1 s n c k (bs.map cellB) ∧
    (∀ j o, s = some (j, o) → h.tagOf j = some 5 ∧ j ≠ id) ∧ (n = 0 → s = none)
  tag : h.tagOf id = some 86
  lt : id < h.nx

theorem tagOf_tagIf (h : Heap) (i : Nat) (t : Option TypeId) (j : Nat) : (h.tagIf i t).tagOf j = match t with | some x => if i = j then some x else h.tagOf j | none => h.tagOf j := by
  cases t <;> rfl
theorem tagOf_set (h : Heap) (i : Nat) (o : Option YObj) (j : Nat) : (h.set i o).tagOf j = h.tagOf j := rfl
theorem tagOf_push (h : Heap) (o : YObj) (j : Nat) : (h.push o).tagOf j = h.tagOf j := rfl

theorem app_b {h : Heap} {xt : TypeId} {x : V} {m : Nat} {new cells : List V} {a : Option (Nat × Nat)} {l : Nat} {c : Option Nat} {kk : Nat} (hsrc : source Tryd.Y ⟨[], [], h⟩ te8 xt x = some (m, new)) (hm : m ≠ 0) (hn : new.length = m) (hc : allCells new = true)
    (hl : IsL h 1 a l c kk cells) (htag : ∀ j o, a = some (j, o) → h.tagOf j = some 5) (hb : l + m ≤ 2 ^ 30) :
    ∃ h', appendH Tryd.Y h 84 xt (.sl a l c kk) x = some (.sl (some (h.nx, 0)) (l + m) none 1, h') ∧ h'.get h.nx = some (.arr (cells ++ new) true) ∧ h'.nx = h.nx + 1 ∧ h'.tagOf h.nx = some 5 ∧
      (∀ i, i < h.nx → (∀ o, a ≠ some (i, o)) → h'.get i = h.get i) ∧ ∀ i, i < h.nx → h'.tagOf i = h.tagOf i := by
  have hk : Tryd.Y.kd 84 = some (.slice 5) := by kernel_rfl
  have hte : Tryd.Y.ty 5 = some te8 := by kernel_rfl
  have ht5 : Tryd.Y.tag 5 = some 5 := by kernel_rfl
  have hmost : most = 1099511627776 := by decide
  rcases hl.2 with ⟨rfl, rfl, rfl⟩ | ⟨id, rfl, rfl, rfl, hid, hget⟩
  · refine ⟨h.pushT (some 5) (.arr new true), ?_, by simp, by simp, ?_, fun i hi _ => by rw [Heap.get_pushT, if_neg (by omega)], fun i hi => ?_⟩
    · have h1 : m ≤ most := by omega
      have e1 : te8.size = 1 := rfl
      have e2 : te8.bytes = 1 := rfl
      simp [appendH, appendY, hk, hte, hsrc, hc, hm, e1, e2, h1, ht5]
    · show ((h.push (.arr new true)).tagIf h.nx (some 5)).tagOf h.nx = some 5
      rw [tagOf_tagIf]; simp
    · show ((h.push (.arr new true)).tagIf h.nx (some 5)).tagOf i = h.tagOf i
      rw [tagOf_tagIf]; simp only; rw [if_neg (by omega)]; rfl
  · have hlen := hl.1
    have ht := htag id 0 rfl
    refine ⟨(h.set id none).pushT (some 5) (.arr (cells ++ new) true), ?_, by simp, by simp, ?_, fun i hi ha => ?_, fun i hi => ?_⟩
    · have hb1 : ¬ ((l + m) * 1 > most ∨ l + m > most) := by omega
      have hne : ¬ (0 + (l + m) * 1 ≤ cells.length) := by omega
      have htk : takeX (l * 1) (cells.drop 0) = some cells := by rw [List.drop_zero]; exact takeX_len hlen
      have e1 : te8.size = 1 := rfl
      have e2 : te8.bytes = 1 := rfl
      have htg : (if (0 : Nat) = 0 ∧ h.tagOf id = some 5 then some 5 else none) = (some 5 : Option TypeId) := by simp [ht]
      simp only [appendH, appendY, hk, hte, hsrc, e1, e2, if_false, hm, ne_eq, not_true_eq_false, hb1, hget, hne, Bool.true_or, if_true, htk, htg]
      rw [if_neg (by simp [hc])]
      simp only [ht, and_self, if_true]
    · show (((h.set id none).push _).tagIf (h.set id none).nx (some 5)).tagOf h.nx = some 5
      rw [tagOf_tagIf]; simp
    · have hne : i ≠ id := fun e => ha 0 (by rw [e])
      rw [Heap.get_pushT, if_neg (by simp; omega), Heap.get_set, if_neg hne]
    · show (((h.set id none).push _).tagIf (h.set id none).nx (some 5)).tagOf i = h.tagOf i
      rw [tagOf_tagIf]; simp only; rw [if_neg (by simp; omega)]; rfl

theorem cc_con {h : Heap} {id : Nat} {bs : List UInt8} (b : Bd h id bs) : Con Tryd.Y 50 [.p (some (id, 0))] h fun v h' => v = .tup [] ∧ Bd h' id bs := by
  obtain ⟨a, s, n, c, k, hg, ha, hL, ht, hz⟩ := b.ex
  refine conz_of Tryd.Yok (fn := Tryd.f50) (by kernel_rfl) (by kernel_rfl) (end_rule Tryd.Yok (loc := Tryd.Y.loc 50) 100 [] ?_)
  refine Eq.mpr (f50_0 id h _) ?_
  have hc : hcells h id 0 1 = some [.p a] := by simp [hcells, hg, takeX]
  have hty : (Tryd.Y.ty 86).isSome = true := by kernel_rfl
  refine ⟨a, hc, hty, if_mk (fun hn => ?_) (fun hn => ?_)⟩
  · have cv : ∃ (id_1 : Nat) (cs : List V) (wr : Bool) (ti : TI), some (id, 0) = some (id_1, 0) ∧ h.get id_1 = some (YObj.arr cs wr) ∧ h.tagOf id_1 = some 86 ∧ some (⟨2, 32, Kd.struct [(0, 83), (1, 84)], [.p none, .sl none 0 (some 0) 0]⟩ : TI) = some ti ∧ (ti.size = 0 → False) ∧ ti.size ≤ cs.length :=
      ⟨id, _, _, _, rfl, hg, b.tag, rfl, by simp, by simp⟩
    refine ⟨cv, cv, h.set id (some (.arr [.p (some (id, 0)), .sl s n c k] true)), by simp [hstore, hg, splice], finC (.inl rfl) rfl (.now ⟨rfl, ⟨⟨some (id, 0), s, n, c, k, by simp, .inr rfl, ?_, ht, hz⟩, b.tag, b.lt⟩⟩)⟩
    exact hL.fr (Nat.le_refl _) fun j hj _ => by rw [Heap.get_set, if_neg (fun e => (ht j 0 hj).2 e)]
  · have ha' : a = some (id, 0) := by
      rcases ha with rfl | ha
      · simp at hn
      · exact ha
    subst ha'
    exact ⟨_, hc, hty, ⟨(id, 0), rfl, rfl, by simp [hg]⟩, finC (.inl rfl) rfl (.now ⟨rfl, b⟩)⟩

/-- What a write leaves. -/
theorem Bd.put {h h' : Heap} {id : Nat} {bs : List UInt8} {new : List UInt8} {a s : Option (Nat × Nat)} {n : Nat} {c : Option Nat} {k : Nat} (b : Bd h id bs) (hg : h.get id = some (.arr [.p a, .sl s n c k] true)) (ha : a = none ∨ a = some (id, 0))
    (hL : IsL h 1 s n c k (bs.map cellB)) (ht : ∀ j o, s = some (j, o) → h.tagOf j = some 5 ∧ j ≠ id) (hnew : new ≠ [])
    (h1 : h'.get h.nx = some (.arr (bs.map cellB ++ new.map cellB) true)) (h2 : h'.nx = h.nx + 1) (h3 : h'.tagOf h.nx = some 5) (h4 : ∀ i, i < h.nx → (∀ o, s ≠ some (i, o)) → h'.get i = h.get i) (h5 : ∀ i, i < h.nx → h'.tagOf i = h.tagOf i) :
    ∃ h2, hstore h' id 1 [.sl (some (h.nx, 0)) (n + new.length) none 1] = some h2 ∧ Bd h2 id (bs ++ new) := by
  have hgi : h'.get id = some (.arr [.p a, .sl s n c k] true) := by rw [h4 id b.lt (fun o e => (ht id o e).2 rfl)]; exact hg
  have hlt := b.lt
  refine ⟨h'.set id (some (.arr [.p a, .sl (some (h.nx, 0)) (n + new.length) none 1] true)), by simp [hstore, hgi, splice], ⟨⟨a, some (h.nx, 0), n + new.length, none, 1, by simp, ha, ⟨?_, .inr ⟨h.nx, rfl, rfl, rfl, ?_, ?_⟩⟩, ?_, ?_⟩, ?_, ?_⟩⟩
  · have := hL.1
    simp at this ⊢; omega
  · simp [h2]
  · rw [Heap.get_set, if_neg (by omega), h1, List.map_append]
  · rintro j o e
    cases e
    exact ⟨by rw [tagOf_set]; exact h3, by omega⟩
  · intro h0
    have : new.length = 0 := by omega
    exact absurd (List.eq_nil_of_length_eq_zero this) hnew
  · rw [tagOf_set, h5 id b.lt]; exact b.tag
  · rw [Heap.nx_set, h2]; omega

theorem wbyte_con {h : Heap} {id : Nat} {bs : List UInt8} (b : Bd h id bs) (c : UInt8) (hl : bs.length < 2 ^ 29) : Con Tryd.Y 41 [.p (some (id, 0)), .i .u8 (c.toNat : Nat)] h fun v h' => v = .nilifc ∧ Bd h' id (bs ++ [c]) := by
  refine conz_of Tryd.Yok (fn := Tryd.f41) (by kernel_rfl) (by kernel_rfl) (end_rule Tryd.Yok (loc := Tryd.Y.loc 41) 100 [4] ?_)
  refine Eq.mpr (f41_0 id (c.toNat : Nat) h _) ?_
  refine (cc_con b).mono fun v h1 ⟨e1, b1⟩ => ⟨e1, ?_⟩
  obtain ⟨a, s, n, cc, k, hg, ha, hL, ht, hz⟩ := b1.ex
  have hn := hL.1
  simp at hn
  have hsrc : source Tryd.Y ⟨[], [], h1⟩ te8 84 (.ts [cellB c] 1 (some 1)) = some (1, [cellB c]) := by
    have hk : Tryd.Y.kd 84 = some (.slice 5) := by kernel_rfl
    simp [source, hk, elems, elemsS, te8, takeX]
  obtain ⟨h2, q1, q2, q3, q4, q5, q6⟩ := app_b (cells := bs.map cellB) hsrc (by omega) rfl rfl hL (fun j o e => (ht j o e).1) (by omega)
  obtain ⟨h3, p1, p2⟩ := b1.put (new := [c]) hg ha hL ht (by simp) q2 q3 q4 q5 q6
  exact ⟨s, n, cc, k, by simp [hcells, hg, takeX], _, _, _, _, h2, q1, h3, p1, finC (.inr rfl) rfl (.now ⟨rfl, p2⟩)⟩

theorem wstr_con {h : Heap} {id : Nat} {bs : List UInt8} (b : Bd h id bs) (t : List UInt8) (hl : bs.length + t.length < 2 ^ 29) : Con Tryd.Y 35 [.p (some (id, 0)), .s t] h fun v h' => v = .tup [.i .i64 (t.length : Nat), .nilifc] ∧ Bd h' id (bs ++ t) := by
  refine conz_of Tryd.Yok (fn := Tryd.f35) (by kernel_rfl) (by kernel_rfl) (end_rule Tryd.Yok (loc := Tryd.Y.loc 35) 100 [4, 5] ?_)
  refine Eq.mpr (f35_0 id t h _) ?_
  refine (cc_con b).mono fun v h1 ⟨e1, b1⟩ => ⟨e1, ?_⟩
  obtain ⟨a, s, n, cc, k, hg, ha, hL, ht, hz⟩ := b1.ex
  have hn := hL.1
  simp at hn
  have hsrc : source Tryd.Y ⟨[], [], h1⟩ te8 9 (.s t) = some (t.length, t.map cellB) := by
    have hk : Tryd.Y.kd 9 = some .str := by kernel_rfl
    simp [source, hk, elems, te8]
  have hall : allCells (t.map cellB) = true := by
    clear hsrc hl
    induction t with
    | nil => rfl
    | cons c t ih => simp only [List.map_cons, allCells, ih, Bool.and_true]; rfl
  have hc1 : hcells h1 id 1 1 = some [.sl s n cc k] := by simp [hcells, hg, takeX]
  by_cases h0 : t = []
  · subst h0
    have hk : Tryd.Y.kd 84 = some (.slice 5) := by kernel_rfl
    have hte : Tryd.Y.ty 5 = some te8 := by kernel_rfl
    have e1 : te8.size = 1 := rfl
    have happ : appendH Tryd.Y h1 84 9 (.sl s n cc k) (.s []) = some (.sl s n (if s = none then some 0 else cc) (if s = none then 1 else k), h1) := by
      rcases hL.2 with ⟨rfl, rfl, _⟩ | ⟨i2, rfl, rfl, rfl, _, _⟩
      · simp [appendH, appendY, hk, hte, hsrc, e1, allCells]
      · simp [appendH, appendY, hk, hte, hsrc, e1, allCells]
    refine ⟨s, n, cc, k, hc1, _, _, _, _, h1, happ, h1.set id (some (.arr [.p a, .sl s n (if s = none then some 0 else cc) (if s = none then 1 else k)] true)), by simp [hstore, hg, splice], finC (.inr rfl) rfl (.now ⟨rfl, ⟨⟨a, s, n, _, _, by simp; exact ⟨rfl, rfl⟩, ha, ?_, ht, hz⟩, b1.tag, b1.lt⟩⟩)⟩
    rw [List.append_nil]
    have hfr : IsL (h1.set id (some (.arr [.p a, .sl s n (if s = none then some 0 else cc) (if s = none then 1 else k)] true))) 1 s n cc k (bs.map cellB) := hL.fr (Nat.le_refl _) fun j hj _ => by rw [Heap.get_set, if_neg (fun e => (ht j 0 hj).2 e)]
    refine ⟨hfr.1, ?_⟩
    rcases hfr.2 with ⟨rfl, g2, g3⟩ | ⟨i2, rfl, g3⟩
    · exact .inl ⟨rfl, g2, g3⟩
    · exact .inr ⟨i2, rfl, g3⟩
  · obtain ⟨h2, q1, q2, q3, q4, q5, q6⟩ := app_b (cells := bs.map cellB) hsrc (by simpa using h0) (by simp) hall hL (fun j o e => (ht j o e).1) (by omega)
    obtain ⟨h3, p1, p2⟩ := b1.put (new := t) hg ha hL ht h0 q2 q3 q4 q5 q6
    exact ⟨s, n, cc, k, hc1, _, _, _, _, h2, q1, h3, p1, finC (.inr rfl) rfl (.now ⟨rfl, p2⟩)⟩

theorem bytesOf_cells : ∀ bs : List UInt8, bytesOf (bs.map cellB) = some bs
  | [] => rfl
  | c :: bs => by
    rw [List.map_cons, bytesOf, bytesOf_cells bs]
    simp

theorem bstr_con {h : Heap} {id : Nat} {bs : List UInt8} (b : Bd h id bs) (hl : bs.length < 2 ^ 30) : Con Tryd.Y 36 [.p (some (id, 0))] h fun v _ => v = .s bs := by
  obtain ⟨a, s, n, c, k, hg, ha, hL, ht, hz⟩ := b.ex
  have hn := hL.1
  simp at hn
  have hc : hcells h id 1 1 = some [.sl s n c k] := by simp [hcells, hg, takeX]
  refine conz_of Tryd.Yok (fn := Tryd.f36) (by kernel_rfl) (by kernel_rfl) (end_rule Tryd.Yok (loc := Tryd.Y.loc 36) 100 [2] ?_)
  refine Eq.mpr (f36_0 id h _) ?_
  have hmost : most = 1099511627776 := by decide
  rcases hL.2 with ⟨rfl, rfl, h0⟩ | ⟨i2, rfl, rfl, rfl, g1, g2⟩
  · have : bs = [] := by simpa using h0
    subst this
    refine ⟨_, _, _, _, hc, fun _ => rfl, _, _, _, _, hc, [], h, by simp [strH], finC (.inr rfl) rfl (.now rfl)⟩
  · have hne : n ≠ 0 := fun e => by have := hz e; cases this
    refine ⟨_, _, _, _, hc, fun e => absurd e hne, _, _, _, _, hc, bs, h.set i2 (some (.arr (bs.map cellB) false)), ?_, finC (.inr rfl) rfl (.now rfl)⟩
    have hk : Tryd.Y.kd 5 = some (.int .u8) := by kernel_rfl
    have hp : isPtr Tryd.Y 113 5 = true := by kernel_rfl
    have h5 := (ht i2 0 rfl).1
    simp only [strH, g2, h5, hk]
    rw [if_neg (by omega), if_pos ⟨hp, by simp; omega, by simp; omega⟩, bytesOf_cells]
    rfl
end Go.Y
