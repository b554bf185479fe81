/- Loops. -/
import Derived.Test.YtdoanndgjipbmaaGNest
import Derived.Test.YtdoanndgjipbmaaGLoopsR
import Derived.Test.YtdoanndgjipbmaaYTryP
import Derived.Test.YtdoanndgjipbmaaGCool
import Derived.Test.YtdoanndgjipbmaaGWk
namespace Go.Y
open Go.Proofs Tar
set_option maxRecDepth 100000

/-- Cells that are lists of their own, whatever they are. -/
def NestI (h : Heap) (C : List V) (L : List (List Nat)) : Prop :=
  C.length = L.length ∧ ∀ (p : Nat) (l : List Nat), L[p]? = some l → ∃ (a : Option (Nat × Nat)) (n : Nat) (c : Option Nat) (k : Nat), C[p]? = some (.sl a n c k) ∧ IsL h 1 a n c k (nums l)
def DistI (C : List V) : Prop := ∀ (p q j : Nat), (C[p]?.bind objV) = some j → (C[q]?.bind objV) = some j → p = q
structure AllL (G : List (List Int)) (h : Heap) (a : Option (Nat × Nat)) (l : Nat) (c : Option Nat) (k : Nat) (C : List V) (L : List (List Nat)) : Prop where
  o : IsL h 1 a l c k C
  n : NestI h C L
  d : DistI C
  s : ∀ (p j : Nat), (C[p]?.bind objV) = some j → a ≠ some (j, 0) ∧ j ≠ 0
  g : h.get 0 = some (.arr [.ts (rowsV G) G.length none] true)
  a0 : a ≠ some (0, 0)
  lt : 0 < h.nx
  cap : (a = none ∧ c = some 0 ∧ k = 0) ∨ a ≠ none

theorem isl_lt {h : Heap} {k : Nat} {a : Option (Nat × Nat)} {l : Nat} {c : Option Nat} {kk : Nat} {cs : List V} (o : IsL h k a l c kk cs) {j x : Nat} (e : a = some (j, x)) : j < h.nx ∧ x = 0 := by
  rcases o.2 with hx | ⟨id2, hx, _, _, hx4, _⟩
  · rw [hx.1] at e; cases e
  · rw [hx] at e; cases e; exact ⟨hx4, rfl⟩

theorem nest_lt {h : Heap} {C : List V} {L : List (List Nat)} (n : NestI h C L) {p j : Nat} (e : (C[p]?.bind objV) = some j) : j < h.nx := by
  cases hc : C[p]? with
  | none => rw [hc] at e; cases e
  | some v =>
    have hp := (List.getElem?_eq_some_iff.1 hc).1
    obtain ⟨l, hl⟩ : ∃ l, L[p]? = some l := ⟨_, List.getElem?_eq_getElem (by rw [← n.1]; exact hp)⟩
    obtain ⟨a, m, c, k, h1, h2⟩ := n.2 p l hl
    rw [h1] at e
    cases a with
    | none => cases e
    | some x => obtain ⟨j', o'⟩ := x; simp [objV] at e; subst e; exact (isl_lt h2 rfl).1

/-- Nothing else is turned. -/
theorem NestI.fr {h h' : Heap} {C : List V} {L : List (List Nat)} (n : NestI h C L) (hn : h.nx ≤ h'.nx) (hs : ∀ (p j : Nat), (C[p]?.bind objV) = some j → h'.get j = h.get j) : NestI h' C L :=
  ⟨n.1, fun p l hp => by
    obtain ⟨a, m, c, k, h1, h2⟩ := n.2 p l hp
    refine ⟨a, m, c, k, h1, h2.fr hn fun j e _ => hs p j ?_⟩
    rw [h1, e]; rfl⟩

theorem store_step {G : List (List Int)} {h : Heap} {a : Option (Nat × Nat)} {l : Nat} {c : Option Nat} {k : Nat} {C : List V} {L : List (List Nat)} (A : AllL G h a l c k C L) {p i : Nat} {g : List Nat} (hp : L[p]? = some g) (hg : g.length < 2 ^ 28) {K : Heap → Prop}
    (hk : ∀ h' C', AllL G h' a l c k C' (L.set p (g ++ [i])) → K h') :
    SlO a False fun id off => ((0 : Int) ≤ (p : Nat) ∧ ((p : Nat) : Int) < (l : Nat)) ∧ k = 1 ∧ ∃ (a1 : Option (Nat × Nat)) (l1 : Nat) (c1 : Option Nat) (k1 : Nat), hcells h id (off + ((p : Nat) : Int).toNat * 1) 1 = some [.sl a1 l1 c1 k1] ∧
      ∃ (a2 : Option (Nat × Nat)) (l2 : Nat) (c2 : Option Nat) (k2 : Nat) (h2 : Heap), appendH Try.Y h 26 26 (.sl a1 l1 c1 k1) (.ts [.i .i64 (i : Nat)] 1 (some 1)) = some (.sl a2 l2 c2 k2, h2) ∧
        SlO a False fun id off => ((0 : Int) ≤ (p : Nat) ∧ ((p : Nat) : Int) < (l : Nat)) ∧ k = 1 ∧ ∃ h3 : Heap, hstore h2 id (off + ((p : Nat) : Int).toNat * 1) [.sl a2 l2 c2 k2] = some h3 ∧ K h3 := by
  have hll := isl_len A.o
  have hpl : p < C.length := by rw [A.n.1]; exact (List.getElem?_eq_some_iff.1 hp).1
  obtain ⟨a1, l1, c1, k1, h1, o1⟩ := A.n.2 p g hp
  obtain ⟨a2, l2, c2, k2, h2, q1, q2, q3, q4, j, q5, q6⟩ := num_app i o1 (by omega)
  rcases A.o.2 with ⟨rfl, h0, hx⟩ | ⟨id, rfl, rfl, rfl, hid, hget⟩
  · rw [hx] at hpl; simp at hpl
  have hkeep : ∀ j', j' < h.nx → (∀ x, a1 ≠ some (j', x)) → h2.get j' = h.get j' := q3.2
  have ha1 : ∀ x, a1 = some (x, 0) → x ≠ id ∧ x ≠ 0 := fun x e => by
    have hb : (C[p]?.bind objV) = some x := by rw [h1, e]; rfl
    obtain ⟨s1, s2⟩ := A.s p x hb
    exact ⟨fun e' => s1 (by rw [e']), s2⟩
  have ha1' : ∀ x y, a1 = some (x, y) → y = 0 := fun x y e => (isl_lt o1 e).2
  have hid2 : h2.get id = some (.arr C true) := by
    rw [hkeep id hid fun x e => ?_, hget]
    have := ha1' _ _ e; subst this
    exact (ha1 id e).1 rfl
  refine ⟨⟨by omega, by omega⟩, rfl, _, _, _, _, by rw [at1]; exact hcells_at hget h1, a2, l2, c2, k2, h2, q1, ⟨by omega, by omega⟩, rfl, _, by rw [at1]; exact hstore_at hid2 _ hpl, hk _ (C.set p (.sl a2 l2 c2 k2)) ?_⟩
  have hjid : j ≠ id := by omega
  have hset : ∀ q, ((C.set p (V.sl a2 l2 c2 k2))[q]?.bind objV) = if p = q then some j else (C[q]?.bind objV) := fun q => by
    rw [List.getElem?_set]
    split
    · rename_i e; subst e; simp [hpl, q5, objV]
    · rfl
  refine ⟨⟨by simpa using A.o.1, .inr ⟨id, rfl, rfl, rfl, by simpa using Nat.lt_of_lt_of_le hid q3.1, by rw [Heap.get_set, if_pos rfl]⟩⟩, ⟨by simp [A.n.1], fun q g' hq => ?_⟩, fun q q' j' e e' => ?_, fun q j' e => ?_, ?_, A.a0, ?_, .inr (by simp)⟩
  · rw [List.getElem?_set] at hq
    split at hq
    · rename_i e; subst e
      rw [if_pos (by rw [← A.n.1]; exact hpl)] at hq
      cases hq
      refine ⟨a2, l2, c2, k2, by simp [hpl], q2.fr (by simp) fun j' e' _ => ?_⟩
      rw [q5] at e'; cases e'
      rw [Heap.get_set, if_neg hjid]
    · rename_i hne
      obtain ⟨a', m', c', k', g1, g2⟩ := A.n.2 q g' hq
      refine ⟨a', m', c', k', by rw [List.getElem?_set, if_neg hne]; exact g1, g2.fr (by simpa using q3.1) fun j' e' hj' => ?_⟩
      have hb : (C[q]?.bind objV) = some j' := by rw [g1, e']; rfl
      have hs := A.s q j' hb
      rw [Heap.get_set, if_neg (fun e => hs.1 (by rw [e])), hkeep j' hj' fun x e2 => ?_]
      have := ha1' _ _ e2; subst this
      refine hne (A.d p q j' ?_ hb)
      rw [h1, e2]; rfl
  · rw [hset] at e e'
    by_cases e1 : p = q
    · by_cases e2 : p = q'
      · rw [← e1, ← e2]
      · rw [if_pos e1] at e; rw [if_neg e2] at e'
        cases e
        have := nest_lt A.n e'; omega
    · by_cases e2 : p = q'
      · rw [if_neg e1] at e; rw [if_pos e2] at e'
        cases e'
        have := nest_lt A.n e; omega
      · rw [if_neg e1] at e; rw [if_neg e2] at e'
        exact A.d q q' j' e e'
  · rw [hset] at e
    split at e
    · cases e
      exact ⟨fun e => by cases e; exact hjid rfl, by have := A.lt; omega⟩
    · exact A.s q j' e
  · have hid0 : id ≠ 0 := fun e => A.a0 (by rw [e])
    rw [Heap.get_set, if_neg (Ne.symm hid0), hkeep 0 A.lt fun x e => ?_, A.g]
    have := ha1' _ _ e; subst this
    exact (ha1 0 e).2 rfl
  · have := A.lt; have := q3.1; simp; omega

theorem new_step {G : List (List Int)} {h : Heap} {a : Option (Nat × Nat)} {l : Nat} {c : Option Nat} {k : Nat} {C : List V} {L : List (List Nat)} (A : AllL G h a l c k C L) (hb : C.length < 2 ^ 28) :
    ∃ (a' : Option (Nat × Nat)) (l' : Nat) (c' : Option Nat) (k' : Nat) (h' : Heap), appendH Try.Y h 22 22 (.sl a l c k) (.ts [.sl none 0 (some 0) 0] 1 (some 1)) = some (.sl a' l' c' k', h') ∧ AllL G h' a' l' c' k' (C ++ [.sl none 0 (some 0) 0]) (L ++ [[]]) := by
  have hll := isl_len A.o
  have hm40 : most = 1099511627776 := by decide
  obtain ⟨a', l', c', k', h', q1, q2, q3, q4, j, q5, q6⟩ := append_ts (Y := Try.Y) (st := 22) (e := 26) (te := ⟨1, 24, .slice 3, [.sl none 0 (some 0) 0]⟩) (m := 1) (cap := some 1) (new := [.sl none 0 (some 0) 0]) (by kernel_rfl) (by kernel_rfl) rfl (by decide) A.o (by decide) rfl rfl (by show (l + 1) * 24 ≤ _; rw [hm40]; omega) (by rw [hm40]; omega)
  have hset : ∀ q, ((C ++ [V.sl none 0 (some 0) 0])[q]?.bind objV) = (C[q]?.bind objV) := fun q => by
    by_cases e : q < C.length
    · rw [List.getElem?_append_left e]
    · rw [List.getElem?_append_right (by omega), List.getElem?_eq_none (by omega : C.length ≤ q)]
      rcases Nat.eq_zero_or_pos (q - C.length) with e0 | e0
      · rw [e0]; rfl
      · rw [List.getElem?_eq_none (by simp; omega)]
  have hk : ∀ j', j' < h.nx → a ≠ some (j', 0) → h'.get j' = h.get j' := fun j' hj' hne => q3.2 j' hj' fun x e => by
    have := (isl_lt A.o e).2; subst this; exact hne e
  refine ⟨a', l', c', k', h', q1, q2, ⟨by simp [A.n.1], fun p g hp => ?_⟩, fun p q j' e e' => ?_, fun p j' e => ?_, ?_, ?_, ?_, .inr (by rw [q5]; simp)⟩
  · by_cases hlt : p < L.length
    · rw [List.getElem?_append_left hlt] at hp
      obtain ⟨a1, m1, c1, k1, g1, g2⟩ := A.n.2 p g hp
      refine ⟨a1, m1, c1, k1, by rw [List.getElem?_append_left (by rw [A.n.1]; exact hlt)]; exact g1, g2.fr q3.1 fun j' e hj' => hk j' hj' ?_⟩
      exact (A.s p j' (by rw [g1, e]; rfl)).1
    · rw [List.getElem?_append_right (by omega)] at hp
      have hp0 : p - L.length = 0 := by
        rcases Nat.eq_zero_or_pos (p - L.length) with h0 | h0
        · exact h0
        · rw [List.getElem?_eq_none (by simp; omega)] at hp; cases hp
      rw [hp0] at hp; simp at hp; subst hp
      have hcl := A.n.1
      exact ⟨none, 0, some 0, 0, by rw [List.getElem?_append_right (by omega), show p - C.length = 0 by omega]; rfl, by simp [IsL, nums]⟩
  · rw [hset] at e e'; exact A.d p q j' e e'
  · rw [hset] at e
    refine ⟨fun e' => ?_, (A.s p j' e).2⟩
    rw [q5] at e'; cases e'
    have := nest_lt A.n e; omega
  · rw [hk 0 A.lt A.a0, A.g]
  · rw [q5]; intro e; cases e; have := A.lt; omega
  · have := A.lt; have := q3.1; omega

noncomputable def nI (G : List (List Int)) (i : Nat) : Nat := (cameK [] ((repsG G).take i)).length
noncomputable def groupsTo (G : List (List Int)) (i : Nat) : List (List Nat) := (List.range (nI G i)).map fun p => groupTo (partsN G) p i

theorem partsN_step {G : List (List Int)} {i : Nat} (hi : i < G.length) : ((partsN G)[i]? = some (nI G i) ∧ nI G (i + 1) = nI G i + 1) ∨ (∃ p, (partsN G)[i]? = some p ∧ p < nI G i) ∧ nI G (i + 1) = nI G i := by
  classical
  by_cases h : ∀ k, k < i → ¬ Mut (sucI G) k i
  · exact .inl (partsN_new hi h)
  · simp only [Classical.not_forall, Classical.not_not] at h
    obtain ⟨k, hk, hm⟩ := h
    have ho := partsN_old (G := G) hi hk hm
    obtain ⟨h1, _⟩ := renum_step (repsG_get hi)
    refine .inr ⟨⟨_, h1, ?_⟩, by unfold nI; rw [ho]⟩
    rw [ho]
    refine place_mem ?_
    rw [← ho]
    refine cameK_has ?_
    rw [List.take_succ_eq_append_getElem (by simpa [repsG] using hi)]
    simp [repsG]
theorem nI_le {G : List (List Int)} : ∀ i, nI G i ≤ i := fun i => by
  unfold nI
  exact Nat.le_trans (came_le _ _) (by simp; omega)
theorem partsN_lt {G : List (List Int)} : ∀ {i k : Nat}, i ≤ G.length → k < i → (partsN G).getD k 0 < nI G i
  | 0, _, _, hk => absurd hk (Nat.not_lt_zero _)
  | i + 1, k, hi, hk => by
    rcases Nat.lt_succ_iff_lt_or_eq.1 hk with hk | rfl
    · have := partsN_lt (G := G) (i := i) (by omega) hk
      rcases partsN_step (G := G) (i := i) (by omega) with ⟨_, h⟩ | ⟨_, h⟩ <;> omega
    · rcases partsN_step (G := G) (i := k) (by omega) with ⟨h1, h⟩ | ⟨⟨p, h1, h2⟩, h⟩
      · simp [List.getD_eq_getElem?_getD, h1]; omega
      · simp [List.getD_eq_getElem?_getD, h1]; omega
theorem group_new {G : List (List Int)} {i : Nat} (hi : i ≤ G.length) : groupTo (partsN G) (nI G i) i = [] := by
  unfold groupTo
  rw [List.filter_eq_nil_iff]
  intro k hk hp
  have := partsN_lt hi (List.mem_range.1 hk)
  have : (partsN G).getD k 0 = nI G i := by simpa using hp
  omega
theorem groupsTo_new {G : List (List Int)} {i : Nat} (hi : i < G.length) (h : (partsN G)[i]? = some (nI G i)) (hn : nI G (i + 1) = nI G i + 1) : groupsTo G (i + 1) = (groupsTo G i ++ [[]]).set (nI G i) ([] ++ [i]) := by
  have hd : (partsN G).getD i 0 = nI G i := by simp [List.getD_eq_getElem?_getD, h]
  unfold groupsTo
  rw [hn, List.range_succ, List.map_append]
  rw [List.set_append_right _ _ (by simp)]
  congr 1
  · apply List.map_congr_left
    intro p hp
    have hp := List.mem_range.1 hp
    rw [groupTo_succ, hd, if_neg (by omega)]
  · simp only [List.map_cons, List.map_nil, List.length_map, List.length_range, Nat.sub_self, List.set_cons_zero]
    rw [groupTo_succ, hd, if_pos rfl, group_new (by omega)]
theorem groupsTo_old {G : List (List Int)} {i p : Nat} (h : (partsN G)[i]? = some p) (hn : nI G (i + 1) = nI G i) : groupsTo G (i + 1) = (groupsTo G i).set p (groupTo (partsN G) p i ++ [i]) := by
  have hd : (partsN G).getD i 0 = p := by simp [List.getD_eq_getElem?_getD, h]
  unfold groupsTo
  rw [hn]
  apply List.ext_getElem?
  intro q
  rw [List.getElem?_set]
  by_cases e : p = q
  · subst e
    rw [if_pos rfl]
    by_cases hl : p < nI G i
    · rw [List.getElem?_map, List.getElem?_range hl]
      simp only [Option.map_some]
      rw [groupTo_succ, if_pos hd]; simp [hl]
    · simp [hl]
  · rw [if_neg e]
    simp only [List.getElem?_map]
    by_cases hl : q < nI G i
    · rw [List.getElem?_range hl]
      simp only [Option.map_some]
      rw [groupTo_succ, hd, if_neg e]
    · rw [List.getElem?_eq_none (by simpa using hl)]; rfl

/-- All groups, kept or not: the loops. -/
theorem groups_loops {G : List (List Int)} (hm : mayG G = true) : (groupsTo G G.length).filter (keepG G) = loopsN G := by
  unfold loopsN groupsTo
  rw [if_pos hm, partsN_length]
  have hn := nI_le (G := G) G.length
  have hsplit : List.range G.length = List.range (nI G G.length) ++ List.range' (nI G G.length) (G.length - nI G G.length) := by
    apply List.ext_getElem?
    intro q
    by_cases hq : q < nI G G.length
    · rw [List.getElem?_append_left (by simpa using hq), List.getElem?_range hq, List.getElem?_range (by omega)]
    · rw [List.getElem?_append_right (by simpa using hq), List.length_range]
      by_cases hq2 : q < G.length
      · rw [List.getElem?_range hq2, List.getElem?_range' (by omega)]
        congr 1; omega
      · rw [List.getElem?_eq_none (by simpa using hq2), List.getElem?_eq_none (by simp; omega)]
  conv => rhs; rw [hsplit, List.map_append, List.filter_append]
  have hz : (List.map (groupN (partsN G)) (List.range' (nI G G.length) (G.length - nI G G.length))).filter (keepG G) = [] := by
    rw [List.filter_eq_nil_iff]
    intro l hl
    obtain ⟨p, hp, rfl⟩ := List.mem_map.1 hl
    have hp := (List.mem_range'_1.1 hp).1
    have : groupN (partsN G) p = [] := by
      rw [← group_all, partsN_length]
      unfold groupTo
      rw [List.filter_eq_nil_iff]
      intro k hk hpk
      have := partsN_lt (G := G) (Nat.le_refl _) (List.mem_range.1 hk)
      have : (partsN G).getD k 0 = p := by simpa using hpk
      omega
    rw [this]; simp [keepG]
  rw [hz, List.append_nil]
  congr 1
  apply List.map_congr_left
  intro p _
  rw [← group_all, partsN_length]

theorem group_ne {G : List (List Int)} : ∀ {i p : Nat}, i ≤ G.length → p < nI G i → groupTo (partsN G) p i ≠ []
  | 0, p, _, hp => by simp [nI, cameK] at hp
  | i + 1, p, hi, hp => by
    rw [groupTo_succ]
    split
    · simp
    · rename_i hne
      rcases partsN_step (G := G) (i := i) (by omega) with ⟨h1, h⟩ | ⟨_, h⟩
      · refine group_ne (by omega) ?_
        have : (partsN G).getD i 0 = nI G i := by simp [List.getD_eq_getElem?_getD, h1]
        omega
      · exact group_ne (by omega) (by omega)
end Go.Y

/- Loops: its contract. -/
namespace Go.Y
open Go.Proofs Tar
set_option maxRecDepth 100000

def A13 (G : List (List Int)) (m : Nat) (vs : List V) (h : Heap) : Prop :=
  ∃ (a : Option (Nat × Nat)) (l : Nat) (c : Option Nat) (k i : Nat) (C : List V), vs = [.p (some (0, 0)), .sl a l c k, .ts (nums (partsM G)) (partsM G).length none, .i .i64 ((partsM G).length : Nat), .i .i64 (i : Nat)] ∧ m = (partsM G).length - i ∧ i ≤ (partsM G).length ∧ AllL G h a l c k C (groupsTo G i)

theorem del_nil {id1 : Nat} {h : Heap} : Con Try.Y 23 [.sl none 0 (some 0) 0, .fn (.func 24) [] [.p (some (id1, 0))]] h fun v _ => v = .ts [] 0 none := by
  refine conz_of Try.Yok (fn := Try.f23) (by kernel_rfl) (by kernel_rfl) ?_
  refine pre_rule Try.Yok (n := 42) (loc := Try.Y.loc 23) 100 [0, 1, 4, 5, 6] (by kernel_rfl) ?_
  refine Eq.mpr (f23n_0 id1 h _) ?_
  refine Con.mono (Q := fun v k => v = .i .i64 (-1 : Int)) ?_ fun v k hv => ⟨_, hv, if_mk (fun _ => ?_) (fun hc => by simp at hc)⟩
  · refine con_of Try.Yok (fn := Try.f27) (by kernel_rfl) (by kernel_rfl) (show TriL Try.Y _ _ (FinS Try.Y Try.f27 fun v k => v = .i .i64 (-1 : Int)) from ?_)
    refine pre_rule Try.Yok (n := 19) (loc := Try.Y.loc 27) 100 [0, 1, 7, 8] (by kernel_rfl) ?_
    refine Eq.mpr (f27n_0 id1 h _) ?_
    refine ⟨rfl, loop2 [0, 1, 7, 8] [0, 1, 4, 7, 8] rfl (by kernel_rfl) (fun m vs _ => vs = [.sl none 0 (some 0) 0, .fn (.func 24) [] [.p (some (id1, 0))], .i .i64 (0 : Int), .i .i64 (0 : Int)]) 0 mk_len rfl ?_⟩
    rintro m vs h' rfl
    refine all_rule Try.Yok (loc := Try.Y.loc 27) 100 [0, 1, 4, 7, 8] ?_
    refine Eq.mpr (f27n_1 id1 h' _) ?_
    refine roundW_exit [] (by kernel_rfl) rfl rfl ?_
    refine end_rule Try.Yok (loc := Try.Y.loc 27) 100 [4] ?_
    refine Eq.mpr (f27n_2 h' _) ?_
    exact ⟨.inr rfl, _, rfl, rfl⟩
  · exact fin_at (.inr rfl) rfl ⟨[], _, .inl (.frz _ _ (.sln _ _ none fun x hx => by cases hx)), rfl⟩

theorem loops_con {G : List (List Int)} (hG : G.length < 2 ^ 28) (hl : ∀ l ∈ G, l.length < 2 ^ 28) : PCon Try.Y 13 [encG G] (· = .ts (rowsV ((loopsN G).map natI)) (loopsN G).length none) := by
  refine pcon_of Try.Yok (fn := Try.f13) (by kernel_rfl) (by kernel_rfl) rfl ?_
  refine pre_rule Try.Yok (n := 37) (loc := Try.Y.loc 13) 100 [1, 4, 9, 10, 11] (by kernel_rfl) ?_
  refine Eq.mpr (f13_0 (rowsV G) G.length .empty _) ?_
  have hg : (Heap.empty.push (YObj.arr [V.ts (rowsV G) G.length none] true)).get 0 = some (.arr [V.ts (rowsV G) G.length none] true) := by rw [Heap.get_push]; rfl
  have hp := parts_con hG hl
  rw [partsM_enc] at hp
  have hpm : (partsM G).length ≤ G.length := by unfold partsM; split; rw [partsN_length]; simp; simp
  refine ⟨_, _, _, hcells_one hg, _, _, _, hp, rfl, ?_⟩
  refine loop2 [1, 4, 9, 10, 11] [1, 4, 9, 10, 11] rfl (by kernel_rfl) (A13 G) (partsM G).length mk_len ⟨none, 0, some 0, 0, 0, [], rfl, by omega, by omega, ⟨by simp [IsL], ⟨by simp [groupsTo, nI, cameK], fun p l hp => by simp [groupsTo, nI, cameK] at hp⟩, fun p q j e => by simp at e, fun p j e => by simp at e, hg, by simp, by simp [Heap.empty], .inl ⟨rfl, rfl, rfl⟩⟩⟩ ?_
  rintro m vs h ⟨a, l, c, k, i, C, rfl, rfl, hi, A⟩
  refine all_rule Try.Yok (loc := Try.Y.loc 13) 100 [1, 4, 9, 10, 11] ?_
  refine Eq.mpr (f13_1 0 none (nums (partsM G)) (partsM G).length ((partsM G).length : Nat) a l c k (i : Nat) h _) ?_
  have hCl := A.n.1
  have hgl : (groupsTo G i).length = nI G i := by simp [groupsTo]
  have hll := isl_len A.o
  refine if_lt_nat (fun hlt => ?_) (fun hge => ?_)
  · have hm : mayG G = true := by
      cases hm : mayG G with
      | true => rfl
      | false => simp [partsM, hm] at hlt
    have hM : partsM G = partsN G := by simp [partsM, hm]
    have hiG : i < G.length := by omega
    obtain ⟨x, hx⟩ : ∃ x, (partsM G)[i]? = some x := ⟨_, List.getElem?_eq_getElem hlt⟩
    have hnx : takeX 1 ((nums (partsM G)).drop (((i : Nat) : Int).toNat * 1)) = some [.i .i64 ((x : Nat) : Int)] := by
      have : (nums (partsM G))[i]? = some (.i .i64 ((x : Nat) : Int)) := by simp [nums, hx]
      simpa using takeX_at this
    rw [hM] at hx
    have hni := nI_le (G := G) i
    have next : ∀ {a' : Option (Nat × Nat)} {l' : Nat} {c' : Option Nat} {k' : Nat} {C' : List V} {h' : Heap}, AllL G h' a' l' c' k' C' (groupsTo G (i + 1)) →
        ∃ m', m' < (partsM G).length - i ∧ A13 G m' [.p (some (0, 0)), .sl a' l' c' k', .ts (nums (partsM G)) (partsM G).length none, .i .i64 ((partsM G).length : Nat), .i .i64 (IntKind.i64.wrap ((i : Nat) + 1))] h' := fun {a' l' c' k' C' h'} A' =>
      ⟨(partsM G).length - (i + 1), by omega, a', l', c', k', i + 1, C', by rw [wrap_succ (by omega)], rfl, by omega, A'⟩
    refine ⟨⟨by omega, by omega⟩, _, hnx, ?_⟩
    rcases partsN_step hiG with ⟨h1, h2⟩ | ⟨⟨p, h1, h2⟩, h3⟩
    · rw [hx] at h1; cases h1
      refine if_mk (fun _ => ?_) (fun hc => ?_)
      · obtain ⟨a', l', c', k', h', q1, A'⟩ := new_step A (by omega)
        refine ⟨a', l', c', k', h', q1, ?_⟩
        have hgp : (groupsTo G i ++ [[]])[nI G i]? = some [] := by rw [List.getElem?_append_right (by omega), hgl]; simp
        refine store_step A' (i := i) hgp (by simp) (fun h'' C'' A'' => ?_)
        rw [← groupsTo_new hiG hx h2] at A''
        exact ⟨rfl, next A''⟩
      · have : ((nI G i : Nat) : Int) ≠ (l : Nat) := by simpa using hc
        omega
    · rw [hx] at h1; cases h1
      refine if_mk (fun hc => ?_) (fun _ => ?_)
      · have : ((x : Nat) : Int) = (l : Nat) := by simpa using hc
        omega
      · have hgp : (groupsTo G i)[x]? = some (groupTo (partsN G) x i) := by simp [groupsTo, h2]
        refine store_step A (i := i) hgp (by have := groupTo_len (partsN G) x i; omega) (fun h'' C'' A'' => ?_)
        rw [← groupsTo_old hx h3] at A''
        exact ⟨rfl, next A''⟩
  · have hie : i = (partsM G).length := by omega
    refine roundW_exit [1, 4] (by kernel_rfl) rfl rfl ?_
    refine end_rule Try.Yok (loc := Try.Y.loc 13) 100 [2] ?_
    refine Eq.mpr (f13_2 0 a l c k h _) ?_
    have fin : ∀ {v : V} {k' : Heap}, v = .ts (rowsV ((loopsN G).map natI)) (loopsN G).length none → ∃ (cs : List V) (l : Nat) (c : Option Nat), v = .ts cs l c ∧ Fin Try.Y Try.f13 [2] (fun v h => ∃ r, Frz h v r ∧ r = .ts (rowsV ((loopsN G).map natI)) (loopsN G).length none) .ret 37 [.ts cs l c] k' := fun {v k'} hv =>
      ⟨_, _, _, hv, finV1 (.inr rfl) rfl (.ts _ _ _ none fun x hx => by cases hx) rfl⟩
    by_cases hz : groupsTo G i = []
    · -- there is none
      rw [hz] at hCl
      have hC0 : C = [] := List.eq_nil_of_length_eq_zero hCl
      subst hC0
      have hlN : loopsN G = [] := by
        cases hm : mayG G with
        | false => simp [loopsN, hm]
        | true =>
          rw [← groups_loops hm]
          have : i = G.length := by rw [hie]; simp [partsM, hm, partsN_length]
          rw [← this, hz]; rfl
      rcases A.cap with ⟨rfl, rfl, rfl⟩ | hne
      · simp at hll; subst hll
        exact del_nil.mono fun v k' hv => fin (by rw [hv, hlN]; rfl)
      · rcases A.o.2 with hx | ⟨id, rfl, rfl, rfl, hid, hget⟩
        · exact absurd hx.1 hne
        · simp at hll; subst hll
          have hd := del_con (G := G) (Z := []) (id0 := id) (id1 := 0) (h := h) hl (by simp) (fun z hz => by cases hz) (fun z hz => by cases hz) hget (fun e => A.a0 (by rw [← e])) A.g
          exact hd.mono fun v k' hv => fin (by rw [hv, hlN]; rfl)
    · have hm : mayG G = true := by
        cases hm : mayG G with
        | true => rfl
        | false => rw [hie] at hz; simp [partsM, hm, groupsTo, nI, cameK] at hz
      have hiG : i = G.length := by rw [hie]; simp [partsM, hm, partsN_length]
      rcases A.o.2 with ⟨_, _, hx⟩ | ⟨id, rfl, rfl, rfl, hid, hget⟩
      · rw [hx] at hCl; exact absurd (List.eq_nil_of_length_eq_zero hCl.symm) hz
      · have hZ1 : (C.zip (groupsTo G i)).map (·.1) = C := List.map_fst_zip (by omega)
        have hZ2 : (C.zip (groupsTo G i)).map (·.2) = groupsTo G i := List.map_snd_zip (by omega)
        have hZl : (C.zip (groupsTo G i)).length = l := by simp; omega
        have hni := nI_le (G := G) i
        have hmem : ∀ z ∈ C.zip (groupsTo G i), ∃ p, p < nI G i ∧ C[p]? = some z.1 ∧ z.2 = groupTo (partsN G) p i := fun z hz => by
          obtain ⟨p, hp⟩ := List.mem_iff_getElem?.1 hz
          rw [List.getElem?_zip_eq_some] at hp
          obtain ⟨p1, p2⟩ := hp
          have hpn : p < nI G i := by rw [← hgl]; exact (List.getElem?_eq_some_iff.1 p2).1
          refine ⟨p, hpn, p1, ?_⟩
          simp [groupsTo, hpn] at p2
          exact p2.symm
        have hok : ZOk h id (C.zip (groupsTo G i)) := fun z hz => by
          obtain ⟨p, hp, hc, he⟩ := hmem z hz
          have hgp : (groupsTo G i)[p]? = some (groupTo (partsN G) p i) := by simp [groupsTo, hp]
          obtain ⟨a1, m1, c1, k1, g1, g2⟩ := A.n.2 p _ hgp
          have hne := group_ne (G := G) (i := i) (p := p) (by omega) hp
          rw [hc] at g1
          have g1 : z.1 = _ := Option.some.inj g1
          rcases g2.2 with ⟨_, _, hx⟩ | ⟨j, rfl, rfl, rfl, hj, hjg⟩
          · exact absurd (by simpa [nums] using hx) hne
          · have hm1 := isl_len g2
            simp [nums] at hm1
            refine ⟨j, ?_, ?_, ?_, ?_⟩
            · rw [he, ← hm1]; exact g1
            · rw [he]; exact hjg
            · have := (A.s p j (by rw [hc, g1]; rfl)).1
              intro e; exact this (by rw [e])
            · rw [he]; exact hne
        have hd := del_con (G := G) (Z := C.zip (groupsTo G i)) (id0 := id) (id1 := 0) (h := h) hl (by omega) hok (fun z hz x hx => by
          obtain ⟨p, hp, hc, he⟩ := hmem z hz
          rw [he] at hx
          have := List.mem_range.1 (List.mem_filter.1 hx).1
          omega) (by rw [hZ1]; exact hget) (fun e => A.a0 (by rw [← e])) A.g
        rw [hZl, hZ2, hiG, groups_loops hm] at hd
        exact hd.mono fun v k' hv => fin hv
end Go.Y

/- The layer's own test runs: its two great calls by their contracts, the rest by running the code. -/
namespace Go.Y
open Go.Proofs Tar
set_option maxRecDepth 100000

def g0G : List (List Int) := [[1], [0, 2], []]
theorem g0may : mayG g0G = true := by decide
theorem g0suc : (sucI g0G 0 = [1] ∧ sucI g0G 1 = [0, 2] ∧ sucI g0G 2 = []) := ⟨rfl, rfl, rfl⟩
theorem g0r2 {x : Nat} (h : Tar.Reach (sucI g0G) 2 x) : x = 2 := h.stay (P := fun u => u = 2) (fun u hu x hx => by subst hu; cases hx) rfl
theorem g0mut : ∀ u v, u < g0G.length → v < g0G.length → (([0, 0, 1] : List Nat).getD u 0 = ([0, 0, 1] : List Nat).getD v 0 ↔ Mut (sucI g0G) u v) := by
  have h01 : Tar.Reach (sucI g0G) 0 1 := .edge (by rw [g0suc.1]; decide)
  have h10 : Tar.Reach (sucI g0G) 1 0 := .edge (by rw [g0suc.2.1]; decide)
  have hn : ∀ x, x ≠ 2 → ¬ Tar.Reach (sucI g0G) 2 x := fun x hx h => hx (g0r2 h)
  intro u v hu hv
  have hu : u < 3 := hu
  have hv : v < 3 := hv
  rcases u with _ | _ | _ | u <;> rcases v with _ | _ | _ | v <;> first | omega | skip
  · exact ⟨fun _ => mut_refl _ _, fun _ => rfl⟩
  · exact ⟨fun _ => ⟨h01, h10⟩, fun _ => rfl⟩
  · exact ⟨fun h => by simp at h, fun h => absurd h.2 (hn 0 (by decide))⟩
  · exact ⟨fun _ => ⟨h10, h01⟩, fun _ => rfl⟩
  · exact ⟨fun _ => mut_refl _ _, fun _ => rfl⟩
  · exact ⟨fun h => by simp at h, fun h => absurd h.2 (hn 1 (by decide))⟩
  · exact ⟨fun h => by simp at h, fun h => absurd h.1 (hn 0 (by decide))⟩
  · exact ⟨fun h => by simp at h, fun h => absurd h.1 (hn 1 (by decide))⟩
  · exact ⟨fun _ => mut_refl _ _, fun _ => rfl⟩
theorem g0parts : partsN g0G = [0, 0, 1] := (parts_of (G := g0G) (part := [0, 0, 1]) rfl g0mut).symm
theorem g0loops : loopsN g0G = [[0, 1]] := by
  unfold loopsN
  rw [if_pos g0may, g0parts]
  decide

def g0A : List V := [.agg [.ts [.ts [.i .i64 1] 1 (some 1), .ts [.i .i64 0, .i .i64 2] 2 (some 2), .sl none 0 (some 0) 0] 3 (some 3)]]
theorem g0wk : WkDs g0A [encG g0G] :=
  .cons _ _ _ _ (.agg _ _ (.cons _ _ _ _ (.ts _ _ _ _ (.cons _ _ _ _ (.ts _ _ _ _ (.cons _ _ _ _ (.same _) .nil)) (.cons _ _ _ _ (.ts _ _ _ _ (.cons _ _ _ _ (.same _) (.cons _ _ _ _ (.same _) .nil))) (.cons _ _ _ _ (.nil _ _) .nil)))) .nil)) .nil
theorem g0P10 : PCon Try.Y 10 g0A (· = .ts [.i .i64 0, .i .i64 0, .i .i64 1] 3 none) := by
  have h := parts_con (G := g0G) (by decide) (by decide)
  have e : encR (partsG g0G) = .ts [.i .i64 0, .i .i64 0, .i .i64 1] 3 none := by
    unfold partsG; rw [if_pos g0may, g0parts]; rfl
  rw [e] at h
  exact h.wkD g0wk
theorem g0P13 : PCon Try.Y 13 g0A (· = .ts [.ts [.i .i64 0, .i .i64 1] 2 none] 1 none) := by
  have h := loops_con (G := g0G) (by decide) (by decide)
  rw [g0loops] at h
  exact h.wkD g0wk
theorem awake6 : PCon Try.Y 6 [] (· = .b true) := callN_ok Try.Yok (knT_ok (.cons _ _ _ _ g0P10 (.cons _ _ _ _ g0P13 .nil)) Try.knok) (n := 200) (by kernel_rfl) rfl
end Go.Y
