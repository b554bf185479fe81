/- The automaton that grows: both, link, cat, by contracts. -/
import Derived.Test.YteennilbmmlikaaGreatDoorEConc
import Derived.Test.YteennilbmmlikaaGreatDoorGRise
import Derived.Test.YteennilbmmlikaaGreatDoorGSortK
import Derived.Test.YteennilbmmlikaaGreatDoorGReC
import Derived.Test.YteennilbmmlikaaGreatDoorYTryzP
import Derived.Test.YteennilbmmlikaaGreatDoorYLoop
namespace Go.Y
open Go.Proofs Go.Sort
set_option maxRecDepth 100000
set_option maxHeartbeats 1000000

theorem ints_len (l : List Nat) : (ints l).length = l.length := by simp [ints]
theorem intsV_frz (l : List Int) (h : Heap) : FrzL h (intsV l) (intsV l) := by
  have := rowI_frz l h
  rwa [rowI] at this

theorem both_con (hs : SortSays Tryz.Y.P 75) (hcm : CompactSays Tryz.Y.P 76) (a b : List Nat) (ha : a.length ≤ 1000) (hb : b.length ≤ 1000) : PCon Tryz.Y 72 [lst encI (ints a), lst encI (ints b)] (· = lst encI (ints (boS a b))) := by
  refine tree_con Tryz.Yok (fn := Tryz.f72) (by kernel_rfl) (by kernel_rfl) rfl (fun K => f72_0 (row encI (ints a)) (ints a).length (row encI (ints b)) (ints b).length .empty K) rfl ?_
  have hb36 : hasBody Tryz.Y 75 := ⟨Tryz.f75, _, by kernel_rfl, rfl⟩
  have hb37 : hasBody Tryz.Y 76 := ⟨Tryz.f76, _, by kernel_rfl, rfl⟩
  have hfl : [ints a, ints b].flatten = ints a ++ ints b := by simp
  have hc := concatH_con [ints a, ints b] (by simp) (by rw [hfl, List.length_append, ints_len, ints_len]; omega) .empty
  rw [hfl] at hc
  have hzl : (ints a ++ ints b).length ≤ 2000 := by rw [List.length_append, ints_len, ints_len]; omega
  have hres : ints (boS a b) = dedupS (sortZ (ints a ++ ints b)) := by rw [ints_bo, sortZ_all]
  rw [hres]
  generalize ints a ++ ints b = zs at hc hzl
  refine (Con.wk (args' := [lst encLs [ints a, ints b]]) (.one _ _ _ _ (.inr (.inr ⟨_, _, _, rfl, rfl⟩)) .nil) hc).mono fun v h' ⟨q, n, c, k, hv, hG⟩ => ⟨q, n, c, k, hv, ?_⟩
  rcases hG with ⟨h0, rfl, rfl⟩ | ⟨id, hpos, rfl, rfl, rfl, rfl, hid, hg⟩
  · have hz0 : zs = [] := List.eq_nil_of_length_eq_zero h0
    subst hz0
    refine (sort_con0 hb36 hs).mono fun v h' ⟨e1, e2⟩ => ⟨e1, ?_⟩
    refine (compact_con0 hb37 hcm).mono fun v h' ⟨e1, e2⟩ => ⟨_, _, _, _, e1, ?_⟩
    refine finV1 (.inr rfl) rfl (.sln _ _ none (fun _ h => by cases h)) ?_
    rw [show sortZ ([] : List Int) = [] from List.mergeSort_nil]
    rfl
  · have hne : zs ≠ [] := fun e => by rw [e] at hpos; exact absurd hpos (by decide)
    rw [Nat.sub_self] at hg
    have hg : h'.get id = some (.arr (intsV zs) true) := by rw [hg]; simp [rowI]
    refine (sort_con hb36 hs hg hne (by omega)).mono fun v h' ⟨e1, e2⟩ => ⟨e1, ?_⟩
    subst e2
    have hg : (h'.set id (some (.arr (intsV (sortZ zs)) true))).get id = some (.arr (intsV (sortZ zs)) true) := by rw [Heap.get_set, if_pos rfl]
    have hsl : (sortZ zs).length = zs.length := List.length_mergeSort _
    have hc2 := compact_con hb37 hcm (c := none) (k := 1) hg (fun e => by rw [e] at hsl; exact hne (List.eq_nil_of_length_eq_zero hsl.symm)) (by omega)
    rw [hsl] at hc2
    refine hc2.mono fun v h' ⟨e1, e2⟩ => ⟨_, _, _, _, e1, ?_⟩
    subst e2
    refine finV1 (.inr rfl) rfl (.sl id 0 _ none 1 (intsV (restZ (sortZ zs))) true (intsV (dedupS (sortZ zs))) (intsV (dedupS (sortZ zs))) none (by rw [Heap.get_set, if_pos rfl]) ?_ (fun _ h => by cases h) (by decide) ?_) ?_
    · rw [List.drop_zero, Nat.mul_one]
      have : ∀ (x y : List V), takeX x.length (x ++ y) = some x := by
        intro x
        induction x with
        | nil => intro y; rfl
        | cons v x ih => intro y; simp [takeX, ih]
      have h2 := this (intsV (dedupS (sortZ zs))) (intsV (List.replicate ((sortZ zs).length - (dedupS (sortZ zs)).length) 0))
      rw [List.length_map] at h2
      rw [← h2, intsV, List.map_append]
    · exact intsV_frz _ _
    · simp only [lst, rowI]

abbrev encLN (l : List Nat) : List V := [lst encI (ints l)]
theorem encLN_len (l : List Nat) : (encLN l).length = 1 := rfl
theorem encLN_cold (l : List Nat) : colds1 (encLN l) = true := rfl
theorem setC_len (s : S4) : (setC s).length = 4 := rfl
theorem setC_cold (s : S4) : colds1 (setC s) = true := rfl

structure MkA (h : Heap) (id : Nat) (A : Au0) : Prop where
  lt : id < h.nx
  ex : ∃ (a1 : Option (Nat × Nat)) (l1 : Nat) (c1 : Option Nat) (k1 : Nat) (a2 : Option (Nat × Nat)) (l2 : Nat) (c2 : Option Nat) (k2 : Nat),
    h.get id = some (.arr [.sl a1 l1 c1 k1, .sl none 0 (some 0) 0, .sl none 0 (some 0) 0, .sl a2 l2 c2 k2, .b false] true) ∧ LX setC 4 h a1 l1 c1 k1 A.sets ∧ LX encLN 1 h a2 l2 c2 k2 A.fol ∧
    (∀ j o, a1 = some (j, o) → j ≠ id) ∧ (∀ j o, a2 = some (j, o) → j ≠ id) ∧ (∀ j o o', a1 = some (j, o) → a2 ≠ some (j, o'))

abbrev partC (p : Part) : List V := [lst encI (ints p.first), lst encI (ints p.last), .b p.empty]

def qOf (h : Heap) (id : Nat) : Nat := match h.get id with
  | some (.arr [_, _, _, .sl (some (q, _)) _ _ _, _] _) => q
  | _ => 0
def setFol (h : Heap) (id : Nat) (fol : List (List Nat)) : Heap := h.set (qOf h id) (some (.arr (row encLN fol) true))
theorem MkA.fols {h : Heap} {id : Nat} {sets : List S4} {fol : List (List Nat)} (hM : MkA h id ⟨sets, fol⟩) (hne : fol ≠ []) :
    ∃ (q l2 : Nat) (c2 : Option Nat), hcells h id 3 1 = some [.sl (some (q, 0)) l2 c2 1] ∧ l2 = fol.length ∧ qOf h id = q ∧ h.get q = some (.arr (row encLN fol) true) := by
  obtain ⟨hl0, a1, l1, c1, k1, a2, l2, c2, k2, hg, hL1, hL2, hn1, hn2, hn3⟩ := hM
  obtain ⟨q, rfl, rfl, hq, hgq, hcq⟩ := hL2.cells hne
  exact ⟨q, l2, c2, (hcells_of hg 3 1).trans rfl, hL2.len, by unfold qOf; rw [hg], hgq⟩
theorem MkA.set {h : Heap} {id : Nat} {sets : List S4} {fol fol' : List (List Nat)} (hM : MkA h id ⟨sets, fol⟩) (hne : fol ≠ []) (hl : fol'.length = fol.length) : MkA (setFol h id fol') id ⟨sets, fol'⟩ := by
  have hne' : fol' ≠ [] := fun e => by rw [e] at hl; exact hne (List.eq_nil_of_length_eq_zero hl.symm)
  obtain ⟨hl0, a1, l1, c1, k1, a2, l2, c2, k2, hg, hL1, hL2, hn1, hn2, hn3⟩ := hM
  obtain ⟨q, rfl, rfl, hq, hgq, hcq⟩ := hL2.cells hne
  have hqq : qOf h id = q := by unfold qOf; rw [hg]
  have hlen2 : l2 = fol.length := hL2.len
  have hqi : q ≠ id := hn2 q 0 rfl
  unfold setFol
  rw [hqq]
  refine ⟨by simpa using hl0, a1, l1, c1, k1, some (q, 0), l2, c2, 1, by rw [Heap.get_set, if_neg (Ne.symm hqi)]; exact hg, ?_, ?_, hn1, hn2, hn3⟩
  · exact hL1.fr (by simp) fun j hj hlt => by
      rw [Heap.get_set, if_neg (fun e => by subst e; exact hn3 j 0 0 hj rfl)]
  · exact ⟨fun e => absurd e hne', fun _ => ⟨q, rfl, rfl, by simpa using hq, by rw [Heap.get_set, if_pos rfl], hcq⟩, by rw [hlen2, hl]⟩

def linkH (h : Heap) (id : Nat) (fol : List (List Nat)) (src to : List Nat) : Nat → Heap
  | 0 => h
  | i + 1 => setFol (linkH h id fol src to i) id (linkF boS fol (src.take (i + 1)) to)

theorem linkF_snoc (fol : List (List Nat)) (src : List Nat) (to : List Nat) {i : Nat} (hi : i < src.length) : linkF boS fol (src.take (i + 1)) to = (linkF boS fol (src.take i) to).set src[i] (boS ((linkF boS fol (src.take i) to).getD src[i] []) to) := by
  rw [List.take_succ_eq_append_getElem hi]
  simp only [linkF, List.foldl_append, List.foldl_cons, List.foldl_nil]

theorem linkH_ok {h : Heap} {id : Nat} {A : Au0} (hA : AuB A) (hM : MkA h id A) {src to : List Nat} (hsr : Rz A.sets.length src) (ht : Rz A.sets.length to) : ∀ i, i ≤ src.length → MkA (linkH h id A.fol src to i) id ⟨A.sets, linkF boS A.fol (src.take i) to⟩
  | 0, _ => hM
  | i + 1, hi => by
    have h1 := linkH_ok hA hM hsr ht i (by omega)
    have b1 := (link_B (n := A.sets.length) ht.2 (src.take i) A.fol hA.fo).1
    have b2 := (link_B (n := A.sets.length) ht.2 (src.take (i + 1)) A.fol hA.fo).1
    have hp : src[i] < A.sets.length := hsr.2 _ (List.getElem_mem (by omega))
    exact h1.set (fun e => by rw [e] at b1; rw [hA.wf] at b1; simp at b1; omega) (by rw [b1, b2])

theorem link_ex (hs : SortSays Tryz.Y.P 75) (hcm : CompactSays Tryz.Y.P 76) {h : Heap} {id : Nat} {A : Au0} (hA : AuB A) (hM : MkA h id A) (hn : A.sets.length ≤ 300) {src to : List Nat} (hsr : Rz A.sets.length src) (ht : Rz A.sets.length to) :
    Con Tryz.Y 119 [.p (some (id, 0)), lst encI (ints src), lst encI (ints to)] h fun v h' => v = .tup [] ∧ h' = linkH h id A.fol src to src.length := by
  refine conz_of Tryz.Yok (fn := Tryz.f119) (by kernel_rfl) (by kernel_rfl) (pre_tree Tryz.Yok 32 (fun K => f119_0 id (row encI (ints src)) (ints src).length (row encI (ints to)) (ints to).length h K) rfl (by kernel_rfl) ?_)
  have hsl := hsr.len
  have htl := ht.len
  refine ⟨rfl, loopE [0, 2, 8, 9, 10] [0, 2, 8, 9, 10] rfl (by kernel_rfl) (fun m vs h1 => ∃ i : Nat, vs = [.p (some (id, 0)), lst encI (ints to), lst encI (ints src), .i .i64 (ints src).length, .i .i64 (i : Nat)] ∧ i ≤ src.length ∧ m = src.length - i ∧ h1 = linkH h id A.fol src to i) src.length mk_len ⟨0, rfl, by omega, by omega, rfl⟩ ?_⟩
  rintro m vs h1 ⟨i, rfl, hi, rfl, hh1⟩
  have hMi := linkH_ok hA hM hsr ht i hi
  rw [← hh1] at hMi
  refine all_tree Tryz.Yok (fun K => f119_1 id (row encI (ints src)) (ints src).length (row encI (ints to)) (ints to).length (i : Nat) h1 K) rfl ?_
  refine if_lt_nat (fun hlt' => ?_) (fun hge => ?_)
  · have hlt : i < src.length := by rw [ints_len] at hlt'; exact hlt'
    have hB := (link_B (n := A.sets.length) ht.2 (src.take i) A.fol hA.fo)
    have hp : src[i] < (linkF boS A.fol (src.take i) to).length := by rw [hB.1, hA.wf]; exact hsr.2 _ (List.getElem_mem hlt)
    have hsn := linkF_snoc A.fol src to hlt
    have hnx : linkH h id A.fol src to (i + 1) = setFol h1 id (linkF boS A.fol (src.take (i + 1)) to) := by rw [linkH, ← hh1]
    rw [hsn] at hnx
    generalize linkF boS A.fol (src.take i) to = fol at hMi hB hp hsn hnx
    have hne : fol ≠ [] := fun e => by rw [e] at hp; exact absurd hp (by simp)
    obtain ⟨q, l2, c2, hcell, hlen2, hqq, hgq⟩ := hMi.fols hne
    have hrz := hB.2 _ (List.getElem_mem hp)
    have hbo := both_con hs hcm fol[src[i]] to (by have := hrz.len; omega) (by omega)
    have hD : fol.getD src[i] [] = fol[src[i]] := by simp [List.getD_eq_getElem?_getD, hp]
    have hidx : (ints src)[i]'(by rw [ints_len]; exact hlt) = (src[i] : Nat) := by simp [ints]
    refine ⟨bnd_nat hlt', ((src[i] : Nat) : Int), ?_, _, _, _, _, hcell, _, _, _, _, hcell, ?_⟩
    · rw [Int.toNat_natCast]
      have := row_get (f := encI) (k := 1) encI_len (l := ints src) (i := i) (by rw [ints_len]; exact hlt)
      rw [this, hidx]
    refine ⟨⟨by omega, by omega⟩, rfl, _, _, _, (hcells_of hgq _ _).trans ?_, _, _, _, hbo, ⟨by omega, by omega⟩, rfl, h1.set q (some (.arr (row encLN (fol.set src[i] (boS fol[src[i]] to))) true)), ?_, ?_⟩
    · rw [Int.toNat_natCast, Nat.zero_add]
      exact row_get (f := encLN) (k := 1) encLN_len hp
    · simp only [hstore, hgq]
      rw [Int.toNat_natCast, if_pos (by rw [row_length encLN_len]; simp; omega)]
      have := row_cell1 (f := encLN) encLN_len fol src[i] (boS fol[src[i]] to) hp
      rw [Nat.zero_add, Nat.mul_one]
      rw [show ([V.ts (row encI (ints (boS fol[src[i]] to))) (ints (boS fol[src[i]] to)).length none] : List V) = encLN (boS fol[src[i]] to) from rfl, this]
    · exact ⟨rfl, src.length - (i + 1), by omega, i + 1, by rw [wrap_succ (by omega)]; rfl, by omega, rfl, by rw [hnx, hD, setFol, hqq]⟩
  · have he : i = src.length := by rw [ints_len] at hge; omega
    rw [he] at hh1
    exact fin_at (.inl rfl) rfl (AfterZ.now ⟨rfl, hh1⟩)

theorem cat_ex (hs : SortSays Tryz.Y.P 75) (hcm : CompactSays Tryz.Y.P 76) {h : Heap} {id : Nat} {A : Au0} (hA : AuB A) (hM : MkA h id A) (hn : A.sets.length ≤ 300) {a b : Part} (ha : PaB A.sets.length a) (hb : PaB A.sets.length b) :
    Con Tryz.Y 73 [.p (some (id, 0)), .agg (partC a), .agg (partC b)] h fun v h' => v = .agg (partC (catP boS A a b).2) ∧ h' = linkH h id A.fol a.last b.first a.last.length := by
  refine conz_of Tryz.Yok (fn := Tryz.f73) (by kernel_rfl) (by kernel_rfl) (end_tree Tryz.Yok (fun K => f73_0 id (row encI (ints a.first)) (ints a.first).length (row encI (ints a.last)) (ints a.last).length a.empty (row encI (ints b.first)) (ints b.first).length (row encI (ints b.last)) (ints b.last).length b.empty h K) rfl ?_)
  refine (link_ex hs hcm hA hM hn ha.la hb.fi).mono fun v h1 ⟨hv, hM1⟩ => ⟨hv, ?_⟩
  have l1 := ha.fi.len; have l2 := ha.la.len; have l3 := hb.fi.len; have l4 := hb.la.len
  have c1 := both_con hs hcm a.first b.first (by omega) (by omega)
  have c2 := both_con hs hcm a.last b.last (by omega) (by omega)
  have fin : ∀ (f l : List Nat) (e : Bool), f = (if a.empty then boS a.first b.first else a.first) → l = (if b.empty then boS a.last b.last else b.last) → e = (a.empty && b.empty) →
      Go.Y.Fin Tryz.Y Tryz.f73 [6] (AfterZ fun v h' => v = .agg (partC (catP boS A a b).2) ∧ h' = linkH h id A.fol a.last b.first a.last.length) .ret 42 [.lb [lst encI (ints f), lst encI (ints l), .b e]] h1 := fun f l e h1 h2 h3 =>
    finC (.inr rfl) rfl (.now ⟨by subst h1 h2 h3; rfl, hM1⟩)
  refine if_mk (fun h1 => if_mk (fun _ => ⟨_, _, _, c1, if_mk (fun h2 => ⟨_, _, _, c2, fin _ _ _ (by rw [h1]; rfl) (by rw [h2]; rfl) (by rw [h1, h2]; rfl)⟩) (fun h2 => fin _ _ _ (by rw [h1]; rfl) (by rw [h2]; rfl) (by rw [h1, h2]; rfl))⟩) (fun h => by rw [h1] at h; cases h)) (fun h1 => if_mk (fun h => by rw [h1] at h; cases h) (fun _ => if_mk (fun h2 => ⟨_, _, _, c2, fin _ _ _ (by rw [h1]; rfl) (by rw [h2]; rfl) (by rw [h1]; rfl)⟩) (fun h2 => fin _ _ _ (by rw [h1]; rfl) (by rw [h2]; rfl) (by rw [h1]; rfl))))

theorem cat_ok {h : Heap} {id : Nat} {A : Au0} (hA : AuB A) (hM : MkA h id A) {a b : Part} (ha : PaB A.sets.length a) (hb : PaB A.sets.length b) : MkA (linkH h id A.fol a.last b.first a.last.length) id (catP boS A a b).1 := by
  have := linkH_ok hA hM ha.la hb.fi a.last.length (Nat.le_refl _)
  rw [List.take_length] at this
  exact this

theorem times_con (k : Int) (s : S4) (kids : List Re) (lo hi n : Int) (h1 : 0 ≤ lo) : PCon Tryz.Y 71 [.agg (encRe (.mk k s kids lo hi n))] (· = .i .i64 (timesF lo hi : Nat)) := by
  rw [encRe_mk]
  refine tree_con Tryz.Yok (fn := Tryz.f71) (by kernel_rfl) (by kernel_rfl) rfl (fun K => f71_0 k s.1 s.2.1 s.2.2.1 s.2.2.2 (row encRe kids) kids.length lo hi n .empty K) rfl ?_
  refine if_le (fun h => finV1 (.inr rfl) rfl (.i _ _) ?_) (fun h => finV1 (.inr rfl) rfl (.i _ _) ?_)
  · unfold timesF; rw [if_pos h, Int.toNat_of_nonneg h]
  · unfold timesF; rw [if_neg (by omega)]
    congr 1
    show (if 1 > lo then 1 else lo) = _
    split <;> omega
end Go.Y

/- The automaton, step by step. Plain. -/
namespace Go.Y
open Gl

theorem fin_choice {α : Type} (P : Nat → α → Prop) (R : Nat → α → α → Prop) (x0 : α) : ∀ (n : Nat), P 0 x0 → (∀ i, i < n → ∀ x, P i x → ∃ y, R i x y ∧ P (i + 1) y) → ∃ H : Nat → α, H 0 = x0 ∧ (∀ i, i ≤ n → P i (H i)) ∧ ∀ i, i < n → R i (H i) (H (i + 1))
  | 0, h0, _ => ⟨fun _ => x0, rfl, fun i hi => by
      have : i = 0 := by omega
      subst this; exact h0, fun i hi => absurd hi (by omega)⟩
  | n + 1, h0, step => by
    obtain ⟨H, e0, hP, hR⟩ := fin_choice P R x0 n h0 fun i hi => step i (by omega)
    obtain ⟨y, hy1, hy2⟩ := step n (by omega) (H n) (hP n (Nat.le_refl _))
    refine ⟨fun i => if i = n + 1 then y else H i, by simp [e0], fun i hi => ?_, fun i hi => ?_⟩
    · by_cases e : i = n + 1
      · subst e; simp only [if_pos]; exact hy2
      · simp only [if_neg e]; exact hP i (by omega)
    · by_cases e : i = n
      · subst e
        simp only [if_neg (show ¬ i = i + 1 by omega), if_pos]; exact hy1
      · simp only [if_neg (show ¬ i = n + 1 by omega), if_neg (show ¬ i + 1 = n + 1 by omega)]
        exact hR i (by omega)

theorem altF_snoc (bo : List Nat → List Nat → List Nat) (x : Re) : ∀ (l : List Re) (A : Au0) (out : Part), partF.altF bo (l ++ [x]) A out =
    ((partF bo x (partF.altF bo l A out).1).1, ⟨bo (partF.altF bo l A out).2.first (partF bo x (partF.altF bo l A out).1).2.first, bo (partF.altF bo l A out).2.last (partF bo x (partF.altF bo l A out).1).2.last, (partF.altF bo l A out).2.empty || (partF bo x (partF.altF bo l A out).1).2.empty⟩)
  | [], A, out => by rw [List.nil_append, partF.altF, partF.altF, partF.altF]
  | r :: l, A, out => by
    rw [List.cons_append, partF.altF, altF_snoc bo x l]
    rw [show partF.altF bo (r :: l) A out = partF.altF bo l (partF bo r A).1 ⟨bo out.first (partF bo r A).2.first, bo out.last (partF bo r A).2.last, out.empty || (partF bo r A).2.empty⟩ from by rw [partF.altF]]
theorem catF_snoc (bo : List Nat → List Nat → List Nat) (x : Re) : ∀ (l : List Re) (A : Au0) (out : Part), partF.catF bo (l ++ [x]) A out =
    catP bo (partF bo x (partF.catF bo l A out).1).1 (partF.catF bo l A out).2 (partF bo x (partF.catF bo l A out).1).2
  | [], A, out => by rw [List.nil_append, partF.catF, partF.catF, partF.catF]
  | r :: l, A, out => by
    rw [List.cons_append, partF.catF, catF_snoc bo x l]
    rw [show partF.catF bo (r :: l) A out = partF.catF bo l (catP bo (partF bo r A).1 out (partF bo r A).2).1 (catP bo (partF bo r A).1 out (partF bo r A).2).2 from by rw [partF.catF]]
def stepR (bo : List Nat → List Nat → List Nat) (g : Au0 → Au0 × Part) (lo hi : Int) (n i : Nat) (s : Au0 × Part) : Au0 × Part :=
  catP bo (if hi < 0 ∧ i + 1 = n then loopP bo (g s.1).1 (g s.1).2 else (g s.1).1) s.2 ⟨(g s.1).2.first, (g s.1).2.last, (g s.1).2.empty || decide (lo ≤ (i : Int))⟩
theorem rep_snoc (bo : List Nat → List Nat → List Nat) (g : Au0 → Au0 × Part) (lo hi : Int) (n : Nat) : ∀ (k i : Nat) (A : Au0) (out : Part), repP bo g lo hi n (k + 1) i A out = stepR bo g lo hi n (i + k) (repP bo g lo hi n k i A out)
  | 0, i, A, out => by rw [repP, repP, repP]; rfl
  | k + 1, i, A, out => by
    have h1 : repP bo g lo hi n (k + 1 + 1) i A out = repP bo g lo hi n (k + 1) (i + 1) (stepR bo g lo hi n i (A, out)).1 (stepR bo g lo hi n i (A, out)).2 := by rw [repP]; rfl
    have h2 : repP bo g lo hi n (k + 1) i A out = repP bo g lo hi n k (i + 1) (stepR bo g lo hi n i (A, out)).1 (stepR bo g lo hi n i (A, out)).2 := by rw [repP]; rfl
    rw [h1, rep_snoc bo g lo hi n k (i + 1), h2, show i + 1 + k = i + (k + 1) by omega]

theorem cnts_take (l : List Re) (i : Nat) : cntRe.cnts (l.take i) ≤ cntRe.cnts l := by
  induction l generalizing i with
  | nil => simp
  | cons r l ih =>
    cases i with
    | zero => rw [List.take_zero, cntRe.cnts]; omega
    | succ i => rw [List.take_succ_cons, cntRe.cnts, cntRe.cnts]; have := ih i; omega
theorem cnts_snoc (x : Re) : ∀ l : List Re, cntRe.cnts (l ++ [x]) = cntRe.cnts l + cntRe x
  | [] => by rw [List.nil_append, cntRe.cnts, cntRe.cnts, cntRe.cnts]; omega
  | r :: l => by rw [List.cons_append, cntRe.cnts, cnts_snoc x l, cntRe.cnts]; omega
theorem wfs_take {B : Nat} : ∀ {l : List Re}, wfRe.wfRes B l → ∀ i, wfRe.wfRes B (l.take i)
  | [], h, i => by simpa using h
  | r :: l, h, 0 => by rw [List.take_zero, wfRe.wfRes]; trivial
  | r :: l, h, i + 1 => by
    rw [wfRe.wfRes] at h
    rw [List.take_succ_cons, wfRe.wfRes]
    exact ⟨h.1, wfs_take h.2 i⟩
theorem wfs_mem {B : Nat} : ∀ {l : List Re}, wfRe.wfRes B l → ∀ x ∈ l, wfRe B x
  | [], _, x, hx => by cases hx
  | r :: l, h, x, hx => by
    rw [wfRe.wfRes] at h
    rcases List.mem_cons.1 hx with rfl | hx
    · exact h.1
    · exact wfs_mem h.2 x hx
end Go.Y

/- What the pieces of functions come to: printed by program. -/
namespace Go.Y
open Go.Proofs
set_option maxRecDepth 100000
set_option maxHeartbeats 0
theorem f74_0 (id : Nat) (k : Int) (s0 : Int) (s1 : Int) (s2 : Int) (s3 : Int) (kc : List V) (kn : Nat) (lo : Int) (hi : Int) (gn : Int) (h : Heap) (K : KT) : (codeP Tryz.Y (Tryz.Y.loc 74) 100 (pre (flat (bodyOf Tryz.f74))) ⟨(V.p (some (id, 0)) :: V.agg [V.i .i64 k, V.i .u64 s0, V.i .u64 s1, V.i .u64 s2, V.i .u64 s3, V.ts kc kn none, V.i .i64 lo, V.i .i64 hi, V.i .i64 gn] :: List.replicate 50 .undef), [], h⟩ (VQ [0, 2, 3, 4, 5, 6, 12, 13] K)) =
  (∃ (n : Int),
  (PCon Tryz.Y (71 : Nat)
 [V.agg
 [V.i IntKind.i64 k, V.i IntKind.u64 s0, V.i IntKind.u64 s1, V.i IntKind.u64 s2, V.i IntKind.u64 s3,
 V.ts kc kn none, V.i IntKind.i64 lo, V.i IntKind.i64 hi, V.i IntKind.i64 gn]]
 fun (v : V) => v = V.i IntKind.i64 n) ∧
 K Out.normal 52
 [V.p (some (id, 0)), V.undef,
 V.lb
 [V.i IntKind.i64 k, V.i IntKind.u64 s0, V.i IntKind.u64 s1, V.i IntKind.u64 s2, V.i IntKind.u64 s3,
 V.ts kc kn none, V.i IntKind.i64 lo, V.i IntKind.i64 hi, V.i IntKind.i64 gn],
 V.lb
 [V.sl none 0 (some 0) 0, V.sl none 0 (some 0) 0,
 V.b false],
 V.lb
 [V.sl none 0 (some 0) 0, V.sl none 0 (some 0) 0,
 V.b true],
 V.i IntKind.i64 n, V.i IntKind.i64 n, V.i IntKind.i64 (0 : Int)]
 h) := by kernel_rfl
theorem f74_1 (id : Nat) (k : Int) (s0 : Int) (s1 : Int) (s2 : Int) (s3 : Int) (kc : List V) (kn : Nat) (lo : Int) (hi : Int) (gn : Int) (x6 : Int) (x12 : Int) (c5_0z5 : Option Nat) (cs5_0z6 : List V) (n5_0z6 : Nat) (c5_1z5 : Option Nat) (cs5_1z6 : List V) (n5_1z6 : Nat) (b5_2z6 : Bool) (x13z6 : Int) (h : Heap) (K : KT) : (codeP Tryz.Y (Tryz.Y.loc 74) 100 ((flat (loopB (post (flat (bodyOf Tryz.f74)))))) ⟨mk 52 (([0, 2, 3, 4, 5, 6, 12, 13] : List Nat).zip [V.p (some (id, 0)), V.undef, V.lb [V.i IntKind.i64 k, V.i IntKind.u64 s0, V.i IntKind.u64 s1, V.i IntKind.u64 s2, V.i IntKind.u64 s3, V.ts kc kn none, V.i IntKind.i64 lo, V.i IntKind.i64 hi, V.i IntKind.i64 gn], V.lb [V.sl none 0 (some 0) 0, V.sl none 0 (some 0) 0, V.b false], V.lb [V.ts cs5_0z6 n5_0z6 c5_0z5, V.ts cs5_1z6 n5_1z6 c5_1z5, V.b b5_2z6], V.i IntKind.i64 x6, V.i IntKind.i64 x12, V.i IntKind.i64 x13z6]), [], h⟩ (VQ [0, 2, 3, 4, 5, 6, 12, 13] K)) =
  (If (ltI x13z6 x12)
  (((0 : Int) ≤ (0 : Int) ∧ (0 : Int) < (↑kn : Int)) ∧
 ∃ (n : Int),
 ∃ (n_1 : Int),
 ∃ (n_2 : Int),
 ∃ (n_3 : Int),
 ∃ (n_4 : Int),
 ∃ (cs : List V),
 ∃ (l : Nat),
 ∃ (c : Option Nat),
 ∃ (n_5 : Int),
 ∃ (n_6 : Int),
 ∃ (n_7 : Int),
 takeX 9 kc =
 some
 [V.i IntKind.i64 n, V.i IntKind.u64 n_1, V.i IntKind.u64 n_2, V.i IntKind.u64 n_3,
 V.i IntKind.u64 n_4, V.ts cs l c, V.i IntKind.i64 n_5, V.i IntKind.i64 n_6,
 V.i IntKind.i64 n_7] ∧
 Con Tryz.Y (32 : Nat)
 [V.p (some (id, 0)),
 V.agg
 [V.i IntKind.i64 n, V.i IntKind.u64 n_1, V.i IntKind.u64 n_2, V.i IntKind.u64 n_3,
 V.i IntKind.u64 n_4, V.ts cs l c, V.i IntKind.i64 n_5, V.i IntKind.i64 n_6,
 V.i IntKind.i64 n_7]]
 h fun (v : V) (h' : Heap) =>
 ∃ (cs : List V),
 ∃ (l : Nat),
 ∃ (c : Option Nat),
 ∃ (cs_1 : List V),
 ∃ (l_1 : Nat),
 ∃ (c_1 : Option Nat),
 ∃ (b : Bool),
 v = V.agg [V.ts cs l c, V.ts cs_1 l_1 c_1, V.b b] ∧
 If (ltI hi (0 : Int))
 (If (x13z6 == IntKind.i64.wrap (x6 - (1 : Int)))
 (Con Tryz.Y (119 : Nat)
 [V.p (some (id, 0)), V.ts cs_1 l_1 c_1, V.ts cs l c] h'
 fun (v : V) (h' : Heap) =>
 v = V.tup [] ∧
 If b
 (Con Tryz.Y (73 : Nat)
 [V.p (some (id, 0)),
 V.agg
 [V.ts cs5_0z6 n5_0z6 c5_0z5, V.ts cs5_1z6 n5_1z6 c5_1z5,
 V.b b5_2z6],
 V.agg [V.ts cs l c, V.ts cs_1 l_1 c_1, V.b true]]
 h' fun (v : V) (h' : Heap) =>
 ∃ (cs : List V),
 ∃ (l : Nat),
 ∃ (c : Option Nat),
 ∃ (cs_2 : List V),
 ∃ (l_2 : Nat),
 ∃ (c_2 : Option Nat),
 ∃ (b : Bool),
 v =
 V.agg
 [V.ts cs l c, V.ts cs_2 l_2 c_2, V.b b] ∧
 K Out.normal 52
 [V.p (some (id, 0)), V.undef,
 V.lb
 [V.i IntKind.i64 k, V.i IntKind.u64 s0,
 V.i IntKind.u64 s1,
 V.i IntKind.u64 s2,
 V.i IntKind.u64 s3, V.ts kc kn none,
 V.i IntKind.i64 lo,
 V.i IntKind.i64 hi,
 V.i IntKind.i64 gn],
 V.lb
 [V.sl none 0
 (some 0) 0,
 V.sl none 0
 (some 0) 0,
 V.b false],
 V.lb
 [V.ts cs l c, V.ts cs_2 l_2 c_2, V.b b],
 V.i IntKind.i64 x6, V.i IntKind.i64 x12,
 V.i IntKind.i64
 (IntKind.i64.wrap (x13z6 + (1 : Int)))]
 h')
 (Con Tryz.Y (73 : Nat)
 [V.p (some (id, 0)),
 V.agg
 [V.ts cs5_0z6 n5_0z6 c5_0z5, V.ts cs5_1z6 n5_1z6 c5_1z5,
 V.b b5_2z6],
 V.agg [V.ts cs l c, V.ts cs_1 l_1 c_1, V.b (leI lo x13z6)]]
 h' fun (v : V) (h' : Heap) =>
 ∃ (cs : List V),
 ∃ (l : Nat),
 ∃ (c : Option Nat),
 ∃ (cs_2 : List V),
 ∃ (l_2 : Nat),
 ∃ (c_2 : Option Nat),
 ∃ (b : Bool),
 v =
 V.agg
 [V.ts cs l c, V.ts cs_2 l_2 c_2, V.b b] ∧
 K Out.normal 52
 [V.p (some (id, 0)), V.undef,
 V.lb
 [V.i IntKind.i64 k, V.i IntKind.u64 s0,
 V.i IntKind.u64 s1,
 V.i IntKind.u64 s2,
 V.i IntKind.u64 s3, V.ts kc kn none,
 V.i IntKind.i64 lo,
 V.i IntKind.i64 hi,
 V.i IntKind.i64 gn],
 V.lb
 [V.sl none 0
 (some 0) 0,
 V.sl none 0
 (some 0) 0,
 V.b false],
 V.lb
 [V.ts cs l c, V.ts cs_2 l_2 c_2, V.b b],
 V.i IntKind.i64 x6, V.i IntKind.i64 x12,
 V.i IntKind.i64
 (IntKind.i64.wrap (x13z6 + (1 : Int)))]
 h'))
 (If b
 (Con Tryz.Y (73 : Nat)
 [V.p (some (id, 0)),
 V.agg
 [V.ts cs5_0z6 n5_0z6 c5_0z5, V.ts cs5_1z6 n5_1z6 c5_1z5,
 V.b b5_2z6],
 V.agg [V.ts cs l c, V.ts cs_1 l_1 c_1, V.b true]]
 h' fun (v : V) (h' : Heap) =>
 ∃ (cs : List V),
 ∃ (l : Nat),
 ∃ (c : Option Nat),
 ∃ (cs_2 : List V),
 ∃ (l_2 : Nat),
 ∃ (c_2 : Option Nat),
 ∃ (b : Bool),
 v = V.agg [V.ts cs l c, V.ts cs_2 l_2 c_2, V.b b] ∧
 K Out.normal 52
 [V.p (some (id, 0)), V.undef,
 V.lb
 [V.i IntKind.i64 k, V.i IntKind.u64 s0,
 V.i IntKind.u64 s1, V.i IntKind.u64 s2,
 V.i IntKind.u64 s3, V.ts kc kn none,
 V.i IntKind.i64 lo, V.i IntKind.i64 hi,
 V.i IntKind.i64 gn],
 V.lb
 [V.sl none 0 (some 0)
 0,
 V.sl none 0 (some 0)
 0,
 V.b false],
 V.lb [V.ts cs l c, V.ts cs_2 l_2 c_2, V.b b],
 V.i IntKind.i64 x6, V.i IntKind.i64 x12,
 V.i IntKind.i64
 (IntKind.i64.wrap (x13z6 + (1 : Int)))]
 h')
 (Con Tryz.Y (73 : Nat)
 [V.p (some (id, 0)),
 V.agg
 [V.ts cs5_0z6 n5_0z6 c5_0z5, V.ts cs5_1z6 n5_1z6 c5_1z5,
 V.b b5_2z6],
 V.agg [V.ts cs l c, V.ts cs_1 l_1 c_1, V.b (leI lo x13z6)]]
 h' fun (v : V) (h' : Heap) =>
 ∃ (cs : List V),
 ∃ (l : Nat),
 ∃ (c : Option Nat),
 ∃ (cs_2 : List V),
 ∃ (l_2 : Nat),
 ∃ (c_2 : Option Nat),
 ∃ (b : Bool),
 v = V.agg [V.ts cs l c, V.ts cs_2 l_2 c_2, V.b b] ∧
 K Out.normal 52
 [V.p (some (id, 0)), V.undef,
 V.lb
 [V.i IntKind.i64 k, V.i IntKind.u64 s0,
 V.i IntKind.u64 s1, V.i IntKind.u64 s2,
 V.i IntKind.u64 s3, V.ts kc kn none,
 V.i IntKind.i64 lo, V.i IntKind.i64 hi,
 V.i IntKind.i64 gn],
 V.lb
 [V.sl none 0 (some 0)
 0,
 V.sl none 0 (some 0)
 0,
 V.b false],
 V.lb [V.ts cs l c, V.ts cs_2 l_2 c_2, V.b b],
 V.i IntKind.i64 x6, V.i IntKind.i64 x12,
 V.i IntKind.i64
 (IntKind.i64.wrap (x13z6 + (1 : Int)))]
 h')))
 (If b
 (Con Tryz.Y (73 : Nat)
 [V.p (some (id, 0)),
 V.agg
 [V.ts cs5_0z6 n5_0z6 c5_0z5, V.ts cs5_1z6 n5_1z6 c5_1z5,
 V.b b5_2z6],
 V.agg [V.ts cs l c, V.ts cs_1 l_1 c_1, V.b true]]
 h' fun (v : V) (h' : Heap) =>
 ∃ (cs : List V),
 ∃ (l : Nat),
 ∃ (c : Option Nat),
 ∃ (cs_2 : List V),
 ∃ (l_2 : Nat),
 ∃ (c_2 : Option Nat),
 ∃ (b : Bool),
 v = V.agg [V.ts cs l c, V.ts cs_2 l_2 c_2, V.b b] ∧
 K Out.normal 52
 [V.p (some (id, 0)), V.undef,
 V.lb
 [V.i IntKind.i64 k, V.i IntKind.u64 s0,
 V.i IntKind.u64 s1, V.i IntKind.u64 s2,
 V.i IntKind.u64 s3, V.ts kc kn none,
 V.i IntKind.i64 lo, V.i IntKind.i64 hi,
 V.i IntKind.i64 gn],
 V.lb
 [V.sl none 0 (some 0)
 0,
 V.sl none 0 (some 0)
 0,
 V.b false],
 V.lb [V.ts cs l c, V.ts cs_2 l_2 c_2, V.b b],
 V.i IntKind.i64 x6, V.i IntKind.i64 x12,
 V.i IntKind.i64
 (IntKind.i64.wrap (x13z6 + (1 : Int)))]
 h')
 (Con Tryz.Y (73 : Nat)
 [V.p (some (id, 0)),
 V.agg
 [V.ts cs5_0z6 n5_0z6 c5_0z5, V.ts cs5_1z6 n5_1z6 c5_1z5,
 V.b b5_2z6],
 V.agg [V.ts cs l c, V.ts cs_1 l_1 c_1, V.b (leI lo x13z6)]]
 h' fun (v : V) (h' : Heap) =>
 ∃ (cs : List V),
 ∃ (l : Nat),
 ∃ (c : Option Nat),
 ∃ (cs_2 : List V),
 ∃ (l_2 : Nat),
 ∃ (c_2 : Option Nat),
 ∃ (b : Bool),
 v = V.agg [V.ts cs l c, V.ts cs_2 l_2 c_2, V.b b] ∧
 K Out.normal 52
 [V.p (some (id, 0)), V.undef,
 V.lb
 [V.i IntKind.i64 k, V.i IntKind.u64 s0,
 V.i IntKind.u64 s1, V.i IntKind.u64 s2,
 V.i IntKind.u64 s3, V.ts kc kn none,
 V.i IntKind.i64 lo, V.i IntKind.i64 hi,
 V.i IntKind.i64 gn],
 V.lb
 [V.sl none 0 (some 0)
 0,
 V.sl none 0 (some 0)
 0,
 V.b false],
 V.lb [V.ts cs l c, V.ts cs_2 l_2 c_2, V.b b],
 V.i IntKind.i64 x6, V.i IntKind.i64 x12,
 V.i IntKind.i64
 (IntKind.i64.wrap (x13z6 + (1 : Int)))]
 h')))
  (K (Out.exit 0) 52
 [V.p (some (id, 0)), V.undef,
 V.lb
 [V.i IntKind.i64 k, V.i IntKind.u64 s0, V.i IntKind.u64 s1, V.i IntKind.u64 s2, V.i IntKind.u64 s3,
 V.ts kc kn none, V.i IntKind.i64 lo, V.i IntKind.i64 hi, V.i IntKind.i64 gn],
 V.lb
 [V.sl none 0 (some 0) 0, V.sl none 0 (some 0) 0,
 V.b false],
 V.lb [V.ts cs5_0z6 n5_0z6 c5_0z5, V.ts cs5_1z6 n5_1z6 c5_1z5, V.b b5_2z6], V.i IntKind.i64 x6,
 V.i IntKind.i64 x12, V.i IntKind.i64 x13z6]
 h)) := by kernel_rfl
theorem f74_2 (c5_0z5 : Option Nat) (cs5_0z6 : List V) (n5_0z6 : Nat) (c5_1z5 : Option Nat) (cs5_1z6 : List V) (n5_1z6 : Nat) (b4_2 : Bool) (b5_2z7 : Bool) (h : Heap) (K : KT) : (codeP Tryz.Y (Tryz.Y.loc 74) 100 (((post (flat (bodyOf Tryz.f74))).drop 1)) ⟨mk 52 (([4, 5] : List Nat).zip [V.lb [V.sl none 0 (some 0) 0, V.sl none 0 (some 0) 0, V.b b4_2], V.lb [V.ts cs5_0z6 n5_0z6 c5_0z5, V.ts cs5_1z6 n5_1z6 c5_1z5, V.b b5_2z7]]), [], h⟩ (VQ [4] K)) =
  (K Out.ret 52 [V.lb [V.ts cs5_0z6 n5_0z6 c5_0z5, V.ts cs5_1z6 n5_1z6 c5_1z5, V.b b5_2z7]] h) := by kernel_rfl
theorem f117_0 (c : List V) (n : Nat) (h : Heap) (K : KT) : (codeP Tryz.Y (Tryz.Y.loc 117) 100 (pre (flat (bodyOf Tryz.f117))) ⟨(V.ts c n none :: V.fn (.func 30) [] [] :: List.replicate 17 .undef), [], h⟩ (VQ [0, 1, 7, 8] K)) =
  (K Out.normal 19
  [V.ts c n none, V.fn (Fn.func 30) [] [], V.i IntKind.i64 (↑n : Int), V.i IntKind.i64 (0 : Int)] h) := by kernel_rfl
theorem f117_1 (c : List V) (n : Nat) (x8 : Int) (h : Heap) (K : KT) : (codeP Tryz.Y (Tryz.Y.loc 117) 100 ((flat (loopB (post (flat (bodyOf Tryz.f117)))))) ⟨mk 19 (([0, 1, 7, 8] : List Nat).zip [V.ts c n none, V.fn (Fn.func 30) [] [], V.i IntKind.i64 (↑n : Int), V.i IntKind.i64 x8]), [], h⟩ (VQ [0, 1, 4, 7, 8] K)) =
  (If (ltI x8 (↑n : Int))
  (((0 : Int) ≤ x8 ∧ x8 < (↑n : Int)) ∧
 ∃ (n_1 : Int),
 ∃ (n_2 : Int),
 ∃ (n_3 : Int),
 ∃ (n_4 : Int),
 ∃ (n_5 : Int),
 ∃ (cs : List V),
 ∃ (l : Nat),
 ∃ (c_1 : Option Nat),
 ∃ (n_6 : Int),
 ∃ (n_7 : Int),
 ∃ (n_8 : Int),
 takeX 9 (List.drop (x8.toNat * (9 : Nat)) c) =
 some
 [V.i IntKind.i64 n_1, V.i IntKind.u64 n_2, V.i IntKind.u64 n_3, V.i IntKind.u64 n_4,
 V.i IntKind.u64 n_5, V.ts cs l c_1, V.i IntKind.i64 n_6, V.i IntKind.i64 n_7,
 V.i IntKind.i64 n_8] ∧
 ∃ (b : Bool),
 (PCon Tryz.Y 30
 [V.agg
 [V.i IntKind.i64 n_1, V.i IntKind.u64 n_2, V.i IntKind.u64 n_3,
 V.i IntKind.u64 n_4, V.i IntKind.u64 n_5, V.ts cs l c_1, V.i IntKind.i64 n_6,
 V.i IntKind.i64 n_7, V.i IntKind.i64 n_8]]
 fun (v : V) => v = V.b b) ∧
 If b
 (K Out.ret 19
 [V.ts c n none, V.fn (Fn.func 30) [] [], V.i IntKind.i64 x8,
 V.i IntKind.i64 (↑n : Int), V.i IntKind.i64 x8]
 h)
 (K Out.normal 19
 [V.ts c n none, V.fn (Fn.func 30) [] [], V.undef,
 V.i IntKind.i64 (↑n : Int), V.i IntKind.i64 (IntKind.i64.wrap (x8 + (1 : Int)))]
 h))
  (K (Out.exit 0) 19
 [V.ts c n none, V.fn (Fn.func 30) [] [], V.undef, V.i IntKind.i64 (↑n : Int), V.i IntKind.i64 x8] h)) := by kernel_rfl
theorem f117_2  (h : Heap) (K : KT) : (codeP Tryz.Y (Tryz.Y.loc 117) 100 (((post (flat (bodyOf Tryz.f117))).drop 1)) ⟨mk 19 (([] : List Nat).zip []), [], h⟩ (VQ [4] K)) =
  (K Out.ret 19 [V.i IntKind.i64 (-1 : Int)] h) := by kernel_rfl
theorem f70_0 (c : List V) (n : Nat) (h : Heap) (K : KT) : (codeP Tryz.Y (Tryz.Y.loc 70) 100 ((flat (bodyOf Tryz.f70))) ⟨(V.ts c n none :: V.fn (.func 30) [] [] :: List.replicate 7 .undef), [], h⟩ (VQ [4] K)) =
  (Con Tryz.Y (117 : Nat) [V.ts c n none, V.fn (Fn.func 30) [] []] h fun (v : V) (h' : Heap) =>
  ∃ (n : Int), v = V.i IntKind.i64 n ∧ K Out.ret 9 [V.b (leI (0 : Int) n)] h') := by kernel_rfl
theorem f33_0 (cs0 : List V) (n0 : Nat) (h : Heap) (K : KT) : (codeP Tryz.Y (Tryz.Y.loc 33) 100 ((flat (bodyOf Tryz.f33))) ⟨(V.ts cs0 n0 none :: List.replicate 7 .undef), [], h⟩ (VQ [2] K)) =
  ((n0 = 0 → K Out.ret 8 [V.sl none 0 (some 0) 0] h) ∧
  ((∃ (a : Option (Nat × Nat)),
 ∃ (l : Nat),
 ∃ (c : Option Nat),
 ∃ (k : Nat),
 ∃ (h_1 : Heap),
 appendH Tryz.Y h 32 32 (V.ts [] 0 (some 0)) (V.ts cs0 n0 none) =
 some (V.sl a l c k, h_1) ∧
 K Out.ret 8 [V.sl a l c k] h_1) ∨
 appendH Tryz.Y h 32 32 (V.ts [] 0 (some 0)) (V.ts cs0 n0 none) =
 some (V.ts [] 0 (some 0), h) ∧
 K Out.ret 8 [V.ts [] 0 (some 0)] h)) := by kernel_rfl
end Go.Y
