/- Automata: all, step. -/
import Derived.Test.YtlnpmefmmiacaaaGreatDoorGN1
import Derived.Test.YtlnpmefmmiacaaaGreatDoorGN3
namespace Go.Y
open Go.Proofs
set_option maxRecDepth 100000
set_option maxHeartbeats 1000000

theorem putS_len (n : Int) : ∀ l : List Int, (putS l n).length ≤ l.length + 1
  | [] => by simp [putS]
  | a :: l => by
    have := putS_len n l
    unfold putS
    split
    · simp; omega
    · split <;> simp
theorem allS_len : ∀ (more l : List Int), (allS l more).length ≤ l.length + more.length
  | [], l => by simp [allS]
  | n :: r, l => by
    have e : allS l (n :: r) = allS (putS l n) r := rfl
    have h1 := allS_len r (putS l n)
    have h2 := putS_len n l
    rw [e]
    simp only [List.length_cons]; omega
theorem allS_snoc (l more : List Int) (x : Int) : allS l (more ++ [x]) = putS (allS l more) x := by
  unfold allS; rw [List.foldl_append]; rfl
theorem allS_app (l more m2 : List Int) : allS l (more ++ m2) = allS (allS l more) m2 := by
  unfold allS; rw [List.foldl_append]

theorem all27 (l more : List Int) (hl : l.length + more.length < 2 ^ 20) : PCon Tryz.Y 27 [lst encI l, lst encI more] (· = lst encI (allS l more)) := by
  refine pcon_of Tryz.Yok (fn := Tryz.f27) (by kernel_rfl) (by kernel_rfl) rfl ?_
  refine pre_rule Tryz.Yok (n := 19) (loc := Tryz.Y.loc 27) 100 [0, 1, 5] (by kernel_rfl) ?_
  refine Eq.mpr (f27_0 (row encI l) l.length (row encI more) more.length .empty _) ?_
  refine ⟨rfl, loop2 [0, 1, 5] [0, 1, 5] rfl (by kernel_rfl) (fun m vs _ => ∃ i : Nat, vs = [lst encI (allS l (more.take i)), lst encI more, .i .i64 (i : Nat)] ∧ i ≤ more.length ∧ m = more.length - i) more.length mk_len ⟨0, rfl, by omega, by omega⟩ ?_⟩
  rintro m vs h ⟨i, rfl, hi, rfl⟩
  refine all_rule Tryz.Yok (loc := Tryz.Y.loc 27) 100 [0, 1, 5] ?_
  refine Eq.mpr (f27_1 (row encI (allS l (more.take i))) (allS l (more.take i)).length (row encI more) more.length (i : Nat) h _) ?_
  refine if_lt_nat (fun hlt => ?_) (fun hge => ?_)
  · have hb : (allS l (more.take i)).length < 2 ^ 20 := by
      have := allS_len (more.take i) l
      rw [List.length_take] at this; omega
    refine ⟨bnd_nat hlt, _, getI more hlt, _, _, _, put41 (allS l (more.take i)) more[i] hb, rfl, more.length - (i + 1), by omega, i + 1, ?_, by omega, rfl⟩
    rw [wrap_succ (by omega), List.take_succ_eq_append_getElem hlt, allS_snoc]
    rfl
  · refine roundW_exit [0] (by kernel_rfl) rfl rfl ?_
    refine end_rule Tryz.Yok (loc := Tryz.Y.loc 27) 100 [4] ?_
    refine Eq.mpr (f27_2 ..) ?_
    rw [List.take_of_length_le hge]
    exact finV1 (.inr rfl) rfl (.ts _ _ _ _ (fun _ h => h)) rfl

/-! ### what may come next -/
structure OkA (a : Au) : Prop where
  may : mayA a = true
  small : smallA a = true
  sets : ∀ x ∈ a.sets, okS x
theorem OkA.fl {a : Au} (h : OkA a) : a.follow.length = a.sets.length := by
  have := h.may
  simp only [mayA, Bool.and_eq_true, decide_eq_true_eq] at this
  exact this.1.1.1.2
theorem OkA.fr {a : Au} (h : OkA a) {l : List Int} (hl : l ∈ a.follow) : ∀ p ∈ l, 0 ≤ p ∧ p < a.sets.length := by
  have := h.may
  simp only [mayA, Bool.and_eq_true, List.all_eq_true] at this
  exact fun p hp => risB_mem (this.2 l hl) hp
theorem OkA.first {a : Au} (h : OkA a) : ∀ p ∈ a.first, 0 ≤ p ∧ p < a.sets.length := by
  have := h.may
  simp only [mayA, Bool.and_eq_true] at this
  exact fun p hp => risB_mem this.1.1.2 hp
theorem OkA.len {a : Au} (h : OkA a) {l : List Int} (hl : l ∈ a.follow) : l.length ≤ 40 := (small_of h.small).2.2.2.2 l hl
theorem OkA.nsets {a : Au} (h : OkA a) : a.sets.length ≤ 40 := (small_of h.small).1
theorem OkA.nfirst {a : Au} (h : OkA a) : a.first.length ≤ 40 := (small_of h.small).2.1
theorem OkA.nlast {a : Au} (h : OkA a) : a.last.length ≤ 40 := (small_of h.small).2.2.1

def inR (a : Au) (p : Int) : Bool := leI 0 p && ltI p a.sets.length
def nextL (a : Au) (c : Nat) (p : Int) : List Int := if inR a p then havL a.sets (a.follow.getD p.toNat []) c else []
def catL (a : Au) (ps : List Int) (c : Nat) : List Int := ps.flatMap (nextL a c)
theorem catL_snoc (a : Au) (ps : List Int) (c : Nat) {i : Nat} (hi : i < ps.length) : catL a (ps.take (i + 1)) c = catL a (ps.take i) c ++ nextL a c ps[i] := by
  rw [List.take_succ_eq_append_getElem hi]; unfold catL; rw [List.flatMap_append]; simp
theorem nextL_len {a : Au} (h : OkA a) (c : Nat) (p : Int) : (nextL a c p).length ≤ 40 := by
  unfold nextL
  split
  · have h1 := havL_len a.sets (a.follow.getD p.toNat []) c
    by_cases hp : p.toNat < a.follow.length
    · have e : a.follow.getD p.toNat [] = a.follow[p.toNat] := by simp [hp]
      rw [e] at h1 ⊢
      exact Nat.le_trans h1 (h.len (List.getElem_mem hp))
    · have e : a.follow.getD p.toNat [] = [] := by simp [Nat.le_of_not_lt hp]
      rw [e]
      have : havL a.sets [] c = [] := rfl
      rw [this]; simp
  · simp
theorem catL_len {a : Au} (h : OkA a) (c : Nat) : ∀ ps : List Int, (catL a ps c).length ≤ 40 * ps.length
  | [] => by simp [catL]
  | p :: ps => by
    have := catL_len h c ps
    have h1 := nextL_len h c p
    unfold catL at this ⊢
    simp only [List.flatMap_cons, List.length_append, List.length_cons]; omega
def stepA (a : Au) (ps : List Int) (c : Nat) : List Int := allS [] (catL a ps c)

theorem rising_len : ∀ {l : List Int} {k n : Int}, Rising l → (∀ x ∈ l, k ≤ x ∧ x < n) → k ≤ n → (l.length : Int) ≤ n - k
  | [], k, n, _, _, h => by simp; omega
  | a :: r, k, n, hr, hb, _ => by
    obtain ⟨h1, h2⟩ := List.pairwise_cons.1 hr
    obtain ⟨b1, b2⟩ := hb a (by simp)
    have := rising_len (k := a + 1) (n := n) h2 (fun x hx => ⟨by have := h1 x hx; omega, (hb x (List.mem_cons_of_mem _ hx)).2⟩) (by omega)
    simp only [List.length_cons]; omega
theorem nextL_mem {a : Au} (h : OkA a) {c : Nat} {p x : Int} (hx : x ∈ nextL a c p) : 0 ≤ x ∧ x < a.sets.length := by
  unfold nextL at hx
  split at hx
  · have hx := (List.mem_filter.1 hx).1
    by_cases hp : p.toNat < a.follow.length
    · have e : a.follow.getD p.toNat [] = a.follow[p.toNat] := by simp [hp]
      rw [e] at hx
      exact h.fr (List.getElem_mem hp) x hx
    · have e : a.follow.getD p.toNat [] = [] := by simp [Nat.le_of_not_lt hp]
      rw [e] at hx; cases hx
  · cases hx
theorem stepA_mem {a : Au} (h : OkA a) {c : Nat} {ps : List Int} {x : Int} (hx : x ∈ stepA a ps c) : 0 ≤ x ∧ x < a.sets.length := by
  unfold stepA at hx
  rcases mem_allS.1 hx with hx | hx
  · cases hx
  · unfold catL at hx
    obtain ⟨p, _, hp⟩ := List.mem_flatMap.1 hx
    exact nextL_mem h hp
theorem stepA_len {a : Au} (h : OkA a) (c : Nat) (ps : List Int) : (stepA a ps c).length ≤ 40 := by
  have := rising_len (l := stepA a ps c) (k := 0) (n := a.sets.length) (allS_rising (by simp [Rising])) (fun x hx => stepA_mem h hx) (by omega)
  have := h.nsets
  omega

theorem step24 (hs : SortSays Tryz.Y.P 36) (hcm : CompactSays Tryz.Y.P 37) {a : Au} (ha : OkA a) (ps : List Int) (c : Nat) (hc : c < 256) (hl : ps.length ≤ 2 ^ 10) : PCon Tryz.Y 24 [.agg (auC a), lst encI ps, .i .u8 (c : Nat)] (· = lst encI (stepA a ps c)) := by
  refine pcon_of Tryz.Yok (fn := Tryz.f24) (by kernel_rfl) (by kernel_rfl) rfl ?_
  refine pre_rule Tryz.Yok (n := 40) (loc := Tryz.Y.loc 24) 100 [2, 3, 7, 10, 11, 12] (by kernel_rfl) ?_
  refine Eq.mpr (f24_0 (row encS4 a.sets) a.sets.length (row encI a.first) a.first.length (row encI a.last) a.last.length (row encL a.follow) a.follow.length a.empty (row encI ps) ps.length (c : Nat) .empty _) ?_
  refine ⟨rfl, loop2 [2, 3, 7, 10, 11, 12] [2, 3, 7, 10, 11, 12] rfl (by kernel_rfl) (fun m vs h => ∃ (i : Nat) (q : Option (Nat × Nat)) (n : Nat) (cp : Option Nat) (kk : Nat), vs = [.i .u8 (c : Nat), .lb (auC a), .sl q n cp kk, lst encI ps, .i .i64 ps.length, .i .i64 (i : Nat)] ∧ i ≤ ps.length ∧ m = ps.length - i ∧ Lst encI 1 h q n cp kk (catL a (ps.take i) c) ∧ (catL a (ps.take i) c = [] → q = none)) ps.length mk_len ⟨0, none, 0, some 0, 0, rfl, by omega, by omega, Lst.nil _ _ _ _ _, fun _ => rfl⟩ ?_⟩
  rintro m vs h ⟨i, q, n, cp, kk, rfl, hi, rfl, hL, hnil⟩
  refine all_rule Tryz.Yok (loc := Tryz.Y.loc 24) 100 [2, 3, 7, 10, 11, 12] ?_
  refine Eq.mpr (f24_1 (row encS4 a.sets) a.sets.length (row encI a.first) a.first.length (row encI a.last) a.last.length (row encL a.follow) a.follow.length a.empty (row encI ps) ps.length (c : Nat) q n cp kk (i : Nat) h _) ?_
  refine if_lt_nat (fun hlt => ?_) (fun hge => ?_)
  · have hsn := catL_snoc a ps c hlt
    have hout : inR a ps[i] = false → nextL a c ps[i] = [] := fun e => by unfold nextL; rw [e]; rfl
    have stay : nextL a c ps[i] = [] → ∃ m', m' < ps.length - i ∧ ∃ (i' : Nat) (q' : Option (Nat × Nat)) (n' : Nat) (cp' : Option Nat) (kk' : Nat), [V.i .u8 (c : Nat), .lb (auC a), .sl q n cp kk, lst encI ps, .i .i64 ps.length, .i .i64 (IntKind.i64.wrap ((i : Nat) + 1))] = [.i .u8 (c : Nat), .lb (auC a), .sl q' n' cp' kk', lst encI ps, .i .i64 ps.length, .i .i64 (i' : Nat)] ∧ i' ≤ ps.length ∧ m' = ps.length - i' ∧ Lst encI 1 h q' n' cp' kk' (catL a (ps.take i') c) ∧ (catL a (ps.take i') c = [] → q' = none) := fun e =>
      ⟨ps.length - (i + 1), by omega, i + 1, q, n, cp, kk, by rw [wrap_succ (by omega)], by omega, rfl, by rw [hsn, e, List.append_nil]; exact hL, by rw [hsn, e, List.append_nil]; exact hnil⟩
    refine ⟨bnd_nat hlt, _, getI ps hlt, if_mk (fun g1 => if_mk (fun g2 => ?_) (fun g2 => ⟨rfl, stay (hout (by unfold inR; rw [g1, g2]; rfl))⟩)) (fun g1 => ⟨rfl, stay (hout (by unfold inR; rw [g1]; rfl))⟩)⟩
    have hin : inR a ps[i] = true := by unfold inR; rw [g1, g2]; rfl
    have g1 : 0 ≤ ps[i] := by simpa [leI] using g1
    have g2 : ps[i] < a.sets.length := by simpa [ltI] using g2
    have hp : ps[i].toNat < a.follow.length := by rw [ha.fl]; omega
    have hD : a.follow.getD ps[i].toNat [] = a.follow[ps[i].toNat] := by simp [hp]
    have hnx : nextL a c ps[i] = havL a.sets a.follow[ps[i].toNat] c := by unfold nextL; rw [hin, if_pos rfl, hD]
    have hmem := List.getElem_mem hp
    have hF := getL a.follow hp
    rw [Int.toNat_natCast] at hF
    have hlen : (catL a (ps.take i) c).length + (havL a.sets a.follow[ps[i].toNat] c).length < 2 ^ 29 := by
      have h1 := catL_len ha c (ps.take i)
      have h2 := havL_len a.sets a.follow[ps[i].toNat] c
      have h3 := ha.len hmem
      rw [List.length_take] at h1; omega
    obtain ⟨a', l', c', k', h', q1, q2, q3⟩ := appLI (havL a.sets a.follow[ps[i].toNat] c) hL hlen
    refine ⟨⟨g1, by rw [ha.fl]; exact g2⟩, _, _, _, hF, _, _, _, having23 a a.follow[ps[i].toNat] c hc (ha.fr hmem) (by have := ha.len hmem; omega), a', l', c', k', h', q1, rfl, ps.length - (i + 1), by omega, i + 1, a', l', c', k', by rw [wrap_succ (by omega)]; rfl, by omega, rfl, by rw [hsn, hnx]; exact q2, ?_⟩
    rw [hsn, hnx]
    exact fun e => by rw [q3 e, hnil (List.append_eq_nil_iff.1 e).1]
  · refine roundW_exit [7] (by kernel_rfl) rfl rfl ?_
    refine end_rule Tryz.Yok (loc := Tryz.Y.loc 24) 100 [6] ?_
    refine Eq.mpr (f24_2 ..) ?_
    rw [List.take_of_length_le hge] at hL hnil
    have hb36 : hasBody Tryz.Y 36 := ⟨Tryz.f36, _, by kernel_rfl, rfl⟩
    have hb37 : hasBody Tryz.Y 37 := ⟨Tryz.f37, _, by kernel_rfl, rfl⟩
    generalize hz : catL a ps c = zs at hL hnil
    have hzl : zs.length ≤ 40 * ps.length := by rw [← hz]; exact catL_len ha c ps
    have hres : stepA a ps c = dedupS (sortZ zs) := by unfold stepA; rw [hz, sortZ_all]
    obtain ⟨⟨cells, hI, hcold, hF⟩, hlen⟩ := hL
    rw [rowI] at hF
    have hcs := frzI hF
    subst hcs
    rcases hI.2 with ⟨rfl, h0, h5⟩ | ⟨id, rfl, rfl, rfl, h5, h6⟩
    · have hz0 : zs = [] := by cases zs with
        | nil => rfl
        | cons z r => simp at h5
      subst hz0 h0
      refine (sort_con0 hb36 hs).mono fun v h' ⟨e1, e2⟩ => ⟨e1, ?_⟩
      refine (compact_con0 hb37 hcm).mono fun v h' ⟨e1, e2⟩ => ⟨_, _, _, _, e1, ?_⟩
      refine finV1 (.inr rfl) rfl (.sln _ _ none (fun _ h => by cases h)) ?_
      rw [hres, show sortZ ([] : List Int) = [] from List.mergeSort_nil]
      rfl
    · have hne : zs ≠ [] := fun e => by have := hnil e; cases this
      subst hlen
      refine (sort_con hb36 hs h6 hne (by omega)).mono fun v h' ⟨e1, e2⟩ => ⟨e1, ?_⟩
      subst e2
      have hg : (h.set id (some (.arr (intsV (sortZ zs)) true))).get id = some (.arr (intsV (sortZ zs)) true) := by rw [Heap.get_set, if_pos rfl]
      have hsl : (sortZ zs).length = zs.length := List.length_mergeSort _
      have hc2 := compact_con hb37 hcm (c := none) (k := 1) hg (fun e => by rw [e] at hsl; exact hne (List.eq_nil_of_length_eq_zero hsl.symm)) (by omega)
      rw [hsl] at hc2
      refine hc2.mono fun v h' ⟨e1, e2⟩ => ⟨_, _, _, _, e1, ?_⟩
      subst e2
      refine finV1 (.inr rfl) rfl (.sl id 0 _ none 1 (intsV (restZ (sortZ zs))) true (intsV (dedupS (sortZ zs))) (intsV (dedupS (sortZ zs))) none (by rw [Heap.get_set, if_pos rfl]) ?_ (fun _ h => by cases h) (by decide) ?_) ?_
      · rw [List.drop_zero, Nat.mul_one]
        have : ∀ (x y : List V), takeX x.length (x ++ y) = some x := by
          intro x
          induction x with
          | nil => intro y; rfl
          | cons v x ih => intro y; simp [takeX, ih]
        have h2 := this (intsV (dedupS (sortZ zs))) (intsV (List.replicate ((sortZ zs).length - (dedupS (sortZ zs)).length) 0))
        rw [List.length_map] at h2
        rw [← h2, intsV, List.map_append]
      · have := rowI_frz (dedupS (sortZ zs)) ((h.set id (some (.arr (intsV (sortZ zs)) true))).set id (some (.arr (intsV (restZ (sortZ zs))) true)))
        rwa [rowI] at this
      · rw [hres]
        simp only [lst, rowI]

theorem step15 {a : Au} (ha : OkA a) (ps : List Int) (c : Nat) (hc : c < 256) (hl : ps.length ≤ 2 ^ 10) : PCon Tryz.Y 15 [.agg (auC a), lst encI ps, .i .u8 (c : Nat)] (· = lst encI (stepA a ps c)) := by
  refine pcon_of Tryz.Yok (fn := Tryz.f15) (by kernel_rfl) (by kernel_rfl) rfl ?_
  refine pre_rule Tryz.Yok (n := 44) (loc := Tryz.Y.loc 15) 100 [1, 2, 3, 5, 7, 8] (by kernel_rfl) ?_
  refine Eq.mpr (f15_0 (row encS4 a.sets) a.sets.length (row encI a.first) a.first.length (row encI a.last) a.last.length (row encL a.follow) a.follow.length a.empty (row encI ps) ps.length (c : Nat) .empty _) ?_
  refine ⟨rfl, loop3 [1, 2, 3, 5, 7, 8] [1, 2, 3, 5, 7, 8] rfl (by kernel_rfl) (fun m vs h => ∃ (i : Nat), vs = [lst encI ps, .i .u8 (c : Nat), .lb (auC a), .undef, lst encI (stepA a (ps.take i) c), .i .i64 (i : Nat)] ∧ i ≤ ps.length ∧ m = ps.length - i) ps.length mk_len ⟨_, .cons _ _ _ _ (.refl _) (.cons _ _ _ _ (.refl _) (.cons _ _ _ _ (.refl _) (.cons _ _ _ _ (.refl _) (.cons _ _ _ _ (.inl (.inr (.inl ⟨_, _, none, rfl, rfl, fun _ h => by cases h⟩))) (.cons _ _ _ _ (.refl _) .nil))))), 0, rfl, by omega, by omega⟩ ?_⟩
  rintro m vs h ⟨i, rfl, hi, rfl⟩
  refine all_rule Tryz.Yok (loc := Tryz.Y.loc 15) 100 [1, 2, 3, 5, 7, 8] ?_
  refine Eq.mpr (f15_1 (row encS4 a.sets) a.sets.length (row encI a.first) a.first.length (row encI a.last) a.last.length (row encL a.follow) a.follow.length a.empty (row encI ps) ps.length (c : Nat) (row encI (stepA a (ps.take i) c)) (stepA a (ps.take i) c).length (i : Nat) h _) ?_
  refine if_lt_nat (fun hlt => ?_) (fun hge => ?_)
  · have hsn : stepA a (ps.take (i + 1)) c = allS (stepA a (ps.take i) c) (nextL a c ps[i]) := by unfold stepA; rw [catL_snoc a ps c hlt, allS_app]
    have stay : inR a ps[i] = false → stepA a (ps.take (i + 1)) c = stepA a (ps.take i) c := fun e => by
      rw [hsn]; unfold nextL; rw [e]; rfl
    have go : ∀ l : List Int, stepA a (ps.take (i + 1)) c = l → ∃ m', m' < ps.length - i ∧ ∃ vs', WkE [lst encI ps, .i .u8 (c : Nat), .lb (auC a), .undef, lst encI l, .i .i64 (IntKind.i64.wrap ((i : Nat) + 1))] vs' ∧ ∃ (i' : Nat), vs' = [lst encI ps, .i .u8 (c : Nat), .lb (auC a), .undef, lst encI (stepA a (ps.take i') c), .i .i64 (i' : Nat)] ∧ i' ≤ ps.length ∧ m' = ps.length - i' := fun l e =>
      ⟨ps.length - (i + 1), by omega, _, .refl _, i + 1, by rw [wrap_succ (by omega), e], by omega, rfl⟩
    refine ⟨bnd_nat hlt, _, getI ps hlt, if_mk (fun g1 => ⟨bnd_nat hlt, _, getI ps hlt, if_mk (fun g2 => ?_) (fun g2 => ⟨rfl, go _ (stay (by unfold inR; rw [g1, g2]; rfl))⟩)⟩) (fun g1 => ⟨rfl, go _ (stay (by unfold inR; rw [g1]; rfl))⟩)⟩
    have hin : inR a ps[i] = true := by unfold inR; rw [g1, g2]; rfl
    have g1 : 0 ≤ ps[i] := by simpa [leI] using g1
    have g2 : ps[i] < a.sets.length := by simpa [ltI] using g2
    have hp : ps[i].toNat < a.follow.length := by rw [ha.fl]; omega
    have hD : a.follow.getD ps[i].toNat [] = a.follow[ps[i].toNat] := by simp [hp]
    have hnx : nextL a c ps[i] = havL a.sets a.follow[ps[i].toNat] c := by unfold nextL; rw [hin, if_pos rfl, hD]
    have hmem := List.getElem_mem hp
    have hF := getL a.follow hp
    rw [Int.toNat_natCast] at hF
    have hlen : (stepA a (ps.take i) c).length + (havL a.sets a.follow[ps[i].toNat] c).length < 2 ^ 20 := by
      have h1 := stepA_len ha c (ps.take i)
      have h2 := havL_len a.sets a.follow[ps[i].toNat] c
      have h3 := ha.len hmem
      omega
    refine ⟨bnd_nat hlt, _, getI ps hlt, ⟨g1, by rw [ha.fl]; exact g2⟩, _, _, _, hF, _, _, _, having14 a ha.sets a.follow[ps[i].toNat] c hc (ha.fr hmem) (by have := ha.len hmem; omega), _, _, _, all27 _ _ hlen, rfl, go _ (by rw [hsn, hnx])⟩
  · refine roundX_exit [7] (by kernel_rfl) rfl rfl ?_
    refine end_rule Tryz.Yok (loc := Tryz.Y.loc 15) 100 [6] ?_
    refine Eq.mpr (f15_2 ..) ?_
    rw [List.take_of_length_le hge]
    exact finV1 (.inr rfl) rfl (.ts _ _ _ _ (fun _ h => h)) rfl
end Go.Y
