/- Automata: ends, May. -/
import Derived.Test.YtlnpmefmmiacaaaGreatDoorGN4
import Derived.Test.YtlnpmefmmiacaaaGreatDoorNT3
namespace Go.Y
open Go.Proofs
set_option maxRecDepth 100000
set_option maxHeartbeats 1000000

def hasI (l : List Int) (x : Int) : Bool := l.any fun y => x == y
def endsA (a : Au) (ps : List Int) : Bool := ps.any fun p => hasI a.last p
def idxI (l : List Int) (x : Int) : Int := if hasI l x then (l.findIdx (fun y => x == y) : Nat) else -1
theorem idxI_ok (l : List Int) (x : Int) : leI 0 (idxI l x) = hasI l x := by
  unfold idxI
  by_cases h : hasI l x = true
  · rw [if_pos h, h]; simp [leI]
  · have h : hasI l x = false := by simpa using h
    rw [h]; rfl

theorem index53 (l : List Int) (x : Int) (hl : l.length < 2 ^ 20) : PCon Tryz.Y 53 [lst encI l, .i .i64 x] (· = .i .i64 (idxI l x)) := by
  refine pcon_of Tryz.Yok (fn := Tryz.f53) (by kernel_rfl) (by kernel_rfl) rfl ?_
  refine pre_rule Tryz.Yok (n := 19) (loc := Tryz.Y.loc 53) 100 [0, 1, 7, 8] (by kernel_rfl) ?_
  refine Eq.mpr (f53_0 (row encI l) l.length x .empty _) ?_
  refine ⟨rfl, loop2 [0, 1, 7, 8] [0, 1, 4, 7, 8] rfl (by kernel_rfl) (fun m vs _ => ∃ i : Nat, vs = [lst encI l, .i .i64 x, .i .i64 l.length, .i .i64 (i : Nat)] ∧ i ≤ l.length ∧ hasI (l.take i) x = false ∧ m = l.length - i) l.length mk_len ⟨0, rfl, by omega, by simp [hasI], by omega⟩ ?_⟩
  rintro m vs h ⟨i, rfl, hi, hno, rfl⟩
  refine all_rule Tryz.Yok (loc := Tryz.Y.loc 53) 100 [0, 1, 4, 7, 8] ?_
  refine Eq.mpr (f53_1 (row encI l) l.length x (i : Nat) h _) ?_
  refine if_lt_nat (fun hlt => ?_) (fun hge => ?_)
  · refine ⟨bnd_nat hlt, _, getI l hlt, if_mk (fun hc => ?_) (fun hc => ?_)⟩
    · refine fin_at (.inr rfl) rfl ⟨_, .i _ _, ?_⟩
      have h1 : hasI l x = true := List.any_eq_true.2 ⟨l[i], List.getElem_mem hlt, hc⟩
      have h2 : l.findIdx (fun y => x == y) = i := (List.findIdx_eq hlt).2 ⟨hc, fun j hj => by
        have := List.any_eq_false.1 hno l[j] (List.mem_take_iff_getElem.2 ⟨j, by omega, rfl⟩)
        simpa using this⟩
      unfold idxI
      rw [if_pos h1, h2]
    · refine ⟨rfl, l.length - (i + 1), by omega, i + 1, by rw [wrap_succ (by omega)]; rfl, by omega, ?_, rfl⟩
      unfold hasI at hno ⊢
      rw [List.take_succ_eq_append_getElem hlt, List.any_append, hno]; simp only [List.any_cons, List.any_nil, hc, Bool.or_false]
  · refine roundW_exit [] (by kernel_rfl) rfl rfl ?_
    refine end_rule Tryz.Yok (loc := Tryz.Y.loc 53) 100 [4] ?_
    refine Eq.mpr (f53_2 h _) ?_
    rw [List.take_of_length_le hge] at hno
    exact finV1 (.inr rfl) rfl (.i _ _) (by unfold idxI; rw [hno]; rfl)

theorem contains40 (l : List Int) (x : Int) (hl : l.length < 2 ^ 20) : PCon Tryz.Y 40 [lst encI l, .i .i64 x] (· = .b (hasI l x)) :=
  tree_con Tryz.Yok (fn := Tryz.f40) (by kernel_rfl) (by kernel_rfl) rfl (fun K => f40_0 (row encI l) l.length x .empty K) rfl ⟨_, index53 l x hl, finV1 (.inr rfl) rfl (.b _) (by rw [idxI_ok])⟩

/-! ### ends -/
theorem close39 {a : Au} (hl : a.last.length ≤ 40) (x : Int) {h : Heap} {id : Nat} (hg : h.get id = some (.arr (auC a) true)) : Con Tryz.Y 39 [.i .i64 x, .p (some (id, 0))] h fun v h' => v = .b (hasI a.last x) ∧ h' = h := by
  refine conz_of Tryz.Yok (fn := Tryz.f39) (by kernel_rfl) (by kernel_rfl) (end_rule Tryz.Yok (loc := Tryz.Y.loc 39) 100 [3] ?_)
  refine Eq.mpr (f39_0 x id h _) ?_
  exact ⟨_, _, _, by rw [hcells_of hg]; rfl, _, contains40 a.last x (by omega), finC (.inr rfl) rfl (.now ⟨rfl, rfl⟩)⟩
theorem rcon39 {a : Au} (hl : a.last.length ≤ 40) (x : Int) {h : Heap} {id : Nat} (hg : h.get id = some (.arr (auC a) true)) : RCon Tryz.Y 39 [.i .i64 x, .p (some (id, 0))] h (.b (hasI a.last x)) :=
  ⟨h, close39 hl x hg, fun _ _ => rfl, fun _ hp => hp⟩

theorem index52 {a : Au} (ha : a.last.length ≤ 40) (l : List Int) {h : Heap} {id : Nat} (hg : h.get id = some (.arr (auC a) true)) (hl : l.length ≤ 2 ^ 10) :
    Con Tryz.Y 52 [lst encI l, .fn (.func 39) [] [.p (some (id, 0))]] h fun v h' => ∃ n : Int, v = .i .i64 n ∧ leI 0 n = endsA a l ∧ h' = h := by
  refine conz_of Tryz.Yok (fn := Tryz.f52) (by kernel_rfl) (by kernel_rfl) ?_
  refine pre_rule Tryz.Yok (n := 19) (loc := Tryz.Y.loc 52) 100 [0, 1, 7, 8] (by kernel_rfl) ?_
  refine Eq.mpr (f52_0 (row encI l) l.length id h _) ?_
  refine ⟨rfl, loop2 [0, 1, 7, 8] [0, 1, 4, 7, 8] rfl (by kernel_rfl) (fun m vs h' => ∃ i : Nat, vs = [lst encI l, .fn (.func 39) [] [.p (some (id, 0))], .i .i64 l.length, .i .i64 (i : Nat)] ∧ i ≤ l.length ∧ endsA a (l.take i) = false ∧ m = l.length - i ∧ h' = h) l.length mk_len ⟨0, rfl, by omega, by simp [endsA], by omega, rfl⟩ ?_⟩
  rintro m vs h' ⟨i, rfl, hi, hno, rfl, rfl⟩
  refine all_rule Tryz.Yok (loc := Tryz.Y.loc 52) 100 [0, 1, 4, 7, 8] ?_
  refine Eq.mpr (f52_1 (row encI l) l.length id (i : Nat) h' _) ?_
  refine if_lt_nat (fun hlt => ?_) (fun hge => ?_)
  · refine ⟨bnd_nat hlt, _, getI l hlt, _, rcon39 ha l[i] hg, if_mk (fun hc => ?_) (fun hc => ?_)⟩
    · refine fin_at (.inr rfl) rfl (.now ⟨(i : Nat), rfl, ?_, rfl⟩)
      have : endsA a l = true := List.any_eq_true.2 ⟨l[i], List.getElem_mem hlt, hc⟩
      rw [this]; simp [leI]
    · refine ⟨rfl, l.length - (i + 1), by omega, i + 1, ?_, by omega, ?_, rfl, rfl⟩
      · rw [wrap_succ (by omega)]; rfl
      · unfold endsA at hno ⊢
        rw [List.take_succ_eq_append_getElem hlt, List.any_append, hno]; simp only [List.any_cons, List.any_nil, hc, Bool.or_false]
  · refine roundW_exit [] (by kernel_rfl) rfl rfl ?_
    refine end_rule Tryz.Yok (loc := Tryz.Y.loc 52) 100 [4] ?_
    refine Eq.mpr (f52_2 h' _) ?_
    rw [List.take_of_length_le hge] at hno
    exact finC (.inr rfl) rfl (.now ⟨-1, rfl, by rw [hno]; rfl, rfl⟩)
theorem contains38 {a : Au} (ha : a.last.length ≤ 40) (l : List Int) {h : Heap} {id : Nat} (hg : h.get id = some (.arr (auC a) true)) (hl : l.length ≤ 2 ^ 10) :
    Con Tryz.Y 38 [lst encI l, .fn (.func 39) [] [.p (some (id, 0))]] h fun v h' => v = .b (endsA a l) ∧ h' = h := by
  refine conz_of Tryz.Yok (fn := Tryz.f38) (by kernel_rfl) (by kernel_rfl) (end_rule Tryz.Yok (loc := Tryz.Y.loc 38) 100 [4] ?_)
  refine Eq.mpr (f38_0 (row encI l) l.length id h _) ?_
  refine (index52 ha l hg hl).mono fun v h' ⟨n, e1, e2, e3⟩ => ⟨n, e1, ?_⟩
  subst e3
  rw [e2]
  exact finC (.inr rfl) rfl (.now ⟨rfl, rfl⟩)
theorem ends25 {a : Au} (ha : a.last.length ≤ 40) (ps : List Int) (hl : ps.length ≤ 2 ^ 10) : PCon Tryz.Y 25 [.agg (auC a), lst encI ps] (· = .b (endsA a ps)) := by
  refine tree_con Tryz.Yok (fn := Tryz.f25) (by kernel_rfl) (by kernel_rfl) rfl (fun K => f25_0 (row encS4 a.sets) a.sets.length (row encI a.first) a.first.length (row encI a.last) a.last.length (row encL a.follow) a.follow.length a.empty (row encI ps) ps.length .empty K) rfl ?_
  refine (contains38 ha ps (by simp) hl).mono fun v h' ⟨e1, e2⟩ => ⟨_, e1, finV1 (.inr rfl) rfl (.b _) rfl⟩

theorem rends16 {a : Au} (ha : a.last.length ≤ 40) (ps : List Int) (hl : ps.length ≤ 2 ^ 10) : PCon Tryz.Y 16 [.agg (auC a), lst encI ps] (· = .b (endsA a ps)) := by
  refine pcon_of Tryz.Yok (fn := Tryz.f16) (by kernel_rfl) (by kernel_rfl) rfl ?_
  refine pre_rule Tryz.Yok (n := 30) (loc := Tryz.Y.loc 16) 100 [1, 2, 5] (by kernel_rfl) ?_
  refine Eq.mpr (f16_0 (row encS4 a.sets) a.sets.length (row encI a.first) a.first.length (row encI a.last) a.last.length (row encL a.follow) a.follow.length a.empty (row encI ps) ps.length .empty _) ?_
  refine ⟨rfl, loop2 [1, 2, 5] [1, 2, 4, 5] rfl (by kernel_rfl) (fun m vs _ => ∃ i : Nat, vs = [lst encI ps, .lb (auC a), .i .i64 (i : Nat)] ∧ i ≤ ps.length ∧ endsA a (ps.take i) = false ∧ m = ps.length - i) ps.length mk_len ⟨0, rfl, by omega, by simp [endsA], by omega⟩ ?_⟩
  rintro m vs h ⟨i, rfl, hi, hno, rfl⟩
  refine pre_rule Tryz.Yok (n := 30) (loc := Tryz.Y.loc 16) 100 [1, 2, 5] (by kernel_rfl) ?_
  refine Eq.mpr (f16_1 (row encS4 a.sets) a.sets.length (row encI a.first) a.first.length (row encI a.last) a.last.length (row encL a.follow) a.follow.length a.empty (row encI ps) ps.length (i : Nat) h _) ?_
  refine if_lt_nat (fun hlt => ?_) (fun hge => ?_)
  · refine ⟨rfl, block2 (n := 30) [1, 2, 4, 5, 6] (by kernel_rfl) ?_⟩
    refine pre_rule Tryz.Yok (n := 30) (loc := Tryz.Y.loc 16) 100 [1, 2, 5, 6] (by kernel_rfl) ?_
    refine Eq.mpr (f16_2 (row encS4 a.sets) a.sets.length (row encI a.first) a.first.length (row encI a.last) a.last.length (row encL a.follow) a.follow.length a.empty (row encI ps) ps.length (i : Nat) h _) ?_
    refine ⟨rfl, loopE [1, 2, 5, 6] [1, 2, 4, 5, 6] rfl (by kernel_rfl) (fun m vs _ => ∃ j : Nat, vs = [lst encI ps, .lb (auC a), .i .i64 (i : Nat), .i .i64 (j : Nat)] ∧ j ≤ a.last.length ∧ hasI (a.last.take j) ps[i] = false ∧ m = a.last.length - j) a.last.length mk_len ⟨0, rfl, by omega, by simp [hasI], by omega⟩ ?_⟩
    rintro m vs h2 ⟨j, rfl, hj, hq, rfl⟩
    refine all_rule Tryz.Yok (loc := Tryz.Y.loc 16) 100 [1, 2, 4, 5, 6] ?_
    refine Eq.mpr (f16_3 (row encS4 a.sets) a.sets.length (row encI a.first) a.first.length (row encI a.last) a.last.length (row encL a.follow) a.follow.length a.empty (row encI ps) ps.length (i : Nat) (j : Nat) h2 _) ?_
    refine if_lt_nat (fun hjl => ?_) (fun hjg => ?_)
    · refine ⟨bnd_nat hlt, _, getI ps hlt, bnd_nat hjl, _, getI a.last hjl, if_mk (fun hc => ?_) (fun hc => ?_)⟩
      · refine at_pick rfl (at_pick rfl (fin_at (.inr rfl) rfl ⟨_, .b _, ?_⟩))
        have : endsA a ps = true := List.any_eq_true.2 ⟨ps[i], List.getElem_mem hlt, List.any_eq_true.2 ⟨a.last[j], List.getElem_mem hjl, hc⟩⟩
        rw [this]
      · refine ⟨rfl, a.last.length - (j + 1), by omega, j + 1, by rw [wrap_succ (by omega)]; rfl, by omega, ?_, rfl⟩
        unfold hasI at hq ⊢
        rw [List.take_succ_eq_append_getElem hjl, List.any_append, hq]; simp only [List.any_cons, List.any_nil, hc, Bool.or_false]
    · simp only [RoundE]
      rw [if_pos (by kernel_rfl)]
      refine at_pick rfl ?_
      refine ⟨rfl, [1, 2, 5], rfl, ?_⟩
      rw [List.take_of_length_le hjg] at hq
      refine all_two Tryz.Yok (loc := Tryz.Y.loc 16) 100 [1, 2, 5] ?_
      refine Eq.mpr (f16_4 (row encS4 a.sets) a.sets.length (row encI a.first) a.first.length (row encI a.last) a.last.length (row encL a.follow) a.follow.length a.empty (row encI ps) ps.length (i : Nat) h2 _) ?_
      rw [wrap_succ (by omega)]
      refine fun vs2 ht => roundW_normal ht rfl rfl rfl (ps.length - (i + 1)) (by omega) ⟨i + 1, rfl, by omega, ?_, rfl⟩
      unfold endsA at hno ⊢
      rw [List.take_succ_eq_append_getElem hlt, List.any_append, hno]; simp only [List.any_cons, List.any_nil, hq, Bool.or_false]
  · refine at_two fun vs2 ht => roundW_exit2 [] ht (by kernel_rfl) rfl rfl rfl ?_
    refine end_rule Tryz.Yok (loc := Tryz.Y.loc 16) 100 [4] ?_
    refine Eq.mpr (f16_5 _ _) ?_
    rw [List.take_of_length_le hge] at hno
    exact finV1 (.inr rfl) rfl (.b _) (by rw [hno])

/-! ### May -/
abbrev nC (n : Int) : List V := [.i .i64 n]
theorem close22 (l : List Int) (hl : l.length ≤ 40) (n : Int) {h : Heap} {id : Nat} (hg : h.get id = some (.arr (nC n) true)) : Con Tryz.Y 22 [lst encI l, .p (some (id, 0))] h fun v h' => v = .b (!risB l n) ∧ h' = h := by
  refine conz_of Tryz.Yok (fn := Tryz.f22) (by kernel_rfl) (by kernel_rfl) (end_rule Tryz.Yok (loc := Tryz.Y.loc 22) 100 [3] ?_)
  refine Eq.mpr (f22_0 (row encI l) l.length id h _) ?_
  exact ⟨n, by rw [hcells_of hg]; rfl, _, ris20 l n (by omega), finC (.inr rfl) rfl (.now ⟨rfl, rfl⟩)⟩
theorem rcon22 (l : List Int) (hl : l.length ≤ 40) (n : Int) {h : Heap} {id : Nat} (hg : h.get id = some (.arr (nC n) true)) : RCon Tryz.Y 22 [lst encI l, .p (some (id, 0))] h (.b (!risB l n)) :=
  ⟨h, close22 l hl n hg, fun _ _ => rfl, fun _ hp => hp⟩

theorem index35 (ls : List (List Int)) (hls : ∀ l ∈ ls, l.length ≤ 40) (k : Int) {h : Heap} {id : Nat} (hg : h.get id = some (.arr (nC k) true)) (hl : ls.length ≤ 40) :
    Con Tryz.Y 35 [lst encL ls, .fn (.func 22) [] [.p (some (id, 0))]] h fun v h' => ∃ n : Int, v = .i .i64 n ∧ leI 0 n = (ls.any fun l => !risB l k) ∧ h' = h := by
  refine conz_of Tryz.Yok (fn := Tryz.f35) (by kernel_rfl) (by kernel_rfl) ?_
  refine pre_rule Tryz.Yok (n := 19) (loc := Tryz.Y.loc 35) 100 [0, 1, 7, 8] (by kernel_rfl) ?_
  refine Eq.mpr (f35_0 (row encL ls) ls.length id h _) ?_
  refine ⟨rfl, loop2 [0, 1, 7, 8] [0, 1, 4, 7, 8] rfl (by kernel_rfl) (fun m vs h' => ∃ i : Nat, vs = [lst encL ls, .fn (.func 22) [] [.p (some (id, 0))], .i .i64 ls.length, .i .i64 (i : Nat)] ∧ i ≤ ls.length ∧ ((ls.take i).any fun l => !risB l k) = false ∧ m = ls.length - i ∧ h' = h) ls.length mk_len ⟨0, rfl, by omega, by simp, by omega, rfl⟩ ?_⟩
  rintro m vs h' ⟨i, rfl, hi, hno, rfl, rfl⟩
  refine all_rule Tryz.Yok (loc := Tryz.Y.loc 35) 100 [0, 1, 4, 7, 8] ?_
  refine Eq.mpr (f35_1 (row encL ls) ls.length id (i : Nat) h' _) ?_
  refine if_lt_nat (fun hlt => ?_) (fun hge => ?_)
  · refine ⟨bnd_nat hlt, _, _, _, getL ls hlt, _, rcon22 ls[i] (hls _ (List.getElem_mem hlt)) k hg, if_mk (fun hc => ?_) (fun hc => ?_)⟩
    · refine fin_at (.inr rfl) rfl (.now ⟨(i : Nat), rfl, ?_, rfl⟩)
      have : (ls.any fun l => !risB l k) = true := List.any_eq_true.2 ⟨ls[i], List.getElem_mem hlt, hc⟩
      rw [this]; simp [leI]
    · refine ⟨rfl, ls.length - (i + 1), by omega, i + 1, ?_, by omega, ?_, rfl, rfl⟩
      · rw [wrap_succ (by omega)]; rfl
      · rw [List.take_succ_eq_append_getElem hlt, List.any_append, hno]; simp only [List.any_cons, List.any_nil, hc, Bool.or_false]
  · refine roundW_exit [] (by kernel_rfl) rfl rfl ?_
    refine end_rule Tryz.Yok (loc := Tryz.Y.loc 35) 100 [4] ?_
    refine Eq.mpr (f35_2 h' _) ?_
    rw [List.take_of_length_le hge] at hno
    exact finC (.inr rfl) rfl (.now ⟨-1, rfl, by rw [hno]; rfl, rfl⟩)
theorem contains21 (ls : List (List Int)) (hls : ∀ l ∈ ls, l.length ≤ 40) (k : Int) {h : Heap} {id : Nat} (hg : h.get id = some (.arr (nC k) true)) (hl : ls.length ≤ 40) :
    Con Tryz.Y 21 [lst encL ls, .fn (.func 22) [] [.p (some (id, 0))]] h fun v h' => v = .b (!ls.all fun l => risB l k) ∧ h' = h := by
  refine conz_of Tryz.Yok (fn := Tryz.f21) (by kernel_rfl) (by kernel_rfl) (end_rule Tryz.Yok (loc := Tryz.Y.loc 21) 100 [4] ?_)
  refine Eq.mpr (f21_0 (row encL ls) ls.length id h _) ?_
  refine (index35 ls hls k hg hl).mono fun v h' ⟨n, e1, e2, e3⟩ => ⟨n, e1, ?_⟩
  subst e3
  rw [e2, any_neg]
  exact finC (.inr rfl) rfl (.now ⟨rfl, rfl⟩)

theorem may7 (a : Au) (hs : smallA a = true) : PCon Tryz.Y 7 [.agg (auC a)] (· = .b (mayA a)) := by
  obtain ⟨s1, s2, s3, s4, s5⟩ := small_of hs
  refine tree_con Tryz.Yok (fn := Tryz.f7) (by kernel_rfl) (by kernel_rfl) rfl (fun K => f7_0 (row encS4 a.sets) a.sets.length (row encI a.first) a.first.length (row encI a.last) a.last.length (row encL a.follow) a.follow.length a.empty .empty K) rfl ?_
  have htag : Tryz.Y.tag 3 = none := by kernel_rfl
  rw [htag]
  have hgp : ∀ j, ((Heap.empty).pushT none (YObj.arr [.i .i64 0] true)).get j = if j = Heap.empty.nx then some (YObj.arr [.i .i64 0] true) else Heap.empty.get j := fun j => Heap.get_pushT _ _ _ _
  let h1 : Heap := ((Heap.empty).pushT none (YObj.arr [.i .i64 0] true)).set Heap.empty.nx (some (.arr (nC a.sets.length) true))
  have hst : hstore ((Heap.empty).pushT none (YObj.arr [.i .i64 0] true)) Heap.empty.nx 0 [.i .i64 (a.sets.length : Nat)] = some h1 := by
    simp only [hstore, hgp, if_true]
    rfl
  have hx : h1.get Heap.empty.nx = some (.arr (nC a.sets.length) true) := by rw [Heap.get_set, if_pos rfl]
  have c1 : hcells h1 Heap.empty.nx 0 1 = some [.i .i64 (a.sets.length : Nat)] := by rw [hcells_of hx]; rfl
  have no : mayA a = false → Fin Tryz.Y Tryz.f7 [2] (fun v h => ∃ r, Frz h v r ∧ r = .b (mayA a)) .ret 35 [.b false] h1 := fun e => finV1 (.inr rfl) rfl (.b _) (by rw [e])
  refine ⟨h1, hst, _, c1, if_lt (fun g => by omega) (fun g1 => ⟨_, c1, if_mk (fun g => no (by simp at g; simp [mayA, show ¬ a.follow.length = a.sets.length by omega])) (fun g2 => ?_)⟩)⟩
  have g2 : a.follow.length = a.sets.length := by simp at g2; omega
  refine ⟨_, c1, _, ris20 a.first a.sets.length (by omega), if_mk (fun g => no (by simp [mayA, show risB a.first a.sets.length = false by simpa using g])) (fun g3 => ?_)⟩
  have g3 : risB a.first a.sets.length = true := by simpa using g3
  refine ⟨_, c1, _, ris20 a.last a.sets.length (by omega), if_mk (fun g => no (by simp [mayA, show risB a.last a.sets.length = false by simpa using g])) (fun g4 => ?_)⟩
  have g4 : risB a.last a.sets.length = true := by simpa using g4
  refine (contains21 a.follow s5 a.sets.length hx s4).mono fun v h' ⟨e1, e2⟩ => ⟨_, e1, finV1 (.inr rfl) rfl (.b _) ?_⟩
  simp only [mayA, g2, g3, g4, show a.sets.length ≤ 300 by omega, decide_true, Bool.true_and, Bool.not_not]
end Go.Y
