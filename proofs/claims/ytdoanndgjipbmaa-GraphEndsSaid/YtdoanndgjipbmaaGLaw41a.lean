/- Layer 41: what any graph is, is the document's. -/
import Derived.Test.YtdoanndgjipbmaaGLoopsP
import Derived.Test.YtdoanndgjipbmaaGX7
import Derived.Test.YtdoanndgjipbmaaGFrom2
namespace Go.Y
open Go.Proofs Tar
set_option maxRecDepth 100000

def A3 (G : List (List Int)) (x : Int) (m : Nat) (vs : List V) (_ : Heap) : Prop :=
  ∃ (i : Nat) (v19 : V), vs = [.i .i64 x, gBox G, .undef, .b false, .ts (rowsV G) G.length none, .i .i64 (G.length : Nat), .i .i64 (i : Nat), v19] ∧ m = G.length - i ∧ i ≤ G.length ∧ ∀ r ∈ G.take i, r.length ≤ 12

theorem parts3_con (hs : SortSays Try.Y.P 26) {G : List (List Int)} {x : Int} : PCon Try.Y 3 [encG G, .i .i64 x] (· = .b true) := by
  refine pcon_of Try.Yok (fn := Try.f3) (by kernel_rfl) (by kernel_rfl) rfl ?_
  refine pre_rule Try.Yok (n := 59) (loc := Try.Y.loc 3) 100 [1, 2, 4, 5, 12, 14, 15, 16, 19] (by kernel_rfl) ?_
  refine Eq.mpr (f3_0 (rowsV G) G.length x .empty _) ?_
  refine ⟨_, awake6, if_mk (fun hc => by cases hc) (fun _ => if_lt (fun h30 => fin_at (.inr rfl) rfl ⟨_, .b _, rfl⟩) (fun h30 => ?_))⟩
  refine ⟨rfl, loop2 [1, 2, 5, 12, 14, 15, 16, 19] [1, 2, 4, 5, 12, 14, 15, 16, 19] rfl (by kernel_rfl) (A3 G x) G.length mk_len ⟨0, _, rfl, by omega, by omega, fun r hr => by simp at hr⟩ ?_⟩
  rintro m vs h ⟨i, v19, rfl, rfl, hi, hsm⟩
  refine all_rule Try.Yok (loc := Try.Y.loc 3) 100 [1, 2, 4, 5, 12, 14, 15, 16, 19] ?_
  refine Eq.mpr (f3_1 (rowsV G) G.length x false (i : Nat) v19 h _) ?_
  refine if_lt_nat (fun hlt => ?_) (fun hge => ?_)
  · obtain ⟨r, hr⟩ : ∃ r, G[i]? = some r := ⟨_, List.getElem?_eq_getElem hlt⟩
    refine ⟨⟨by omega, by omega⟩, _, _, _, rowsV_at hr, if_lt (fun h12 => fin_at (.inr rfl) rfl ⟨_, .b _, rfl⟩) (fun h12 => ?_)⟩
    refine ⟨rfl, G.length - (i + 1), by omega, i + 1, _, by rw [wrap_succ (by omega)]; rfl, rfl, by omega, fun r' hr' => ?_⟩
    rw [List.take_add_one, hr] at hr'
    simp at hr'
    rcases hr' with hr' | rfl
    · exact hsm r' hr'
    · omega
  · have hie : i = G.length := by omega
    subst hie
    rw [List.take_length] at hsm
    have hG : G.length ≤ 30 := by omega
    have hl : ∀ r ∈ G, r.length < 2 ^ 28 := fun r hr => by have := hsm r hr; omega
    have hl30 : ∀ r ∈ G, r.length < 2 ^ 30 := fun r hr => by have := hsm r hr; omega
    refine roundW_exit [1, 2, 5, 12, 19] (by kernel_rfl) rfl rfl ?_
    refine end_rule Try.Yok (loc := Try.Y.loc 3) 100 [4] ?_
    refine Eq.mpr (f3_2 (rowsV G) G.length x v19 false h _) ?_
    have hpl : (partsG G).length ≤ G.length := by unfold partsG; split; rw [List.length_map, partsN_length]; exact Nat.le_refl _; simp
    have hel : (endsG G).length ≤ G.length := by
      have key : ∀ (L : List (List Int)) (i : Nat), (endsFrom i L).length ≤ L.length := by
        intro L
        induction L with
        | nil => intro i; simp [endsFrom]
        | cons r L ih => intro i; simp only [endsFrom]; split <;> simp <;> have := ih (i + 1) <;> omega
      unfold endsG; split; exact key G 0; simp
    have hfl := fromG_length G x
    have hll : (loopsN G).length ≤ G.length := by
      unfold loopsN
      split
      · refine Nat.le_trans (List.length_filter_le _ _) ?_
        rw [List.length_map, List.length_range, partsN_length]; exact Nat.le_refl _
      · simp
    have hlr : ∀ r ∈ (loopsN G).map natI, r.length < 2 ^ 30 := fun r hr => by
      obtain ⟨l, hl2, rfl⟩ := List.mem_map.1 hr
      unfold loopsN at hl2
      split at hl2
      · obtain ⟨p, _, rfl⟩ := List.mem_map.1 (List.mem_filter.1 hl2).1
        have := groupTo_len (partsN G) p (partsN G).length
        rw [group_all, partsN_length] at this
        simp [natI]; omega
      · cases hl2
    have hlm : (loopsN G).length = ((loopsN G).map natI).length := by simp
    have hlo := loops_con (by omega) hl
    have hro := rloops_con (by omega) hl
    rw [hlm] at hlo hro
    refine ⟨_, may_con (by omega) hl30, _, rmay_con (by omega) hl30, if_mk (fun _ => ?_) (fun hc => by simp at hc)⟩
    refine ⟨_, _, _, parts_con (by omega) hl, _, _, _, rparts_con (by omega) hl, _, same_con (by omega), if_mk (fun _ => ?_) (fun hc => by simp at hc)⟩
    refine ⟨_, _, _, hlo, _, _, _, hro, _, sames_con (by simp; omega) hlr, if_mk (fun _ => ?_) (fun hc => by simp at hc)⟩
    refine ⟨_, _, _, ends_con (by omega) hl30, _, _, _, rends_con (by omega) hl30, _, same_con (by omega), if_mk (fun _ => ?_) (fun hc => by simp at hc)⟩
    refine ⟨_, _, _, from_con hs (by omega) hl30, _, _, _, rfrom_con (by omega) hl30, _, same_con (by omega), finV1 (.inr rfl) rfl (.b _) ?_⟩
    simp
end Go.Y

/- Layer 41: two nodes are of one part just if each leads to the other. -/
namespace Go.Y
open Go.Proofs Tar Classical
set_option maxRecDepth 100000
set_option maxHeartbeats 2000000

theorem rowOK_len : ∀ {l : List Int} {n : Nat} {p : Option Int}, rowOK n p l = true → (∀ y, p = some y → l.length + (y + 1).toNat ≤ n ∨ l = []) ∧ l.length ≤ n
  | [], n, p, _ => ⟨fun _ _ => .inr rfl, by simp⟩
  | x :: r, n, p, h => by
    simp only [rowOK, Bool.and_eq_true, decide_eq_true_eq] at h
    obtain ⟨⟨⟨h0, h1⟩, h2⟩, h3⟩ := h
    obtain ⟨g1, g2⟩ := rowOK_len h3
    have key : r.length + (x + 1).toNat ≤ n := by
      rcases g1 x rfl with h4 | h4
      · exact h4
      · rw [h4]; simp; omega
    refine ⟨fun y hy => .inl ?_, by simp; omega⟩
    subst hy
    have h2 : y < x := by simpa using h2
    simp
    omega
theorem mayG_len {G : List (List Int)} (hm : mayG G = true) : ∀ r ∈ G, r.length ≤ G.length := fun r hr => (rowOK_len (List.all_eq_true.1 hm r hr)).2

def A4 (G : List (List Int)) (x y : Int) (i k : Nat) (m : Nat) (vs : List V) (_ : Heap) : Prop :=
  ∃ j : Nat, vs = [.i .u8 x, gBox G, .b false, .i .i64 ((IntKind.i64.wrap x).tmod (G.length : Nat)), .i .i64 ((IntKind.i64.wrap y).tmod (G.length : Nat)), .b (((fromG G (i : Nat)).take j).contains (k : Int)), .b false, .b false, encR (fromG G (i : Nat)), .i .i64 ((fromG G (i : Nat)).length : Nat), .i .i64 (j : Nat)] ∧ m = (fromG G (i : Nat)).length - j ∧ j ≤ (fromG G (i : Nat)).length
def B4 (G : List (List Int)) (x y : Int) (i k : Nat) (m : Nat) (vs : List V) (_ : Heap) : Prop :=
  ∃ j : Nat, vs = [.i .u8 x, gBox G, .b false, .i .i64 ((IntKind.i64.wrap x).tmod (G.length : Nat)), .i .i64 ((IntKind.i64.wrap y).tmod (G.length : Nat)), .b ((fromG G (i : Nat)).contains (k : Int)), .b (((fromG G (k : Nat)).take j).contains (i : Int)), .b false, encR (fromG G (k : Nat)), .i .i64 ((fromG G (k : Nat)).length : Nat), .i .i64 (j : Nat)] ∧ m = (fromG G (k : Nat)).length - j ∧ j ≤ (fromG G (k : Nat)).length

theorem u8_mod {x : Int} (h0 : 0 ≤ x) (h1 : x ≤ 255) {n : Nat} : (IntKind.i64.wrap x).tmod (n : Nat) = ((x.toNat % n : Nat) : Int) := by
  obtain ⟨a, rfl⟩ : ∃ a : Nat, x = (a : Int) := ⟨x.toNat, by omega⟩
  rw [wrap_ok (by omega) (by omega), Int.toNat_natCast]
  exact Int.ofNat_tmod a n

theorem contains_take {l : List Int} {j : Nat} {z x : Int} (hz : l[j]? = some z) : (l.take (j + 1)).contains x = ((l.take j).contains x || (z == x)) := by
  obtain ⟨hj, rfl⟩ := List.getElem?_eq_some_iff.1 hz
  rw [List.take_succ_eq_append_getElem hj, Bool.eq_iff_iff]
  simp only [List.contains_iff_mem, List.mem_append, List.mem_singleton, Bool.or_eq_true, beq_iff_eq]
  constructor
  · rintro (h | h)
    · exact .inl h
    · exact .inr h.symm
  · rintro (h | h)
    · exact .inl h
    · exact .inr h.symm

theorem leads_con (hs : SortSays Try.Y.P 26) {G : List (List Int)} {x y : Int} (hx0 : 0 ≤ x) (hx1 : x ≤ 255) (hy0 : 0 ≤ y) (hy1 : y ≤ 255) (hr : ∀ r ∈ G, r.length ≤ 2 ^ 63 - 1) : PCon Try.Y 4 [encG G, .i .u8 x, .i .u8 y] (· = .b true) := by
  refine pcon_of Try.Yok (fn := Try.f4) (by kernel_rfl) (by kernel_rfl) rfl ?_
  refine pre_rule Try.Yok (n := 99) (loc := Try.Y.loc 4) 100 [1, 3, 6, 7, 8, 9, 10, 17, 47, 48, 49] (by kernel_rfl) ?_
  refine Eq.mpr (f4_0 (rowsV G) G.length x y .empty _) ?_
  refine ⟨_, awake6, if_mk (fun hc => by cases hc) (fun _ => if_lt (fun h60 => fin_at (.inr rfl) rfl ⟨_, .b _, rfl⟩) (fun h60 => if_mk (fun h0 => fin_at (.inr rfl) rfl ⟨_, .b _, rfl⟩) (fun h0 => ?_)))⟩
  have hn0 : G.length ≠ 0 := fun e => by rw [e] at h0; simp at h0
  refine ⟨_, rmay63 (by omega) hr, if_mk (fun hc => fin_at (.inr rfl) rfl ⟨_, .b _, rfl⟩) (fun hc => ?_)⟩
  have hm : mayG G = true := by simpa using hc
  have hl28 : ∀ r ∈ G, r.length < 2 ^ 28 := fun r hr => by have := mayG_len hm r hr; omega
  have hl30 : ∀ r ∈ G, r.length < 2 ^ 30 := fun r hr => by have := hl28 r hr; omega
  have ei : (IntKind.i64.wrap x).tmod (G.length : Nat) = ((x.toNat % G.length : Nat) : Int) := u8_mod hx0 hx1
  have ek : (IntKind.i64.wrap y).tmod (G.length : Nat) = ((y.toNat % G.length : Nat) : Int) := u8_mod hy0 hy1
  have hi : x.toNat % G.length < G.length := Nat.mod_lt _ (by omega)
  have hk : y.toNat % G.length < G.length := Nat.mod_lt _ (by omega)
  generalize x.toNat % G.length = i at ei hi
  generalize y.toNat % G.length = k at ek hk
  have hfi : PCon Try.Y 17 [encG G, .i .i64 ((IntKind.i64.wrap x).tmod (G.length : Nat))] (· = encR (fromG G (i : Nat))) := by rw [ei]; exact from_con hs (by omega) hl30
  have hfk : PCon Try.Y 17 [encG G, .i .i64 ((IntKind.i64.wrap y).tmod (G.length : Nat))] (· = encR (fromG G (k : Nat))) := by rw [ek]; exact from_con hs (by omega) hl30
  have hli := fromG_length G (i : Nat)
  have hlk := fromG_length G (k : Nat)
  refine ⟨fun e => hn0 (by omega), fun e => hn0 (by omega), _, _, _, hfi, rfl, ?_⟩
  refine loop2 [1, 3, 6, 7, 8, 9, 10, 17, 47, 48, 49] [1, 3, 6, 7, 8, 9, 10, 17, 47, 48, 49] rfl (by kernel_rfl) (A4 G x y i k) (fromG G (i : Nat)).length mk_len ⟨0, rfl, by omega, by omega⟩ ?_
  rintro m vs h ⟨j, rfl, rfl, hj⟩
  refine all_rule Try.Yok (loc := Try.Y.loc 4) 100 [1, 3, 6, 7, 8, 9, 10, 17, 47, 48, 49] ?_
  refine Eq.mpr (f4_1 (rowsV G) G.length x y false _ false false none (ints (fromG G (i : Nat))) (fromG G (i : Nat)).length ((fromG G (i : Nat)).length : Nat) (j : Nat) h _) ?_
  refine if_lt_nat (fun hlt => ?_) (fun hge => ?_)
  · obtain ⟨z, hz⟩ : ∃ z, (fromG G (i : Nat))[j]? = some z := ⟨_, List.getElem?_eq_getElem hlt⟩
    refine ⟨⟨by omega, by omega⟩, z, ints_at hz, if_mk (fun hb => ?_) (fun hb => ?_)⟩
    · refine ⟨rfl, (fromG G (i : Nat)).length - (j + 1), by omega, j + 1, ?_, rfl, by omega⟩
      rw [contains_take hz, hb, Bool.true_or, wrap_succ (by omega)]; rfl
    · refine ⟨rfl, (fromG G (i : Nat)).length - (j + 1), by omega, j + 1, ?_, rfl, by omega⟩
      rw [contains_take hz, hb, Bool.false_or, wrap_succ (by omega), ek]; rfl
  have hje : j = (fromG G (i : Nat)).length := by omega
  subst hje
  rw [List.take_length]
  refine roundW_exit [1, 3, 6, 7, 8, 9, 10, 17] (by kernel_rfl) rfl rfl ?_
  refine pre_rule Try.Yok (n := 99) (loc := Try.Y.loc 4) 100 [1, 3, 6, 7, 8, 9, 10, 17, 62, 63, 64] (by kernel_rfl) ?_
  refine Eq.mpr (f4_2 (rowsV G) G.length x y false _ false false h _) ?_
  refine ⟨_, _, _, hfk, rfl, ?_⟩
  refine loop2 [1, 3, 6, 7, 8, 9, 10, 17, 62, 63, 64] [1, 3, 6, 7, 8, 9, 10, 17, 62, 63, 64] rfl (by kernel_rfl) (B4 G x y i k) (fromG G (k : Nat)).length mk_len ⟨0, rfl, by omega, by omega⟩ ?_
  rintro m vs h ⟨j, rfl, rfl, hj⟩
  refine all_rule Try.Yok (loc := Try.Y.loc 4) 100 [1, 3, 6, 7, 8, 9, 10, 17, 62, 63, 64] ?_
  refine Eq.mpr (f4_3 (rowsV G) G.length x y false _ _ false none (ints (fromG G (k : Nat))) (fromG G (k : Nat)).length ((fromG G (k : Nat)).length : Nat) (j : Nat) h _) ?_
  refine if_lt_nat (fun hlt => ?_) (fun hge => ?_)
  · obtain ⟨z, hz⟩ : ∃ z, (fromG G (k : Nat))[j]? = some z := ⟨_, List.getElem?_eq_getElem hlt⟩
    refine ⟨⟨by omega, by omega⟩, z, ints_at hz, if_mk (fun hb => ?_) (fun hb => ?_)⟩
    · refine ⟨rfl, (fromG G (k : Nat)).length - (j + 1), by omega, j + 1, ?_, rfl, by omega⟩
      rw [contains_take hz, hb, Bool.true_or, wrap_succ (by omega)]; rfl
    · refine ⟨rfl, (fromG G (k : Nat)).length - (j + 1), by omega, j + 1, ?_, rfl, by omega⟩
      rw [contains_take hz, hb, Bool.false_or, wrap_succ (by omega), ei]; rfl
  have hje : j = (fromG G (k : Nat)).length := by omega
  subst hje
  rw [List.take_length]
  refine roundW_exit [3, 6, 7, 8, 9, 10, 17] (by kernel_rfl) rfl rfl ?_
  refine end_rule Try.Yok (loc := Try.Y.loc 4) 100 [6] ?_
  refine Eq.mpr (f4_4 (rowsV G) G.length x y false _ _ false h _) ?_
  have hp := parts_con (G := G) (by omega) hl28
  rw [partsM_enc] at hp
  have hM : partsM G = partsN G := by simp [partsM, hm]
  rw [hM] at hp
  have hpl := partsN_length G
  obtain ⟨a, ha⟩ : ∃ a, (partsN G)[i]? = some a := ⟨_, List.getElem?_eq_getElem (by omega)⟩
  obtain ⟨b, hb⟩ : ∃ b, (partsN G)[k]? = some b := ⟨_, List.getElem?_eq_getElem (by omega)⟩
  have at_ : ∀ {u c : Nat}, (partsN G)[u]? = some c → takeX 1 ((nums (partsN G)).drop (((u : Nat) : Int).toNat * 1)) = some [.i .i64 ((c : Nat) : Int)] := fun {u c} h => by
    have : (nums (partsN G))[u]? = some (.i .i64 ((c : Nat) : Int)) := by simp [nums, h]
    simpa using takeX_at this
  refine ⟨_, _, _, hp, if_mk (fun _ => ?_) (fun hc => by rw [hpl] at hc; simp at hc)⟩
  rw [ei, ek]
  have hab : (((a : Nat) : Int) == ((b : Nat) : Int)) = decide (Mut (sucI G) i k) := by
    have := partsN_mut (G := G) hi hk
    rw [ha, hb] at this
    rw [Bool.eq_iff_iff]
    simp only [beq_iff_eq, decide_eq_true_eq, Int.ofNat_inj]
    rw [← this]; simp
  have hik : (fromG G (i : Nat)).contains ((k : Nat) : Int) = decide (Tar.Reach (sucI G) i k) := by rw [Bool.eq_iff_iff, fromG_has hm hi hk]; simp
  have hki : (fromG G (k : Nat)).contains ((i : Nat) : Int) = decide (Tar.Reach (sucI G) k i) := by rw [Bool.eq_iff_iff, fromG_has hm hk hi]; simp
  refine ⟨⟨by omega, by omega⟩, _, at_ ha, ⟨by omega, by omega⟩, _, at_ hb, if_mk (fun h1 => finV1 (.inr rfl) rfl (.b _) ?_) (fun h1 => finV1 (.inr rfl) rfl (.b _) ?_)⟩
  · rw [hik] at h1
    rw [hab, hki]
    have h1 := of_decide_eq_true h1
    have : decide (Mut (sucI G) i k) = decide (Tar.Reach (sucI G) k i) := by
      by_cases h2 : Tar.Reach (sucI G) k i
      · rw [decide_eq_true h2, decide_eq_true (show Mut (sucI G) i k from ⟨h1, h2⟩)]
      · rw [decide_eq_false h2, decide_eq_false (fun hm : Mut (sucI G) i k => h2 hm.2)]
    rw [this]; simp
  · rw [hik] at h1
    have h1 := of_decide_eq_false h1
    rw [hab, decide_eq_false (fun hm : Mut (sucI G) i k => h1 hm.1)]; rfl
end Go.Y

/- Layer 41: loops and ends. -/
namespace Go.Y
open Go.Proofs Tar Classical
set_option maxRecDepth 100000
set_option maxHeartbeats 2000000

/-! ### The plain law -/
theorem group_mem {G : List (List Int)} {p i : Nat} : i ∈ groupN (partsN G) p ↔ i < G.length ∧ (partsN G).getD i 0 = p := by
  unfold groupN
  rw [List.mem_filter, List.mem_range, partsN_length]
  simp
theorem partsN_getD {G : List (List Int)} {u v : Nat} (hu : u < G.length) (hv : v < G.length) : (partsN G).getD u 0 = (partsN G).getD v 0 ↔ Mut (sucI G) u v := by
  rw [← partsN_mut hu hv]
  have h1 : (partsN G)[u]? = some ((partsN G).getD u 0) := by
    obtain ⟨x, hx⟩ : ∃ x, (partsN G)[u]? = some x := ⟨_, List.getElem?_eq_getElem (by rw [partsN_length]; exact hu)⟩
    simp [List.getD_eq_getElem?_getD, hx]
  have h2 : (partsN G)[v]? = some ((partsN G).getD v 0) := by
    obtain ⟨x, hx⟩ : ∃ x, (partsN G)[v]? = some x := ⟨_, List.getElem?_eq_getElem (by rw [partsN_length]; exact hv)⟩
    simp [List.getD_eq_getElem?_getD, hx]
  rw [h1, h2]; simp
theorem group_nodup (N : List Nat) (p : Nat) : (groupN N p).Nodup := List.Pairwise.filter _ List.nodup_range

theorem reach_step {succ : Nat → List Nat} {u v : Nat} (h : Tar.Reach succ u v) (hne : u ≠ v) : succ u ≠ [] := by
  intro hs
  exact hne (h.stay (P := fun w => w = u) (fun w hw x hx => by subst hw; rw [hs] at hx; cases hx) rfl).symm

theorem loop_suc {G : List (List Int)} {l : List Nat} (hl : l ∈ loopsN G) {u : Nat} (hu : u ∈ l) : u < G.length ∧ sucI G u ≠ [] := by
  unfold loopsN at hl
  split at hl
  · obtain ⟨h1, h2⟩ := List.mem_filter.1 hl
    obtain ⟨p, _, rfl⟩ := List.mem_map.1 h1
    obtain ⟨h3, h4⟩ := group_mem.1 hu
    refine ⟨h3, ?_⟩
    simp only [keepG, Bool.or_eq_true, decide_eq_true_eq] at h2
    have self : selfG G u = true → sucI G u ≠ [] := fun hs e => by
      have hs : (u : Int) ∈ G.getD u [] := by simpa [selfG] using hs
      have : (u : Int).toNat ∈ sucI G u := List.mem_map_of_mem hs
      rw [e] at this; cases this
    rcases h2 with h2 | h2
    · obtain ⟨v, hv, hne⟩ : ∃ v ∈ groupN (partsN G) p, u ≠ v := by
        have hnd := group_nodup (partsN G) p
        cases hg : groupN (partsN G) p with
        | nil => rw [hg] at h2; simp at h2
        | cons a r =>
          cases r with
          | nil => rw [hg] at h2; simp at h2
          | cons b r =>
            rw [hg] at hnd
            by_cases e : u = a
            · refine ⟨b, by simp, fun e2 => ?_⟩
              simp at hnd
              exact hnd.1.1 (by rw [← e, e2])
            · exact ⟨a, by simp, e⟩
      obtain ⟨g3, g4⟩ := group_mem.1 hv
      exact reach_step ((partsN_getD h3 g3).1 (by rw [h4, g4])).1 hne
    · obtain ⟨v, hv, hs⟩ := List.any_eq_true.1 h2
      by_cases e : u = v
      · rw [← e] at hs; exact self hs
      · obtain ⟨g3, g4⟩ := group_mem.1 hv
        exact reach_step ((partsN_getD h3 g3).1 (by rw [h4, g4])).1 e
  · cases hl

theorem cycle_loop {G : List (List Int)} (hm : mayG G = true) {u v : Nat} (hu : u < G.length) (hv : v ∈ sucI G u) (hr : Tar.Reach (sucI G) v u) : loopsN G ≠ [] := by
  have hvl := sucI_lt hm hv
  have hmut : Mut (sucI G) u v := ⟨.edge hv, hr⟩
  have hp : (partsN G).getD u 0 < (partsN G).length := by
    have := partsN_lt (G := G) (i := G.length) (k := u) (Nat.le_refl _) hu
    have := nI_le (G := G) G.length
    rw [partsN_length]; omega
  have hin : groupN (partsN G) ((partsN G).getD u 0) ∈ loopsN G := by
    unfold loopsN
    rw [if_pos hm]
    refine List.mem_filter.2 ⟨List.mem_map_of_mem (List.mem_range.2 hp), ?_⟩
    have hu2 : u ∈ groupN (partsN G) ((partsN G).getD u 0) := group_mem.2 ⟨hu, rfl⟩
    have hv2 : v ∈ groupN (partsN G) ((partsN G).getD u 0) := group_mem.2 ⟨hvl, ((partsN_getD hu hvl).2 hmut).symm⟩
    simp only [keepG, Bool.or_eq_true, decide_eq_true_eq]
    by_cases e : u = v
    · subst e
      refine .inr (List.any_eq_true.2 ⟨u, hu2, ?_⟩)
      obtain ⟨z, hz, hz2⟩ := List.mem_map.1 hv
      have hz0 : 0 ≤ z := by
        cases hrow : G[u]? with
        | none => simp [List.getD_eq_getElem?_getD, hrow] at hz
        | some r =>
          simp [List.getD_eq_getElem?_getD, hrow] at hz
          exact (mayG_row hm hrow z hz).1
      have : z = (u : Int) := by omega
      rw [this] at hz
      simpa [selfG] using hz
    · refine .inl ?_
      cases hg : groupN (partsN G) ((partsN G).getD u 0) with
      | nil => rw [hg] at hu2; cases hu2
      | cons a r =>
        cases r with
        | nil => rw [hg] at hu2 hv2; simp at hu2 hv2; exact absurd (hu2.trans hv2.symm) e
        | cons b r => simp
  intro e
  rw [e] at hin; cases hin

theorem end_reach {G : List (List Int)} (hm : mayG G = true) (h0 : loopsN G = []) : ∀ (n u : Nat), u < G.length → ((List.range G.length).filter fun x => decide (Tar.Reach (sucI G) u x)).length ≤ n → ∃ e, Tar.Reach (sucI G) u e ∧ e < G.length ∧ sucI G e = []
  | 0, u, hu, hn => by
    have : u ∈ (List.range G.length).filter fun x => decide (Tar.Reach (sucI G) u x) := List.mem_filter.2 ⟨List.mem_range.2 hu, by simp [Tar.Reach.refl u]⟩
    rw [List.eq_nil_of_length_eq_zero (Nat.le_zero.1 hn)] at this; cases this
  | n + 1, u, hu, hn => by
    cases hs : sucI G u with
    | nil => exact ⟨u, .refl u, hu, hs⟩
    | cons v r =>
      have hv : v ∈ sucI G u := by rw [hs]; simp
      have hvl := sucI_lt hm hv
      have hnr : ¬ Tar.Reach (sucI G) v u := fun hr => cycle_loop hm hu hv hr h0
      have hlt : ((List.range G.length).filter fun x => decide (Tar.Reach (sucI G) v x)).length < ((List.range G.length).filter fun x => decide (Tar.Reach (sucI G) u x)).length := by
        have hsub : ∀ L : List Nat, u ∈ L → (L.filter fun x => decide (Tar.Reach (sucI G) v x)).length < (L.filter fun x => decide (Tar.Reach (sucI G) u x)).length := by
          have hle : ∀ L : List Nat, (L.filter fun x => decide (Tar.Reach (sucI G) v x)).length ≤ (L.filter fun x => decide (Tar.Reach (sucI G) u x)).length := by
            intro L
            induction L with
            | nil => simp
            | cons a L ih =>
              simp only [List.filter_cons]
              by_cases h1 : Tar.Reach (sucI G) v a
              · have h2 : Tar.Reach (sucI G) u a := (Tar.Reach.edge hv).trans h1
                simp [h1, h2]; exact ih
              · by_cases h2 : Tar.Reach (sucI G) u a
                · simp [h1, h2]; omega
                · simp [h1, h2]; exact ih
          intro L
          induction L with
          | nil => intro h; cases h
          | cons a L ih =>
            intro hm
            by_cases e : a = u
            · have h1 : ¬ Tar.Reach (sucI G) v a := by rw [e]; exact hnr
              have h2 : Tar.Reach (sucI G) u a := by rw [e]; exact .refl u
              simp only [List.filter_cons, h1, h2, decide_false, decide_true, if_true, List.length_cons, Bool.false_eq_true, if_false]
              have := hle L; omega
            · have := ih (by rcases List.mem_cons.1 hm with h | h; exact absurd h.symm e; exact h)
              simp only [List.filter_cons]
              by_cases h1 : Tar.Reach (sucI G) v a
              · have h2 : Tar.Reach (sucI G) u a := (Tar.Reach.edge hv).trans h1
                simp [h1, h2]; exact this
              · by_cases h2 : Tar.Reach (sucI G) u a
                · simp [h1, h2]; omega
                · simp [h1, h2]; exact this
        exact hsub _ (List.mem_range.2 hu)
      obtain ⟨e, h1, h2, h3⟩ := end_reach hm h0 n v hvl (by omega)
      exact ⟨e, (Tar.Reach.edge hv).trans h1, h2, h3⟩

theorem endsFrom_mem : ∀ (L : List (List Int)) (i : Nat) (x : Int), x ∈ endsFrom i L ↔ ∃ j, L[j]? = some [] ∧ x = ((i + j : Nat) : Int)
  | [], i, x => by simp [endsFrom]
  | r :: L, i, x => by
    have ih := endsFrom_mem L (i + 1) x
    simp only [endsFrom]
    constructor
    · intro h
      split at h
      · rename_i h0
        rcases List.mem_cons.1 h with h | h
        · exact ⟨0, by simpa using List.eq_nil_of_length_eq_zero h0, by simpa using h⟩
        · obtain ⟨j, h1, h2⟩ := ih.1 h
          exact ⟨j + 1, by simpa using h1, by rw [h2]; congr 1; omega⟩
      · obtain ⟨j, h1, h2⟩ := ih.1 h
        exact ⟨j + 1, by simpa using h1, by rw [h2]; congr 1; omega⟩
    · rintro ⟨j, h1, h2⟩
      cases j with
      | zero =>
        simp at h1; subst h1
        simp [h2]
      | succ j =>
        have := ih.2 ⟨j, by simpa using h1, by rw [h2]; congr 1; omega⟩
        split
        · exact List.mem_cons_of_mem _ this
        · exact this

theorem end_from {G : List (List Int)} (hm : mayG G = true) (h0 : loopsN G = []) {i : Nat} (hi : i < G.length) : ∃ n ∈ fromG G (i : Nat), n ∈ endsG G := by
  obtain ⟨e, h1, h2, h3⟩ := end_reach hm h0 _ i hi (Nat.le_refl _)
  refine ⟨(e : Int), by simpa using (fromG_has hm hi h2).2 h1, ?_⟩
  unfold endsG
  rw [if_pos hm, endsFrom_mem]
  refine ⟨e, ?_, by simp⟩
  obtain ⟨r, hr⟩ : ∃ r, G[e]? = some r := ⟨_, List.getElem?_eq_getElem h2⟩
  rw [sucI_at hr] at h3
  rw [hr, List.map_eq_nil_iff.1 h3]
end Go.Y
