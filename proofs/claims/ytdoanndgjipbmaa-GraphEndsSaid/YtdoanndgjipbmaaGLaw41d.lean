/- Layer 41: a node that leads nowhere is no loop; without loops an end is come to from each node. -/
import Derived.Test.YtdoanndgjipbmaaGLaw41a
import Derived.Test.YtdoanndgjipbmaaGRise
import Derived.Test.YtdoanndgjipbmaaYTryP
import Derived.Shelf.Sort.Plain
import Derived.Shelf.Slices.In.SortNone
import Derived.Test.YtdoanndgjipbmaaYRow
namespace Go.Y
open Go.Proofs Tar Classical
set_option maxRecDepth 100000
set_option maxHeartbeats 0

noncomputable section
abbrev lpV (G : List (List Int)) : V := .ts (rowsV ((loopsN G).map natI)) (loopsN G).length none
def A5 (G : List (List Int)) (m : Nat) (vs : List V) (_ : Heap) : Prop :=
  ∃ i : Nat, vs = [gBox G, encR (endsG G), lpV G, lpV G, .i .i64 ((loopsN G).length : Nat), .i .i64 (i : Nat)] ∧ m = (loopsN G).length - i ∧ i ≤ (loopsN G).length
def B5 (G : List (List Int)) (i : Nat) (l : List Int) (m : Nat) (vs : List V) (_ : Heap) : Prop :=
  ∃ j : Nat, vs = [gBox G, encR (endsG G), lpV G, lpV G, .i .i64 ((loopsN G).length : Nat), .i .i64 (i : Nat), encR l, .i .i64 (l.length : Nat), .i .i64 (j : Nat)] ∧ m = l.length - j ∧ j ≤ l.length
def C5 (G : List (List Int)) (m : Nat) (vs : List V) (_ : Heap) : Prop :=
  ∃ i : Nat, vs = [gBox G, encR (endsG G), lpV G, .i .i64 (G.length : Nat), .i .i64 (i : Nat)] ∧ m = G.length - i ∧ i ≤ G.length
def met5 (G : List (List Int)) (F : List Int) (j : Nat) : Bool := decide (0 < (loopsN G).length) || (F.take j).any (endsG G).contains
def D5 (G : List (List Int)) (i : Nat) (m : Nat) (vs : List V) (_ : Heap) : Prop :=
  ∃ j : Nat, vs = [gBox G, encR (endsG G), lpV G, .b (met5 G (fromG G (i : Nat)) j), .i .i64 (G.length : Nat), .i .i64 (i : Nat), encR (fromG G (i : Nat)), .i .i64 ((fromG G (i : Nat)).length : Nat), .i .i64 (j : Nat)] ∧ m = (fromG G (i : Nat)).length - j ∧ j ≤ (fromG G (i : Nat)).length
def E5 (G : List (List Int)) (i j : Nat) (z : Int) (b : Bool) (m : Nat) (vs : List V) (_ : Heap) : Prop :=
  ∃ k : Nat, vs = [gBox G, encR (endsG G), lpV G, .b (b || ((endsG G).take k).contains z), .i .i64 z, .i .i64 (G.length : Nat), .i .i64 (i : Nat), encR (fromG G (i : Nat)), .i .i64 ((fromG G (i : Nat)).length : Nat), .i .i64 (j : Nat), encR (endsG G), .i .i64 ((endsG G).length : Nat), .i .i64 (k : Nat)] ∧ m = (endsG G).length - k ∧ k ≤ (endsG G).length

end

theorem ends_len (G : List (List Int)) : (endsG G).length ≤ G.length := by
  have key : ∀ (L : List (List Int)) (i : Nat), (endsFrom i L).length ≤ L.length := by
    intro L
    induction L with
    | nil => intro i; simp [endsFrom]
    | cons r L ih => intro i; simp only [endsFrom]; split <;> simp <;> have := ih (i + 1) <;> omega
  unfold endsG; split; exact key G 0; simp

theorem ends5_con (hs : SortSays Try.Y.P 26) {G : List (List Int)} (hr : ∀ r ∈ G, r.length ≤ 2 ^ 63 - 1) : PCon Try.Y 5 [encG G] (· = .b true) := by
  refine pcon_of Try.Yok (fn := Try.f5) (by kernel_rfl) (by kernel_rfl) rfl ?_
  refine pre_rule Try.Yok (n := 85) (loc := Try.Y.loc 5) 100 [1, 2, 3, 4, 30, 31, 32] (by kernel_rfl) ?_
  refine Eq.mpr (f5_0 (rowsV G) G.length .empty _) ?_
  refine ⟨_, awake6, if_mk (fun hc => by cases hc) (fun _ => if_lt (fun h40 => fin_at (.inr rfl) rfl ⟨_, .b _, rfl⟩) (fun h40 => ?_))⟩
  refine ⟨_, rmay63 (by omega) hr, if_mk (fun hc => fin_at (.inr rfl) rfl ⟨_, .b _, rfl⟩) (fun hc => ?_)⟩
  have hm : mayG G = true := by simpa using hc
  have hl28 : ∀ r ∈ G, r.length < 2 ^ 28 := fun r hr => by have := mayG_len hm r hr; omega
  have hl30 : ∀ r ∈ G, r.length < 2 ^ 30 := fun r hr => by have := hl28 r hr; omega
  have hel := ends_len G
  have hll : (loopsN G).length ≤ G.length := by
    unfold loopsN
    rw [if_pos hm]
    refine Nat.le_trans (List.length_filter_le _ _) ?_
    rw [List.length_map, List.length_range, partsN_length]; exact Nat.le_refl _
  have hlo := loops_con (G := G) (by omega) hl28
  refine ⟨_, _, _, ends_con (by omega) hl30, _, _, _, hlo, rfl, ?_⟩
  refine loop2 [1, 3, 4, 30, 31, 32] [1, 3, 4, 30, 31, 32] rfl (by kernel_rfl) (A5 G) (loopsN G).length mk_len ⟨0, rfl, by omega, by omega⟩ ?_
  rintro m vs h ⟨i, rfl, rfl, hi⟩
  refine pre_rule Try.Yok (n := 85) (loc := Try.Y.loc 5) 100 [1, 3, 4, 30, 31, 32] (by kernel_rfl) ?_
  refine Eq.mpr (f5_1 (rowsV G) G.length none (ints (endsG G)) (endsG G).length none (rowsV ((loopsN G).map natI)) (loopsN G).length none (rowsV ((loopsN G).map natI)) (loopsN G).length ((loopsN G).length : Nat) (i : Nat) h _) ?_
  refine if_lt_nat (fun hlt => ?_) (fun hge => ?_)
  · obtain ⟨l, hli⟩ : ∃ l, (loopsN G)[i]? = some l := ⟨_, List.getElem?_eq_getElem hlt⟩
    have hlm := List.mem_of_getElem? hli
    have hll2 : l.length ≤ G.length := by
      unfold loopsN at hlm
      rw [if_pos hm] at hlm
      obtain ⟨p, _, rfl⟩ := List.mem_map.1 (List.mem_filter.1 hlm).1
      have := groupTo_len (partsN G) p (partsN G).length
      rw [group_all, partsN_length] at this; exact this
    refine ⟨rfl, block2 (n := 85) [1, 3, 4, 30, 31, 32] (by kernel_rfl) ?_⟩
    refine pre_rule Try.Yok (n := 85) (loc := Try.Y.loc 5) 100 [1, 3, 4, 30, 31, 32, 36, 37, 38] (by kernel_rfl) ?_
    refine Eq.mpr (f5_2 (rowsV G) G.length none (ints (endsG G)) (endsG G).length none (rowsV ((loopsN G).map natI)) (loopsN G).length none (rowsV ((loopsN G).map natI)) (loopsN G).length ((loopsN G).length : Nat) (i : Nat) h _) ?_
    have hrow : ((loopsN G).map natI)[i]? = some (natI l) := by rw [List.getElem?_map, hli]; rfl
    refine ⟨⟨by omega, by omega⟩, _, _, _, rowsV_at hrow, rfl, ?_⟩
    have hnl : (natI l).length = l.length := by simp [natI]
    refine loopE [1, 3, 4, 30, 31, 32, 36, 37, 38] [1, 2, 3, 4, 30, 31, 32, 36, 37, 38] rfl (by kernel_rfl) (B5 G i (natI l)) (natI l).length mk_len ⟨0, rfl, by omega, by omega⟩ ?_
    rintro m3 vs h3 ⟨j, rfl, rfl, hj⟩
    refine all_rule Try.Yok (loc := Try.Y.loc 5) 100 [1, 2, 3, 4, 30, 31, 32, 36, 37, 38] ?_
    refine Eq.mpr (f5_3 (rowsV G) G.length none (ints (endsG G)) (endsG G).length none (rowsV ((loopsN G).map natI)) (loopsN G).length none (rowsV ((loopsN G).map natI)) (loopsN G).length ((loopsN G).length : Nat) (i : Nat) none (ints (natI l)) (natI l).length ((natI l).length : Nat) (j : Nat) h3 _) ?_
    refine if_lt_nat (fun hlt3 => ?_) (fun hge3 => ?_)
    · obtain ⟨u, hu⟩ : ∃ u, l[j]? = some u := ⟨_, List.getElem?_eq_getElem (by omega)⟩
      obtain ⟨g1, g2⟩ := loop_suc hlm (List.mem_of_getElem? hu)
      obtain ⟨r, hrr⟩ : ∃ r, G[u]? = some r := ⟨_, List.getElem?_eq_getElem g1⟩
      have hui : (natI l)[j]? = some ((u : Nat) : Int) := by simp [natI, hu]
      have hrne : r.length ≠ 0 := fun e => g2 (by rw [sucI_at hrr, List.eq_nil_of_length_eq_zero e]; rfl)
      refine ⟨⟨by omega, by omega⟩, _, ints_at hui, ⟨by omega, by omega⟩, _, _, _, rowsV_at hrr, if_mk (fun hc => ?_) (fun _ => ?_)⟩
      · exact absurd (by simpa using hc) hrne
      · exact ⟨rfl, (natI l).length - (j + 1), by omega, j + 1, by rw [wrap_succ (by omega)]; rfl, rfl, by omega⟩
    · simp only [RoundE]
      rw [if_pos (by kernel_rfl)]
      refine at_pick rfl ⟨rfl, [1, 3, 4, 30, 31, 32], rfl, ?_⟩
      refine all_rule Try.Yok (loc := Try.Y.loc 5) 100 [1, 3, 4, 30, 31, 32] ?_
      refine Eq.mpr (f5_4 (rowsV G) G.length none (ints (endsG G)) (endsG G).length none (rowsV ((loopsN G).map natI)) (loopsN G).length none (rowsV ((loopsN G).map natI)) (loopsN G).length ((loopsN G).length : Nat) (i : Nat) h3 _) ?_
      exact ⟨rfl, (loopsN G).length - (i + 1), by omega, i + 1, by rw [wrap_succ (by omega)]; rfl, rfl, by omega⟩
  · refine at_pick rfl (roundW_exit [1, 3, 4] (by kernel_rfl) rfl rfl ?_)
    refine pre_rule Try.Yok (n := 85) (loc := Try.Y.loc 5) 100 [1, 3, 4, 53, 54] (by kernel_rfl) ?_
    refine Eq.mpr (f5_5 (rowsV G) G.length none (ints (endsG G)) (endsG G).length none (rowsV ((loopsN G).map natI)) (loopsN G).length h _) ?_
    refine ⟨rfl, loop2 [1, 3, 4, 53, 54] [1, 3, 4, 53, 54] rfl (by kernel_rfl) (C5 G) G.length mk_len ⟨0, rfl, by omega, by omega⟩ ?_⟩
    rintro m2 vs h2 ⟨i2, rfl, rfl, hi2⟩
    refine pre_rule Try.Yok (n := 85) (loc := Try.Y.loc 5) 100 [1, 3, 4, 53, 54] (by kernel_rfl) ?_
    refine Eq.mpr (f5_6 (rowsV G) G.length none (ints (endsG G)) (endsG G).length none (rowsV ((loopsN G).map natI)) (loopsN G).length (i2 : Nat) h2 _) ?_
    refine if_lt_nat (fun hlt2 => ?_) (fun hge2 => ?_)
    · refine ⟨rfl, block2 (n := 85) [1, 2, 3, 4, 53, 54] (by kernel_rfl) ?_⟩
      refine pre_rule Try.Yok (n := 85) (loc := Try.Y.loc 5) 100 [1, 3, 4, 10, 53, 54, 62, 63, 64] (by kernel_rfl) ?_
      refine Eq.mpr (f5_7 (rowsV G) G.length none (ints (endsG G)) (endsG G).length none (rowsV ((loopsN G).map natI)) (loopsN G).length (i2 : Nat) h2 _) ?_
      have hfl := fromG_length G (i2 : Nat)
      have e0 : ltI 0 ((loopsN G).length : Nat) = met5 G (fromG G (i2 : Nat)) 0 := by rw [ltI_pos]; simp [met5]
      refine ⟨_, _, _, from_con hs (by omega) hl30, rfl, ?_⟩
      refine loop2 [1, 3, 4, 10, 53, 54, 62, 63, 64] [1, 3, 4, 10, 53, 54, 62, 63, 64] rfl (by kernel_rfl) (D5 G i2) (fromG G (i2 : Nat)).length mk_len ⟨0, by rw [← e0]; rfl, by omega, by omega⟩ ?_
      rintro m4 vs h4 ⟨j, rfl, rfl, hj⟩
      generalize hbo : met5 G (fromG G (i2 : Nat)) j = bo
      refine pre_rule Try.Yok (n := 85) (loc := Try.Y.loc 5) 100 [1, 3, 4, 10, 53, 54, 62, 63, 64] (by kernel_rfl) ?_
      refine Eq.mpr (f5_8 (rowsV G) G.length none (ints (endsG G)) (endsG G).length none (rowsV ((loopsN G).map natI)) (loopsN G).length (i2 : Nat) none (ints (fromG G (i2 : Nat))) (fromG G (i2 : Nat)).length ((fromG G (i2 : Nat)).length : Nat) bo (j : Nat) h4 _) ?_
      refine if_lt_nat (fun hlt4 => ?_) (fun hge4 => ?_)
      · obtain ⟨z, hz⟩ : ∃ z, (fromG G (i2 : Nat))[j]? = some z := ⟨_, List.getElem?_eq_getElem hlt4⟩
        refine ⟨rfl, block2 (n := 85) [1, 3, 4, 10, 53, 54, 62, 63, 64] (by kernel_rfl) ?_⟩
        refine pre_rule Try.Yok (n := 85) (loc := Try.Y.loc 5) 100 [1, 3, 4, 10, 12, 53, 54, 62, 63, 64, 68, 69, 70] (by kernel_rfl) ?_
        refine Eq.mpr (f5_9 (rowsV G) G.length none (ints (endsG G)) (endsG G).length none (rowsV ((loopsN G).map natI)) (loopsN G).length (i2 : Nat) none (ints (fromG G (i2 : Nat))) (fromG G (i2 : Nat)).length ((fromG G (i2 : Nat)).length : Nat) bo (j : Nat) h4 _) ?_
        refine ⟨⟨by omega, by omega⟩, z, ints_at hz, rfl, ?_⟩
        refine loopE [1, 3, 4, 10, 12, 53, 54, 62, 63, 64, 68, 69, 70] [1, 3, 4, 10, 12, 53, 54, 62, 63, 64, 68, 69, 70] rfl (by kernel_rfl) (E5 G i2 j z bo) (endsG G).length mk_len ⟨0, by rw [show ((endsG G).take 0).contains z = false from rfl, Bool.or_false]; rfl, by omega, by omega⟩ ?_
        have em : met5 G (fromG G (i2 : Nat)) (j + 1) = (met5 G (fromG G (i2 : Nat)) j || (endsG G).contains z) := by
          obtain ⟨hj2, hz2⟩ := List.getElem?_eq_some_iff.1 hz
          unfold met5
          rw [List.take_succ_eq_append_getElem hj2, List.any_append, hz2]
          simp [Bool.or_assoc]
        rw [hbo] at em
        rintro m5 vs h5 ⟨k, rfl, rfl, hk⟩
        generalize hbk : (bo || ((endsG G).take k).contains z) = bk
        refine all_rule Try.Yok (loc := Try.Y.loc 5) 100 [1, 3, 4, 10, 12, 53, 54, 62, 63, 64, 68, 69, 70] ?_
        refine Eq.mpr (f5_10 (rowsV G) G.length none (ints (endsG G)) (endsG G).length none (rowsV ((loopsN G).map natI)) (loopsN G).length (i2 : Nat) none (ints (fromG G (i2 : Nat))) (fromG G (i2 : Nat)).length ((fromG G (i2 : Nat)).length : Nat) bk (j : Nat) z (k : Nat) h5 _) ?_
        refine if_lt_nat (fun hlt5 => ?_) (fun hge5 => ?_)
        · obtain ⟨e, he⟩ : ∃ e, (endsG G)[k]? = some e := ⟨_, List.getElem?_eq_getElem hlt5⟩
          refine ⟨⟨by omega, by omega⟩, e, ints_at he, if_mk (fun hb => ?_) (fun hb => ?_)⟩
          · refine ⟨rfl, (endsG G).length - (k + 1), by omega, k + 1, ?_, rfl, by omega⟩
            rw [contains_take he, ← Bool.or_assoc, hbk, hb, Bool.true_or, wrap_succ (by omega)]; rfl
          · refine ⟨rfl, (endsG G).length - (k + 1), by omega, k + 1, ?_, rfl, by omega⟩
            rw [contains_take he, ← Bool.or_assoc, hbk, hb, Bool.false_or, wrap_succ (by omega), show (z == e) = (e == z) from Bool.beq_comm]; rfl
        · have hke : k = (endsG G).length := by omega
          subst hke
          rw [List.take_length] at hbk
          simp only [RoundE]
          rw [if_pos (by kernel_rfl)]
          refine at_pick rfl ⟨rfl, [1, 3, 4, 10, 53, 54, 62, 63, 64], rfl, ?_⟩
          refine all_rule Try.Yok (loc := Try.Y.loc 5) 100 [1, 3, 4, 10, 53, 54, 62, 63, 64] ?_
          refine Eq.mpr (f5_11 (rowsV G) G.length none (ints (endsG G)) (endsG G).length none (rowsV ((loopsN G).map natI)) (loopsN G).length (i2 : Nat) none (ints (fromG G (i2 : Nat))) (fromG G (i2 : Nat)).length ((fromG G (i2 : Nat)).length : Nat) bk (j : Nat) h5 _) ?_
          refine ⟨rfl, (fromG G (i2 : Nat)).length - (j + 1), by omega, j + 1, ?_, rfl, by omega⟩
          rw [em, hbk, wrap_succ (by omega)]; rfl
      · have hje : j = (fromG G (i2 : Nat)).length := by omega
        subst hje
        refine at_pick rfl (roundW_exit [1, 3, 4, 10, 53, 54] (by kernel_rfl) rfl rfl ?_)
        refine all_rule Try.Yok (loc := Try.Y.loc 5) 100 [1, 2, 3, 4, 53, 54] ?_
        refine Eq.mpr (f5_12 (rowsV G) G.length none (ints (endsG G)) (endsG G).length none (rowsV ((loopsN G).map natI)) (loopsN G).length (i2 : Nat) bo h4 _) ?_
        have hmet : bo = true := by
          rw [← hbo]
          unfold met5
          rw [List.take_length]
          by_cases h0 : loopsN G = []
          · obtain ⟨n, h1, h2⟩ := end_from hm h0 hlt2
            rw [Bool.or_eq_true]
            exact .inr (List.any_eq_true.2 ⟨n, h1, by simpa using h2⟩)
          · rw [decide_eq_true (List.length_pos_iff.2 h0)]; rfl
        refine if_mk (fun hc => by rw [hmet] at hc; cases hc) (fun _ => ?_)
        refine ⟨rfl, [1, 3, 4, 53, 54], rfl, ?_⟩
        refine all_rule Try.Yok (loc := Try.Y.loc 5) 100 [1, 3, 4, 53, 54] ?_
        refine Eq.mpr (f5_13 (rowsV G) G.length none (ints (endsG G)) (endsG G).length none (rowsV ((loopsN G).map natI)) (loopsN G).length (i2 : Nat) h4 _) ?_
        exact ⟨rfl, G.length - (i2 + 1), by omega, i2 + 1, by rw [wrap_succ (by omega)]; rfl, rfl, by omega⟩
    · refine at_pick rfl (roundW_exit [] (by kernel_rfl) rfl rfl ?_)
      refine end_rule Try.Yok (loc := Try.Y.loc 5) 100 [2] ?_
      refine Eq.mpr (f5_14 h2 _) ?_
      exact finV1 (.inr rfl) rfl (.b _) rfl
end Go.Y

/- slices.Sort of this program: the library's contract, by its bodies (table printed by program). -/
namespace Go.Proofs
open Go.Shelf
def Try.lays189_ren : Go.Shelf.Ren := ⟨fun | 189 => 26 | 125 => 32 | 257 => 31 | 128 => 42 | 129 => 43 | 294 => 33 | 295 => 34 | 296 => 35 | 297 => 36 | 298 => 37 | 299 => 38 | 216 => 39 | 300 => 40 | 301 => 41 | 328 => 44 | 329 => 45 | 330 => 46 | 331 => 47 | 332 => 48 | 215 => 49 | 343 => 50 | n => n, fun | 28 => 26 | 3 => 3 | 46 => 57 | 0 => 0 | 51 => 67 | 53 => 69 | 4 => 4 | 183 => 60 | 182 => 59 | 131 => 43 | 5 => 5 | 9 => 9 | 218 => 70 | 222 => 74 | 228 => 77 | 229 => 78 | n => n, fun | n => n⟩
theorem Try.lays189 : Go.Proofs.Lays.n189 Try.prog Try.lays189_ren := {
  mixed := by kernel_rfl
  f125 := Try.func32.trans (congrArg some (by kernel_rfl))
  f128 := Try.func42.trans (congrArg some (by kernel_rfl))
  f129 := Try.func43.trans (congrArg some (by kernel_rfl))
  f189 := Try.func26.trans (congrArg some (by kernel_rfl))
  f215 := Try.func49.trans (congrArg some (by kernel_rfl))
  f216 := Try.func39.trans (congrArg some (by kernel_rfl))
  f257 := Try.func31.trans (congrArg some (by kernel_rfl))
  f294 := Try.func33.trans (congrArg some (by kernel_rfl))
  f295 := Try.func34.trans (congrArg some (by kernel_rfl))
  f296 := Try.func35.trans (congrArg some (by kernel_rfl))
  f297 := Try.func36.trans (congrArg some (by kernel_rfl))
  f298 := Try.func37.trans (congrArg some (by kernel_rfl))
  f299 := Try.func38.trans (congrArg some (by kernel_rfl))
  f300 := Try.func40.trans (congrArg some (by kernel_rfl))
  f301 := Try.func41.trans (congrArg some (by kernel_rfl))
  f328 := Try.func44.trans (congrArg some (by kernel_rfl))
  f329 := Try.func45.trans (congrArg some (by kernel_rfl))
  f330 := Try.func46.trans (congrArg some (by kernel_rfl))
  f331 := Try.func47.trans (congrArg some (by kernel_rfl))
  f332 := Try.func48.trans (congrArg some (by kernel_rfl))
  f343 := Try.func50.trans (congrArg some (by kernel_rfl))
  t0 := Try.underlying0
  a0 := Try.isAgg0
  z0 := Try.sizeOf0
  v0 := Try.zeroValue0
  t3 := Try.underlying3
  a3 := Try.isAgg3
  z3 := Try.sizeOf3
  v3 := Try.zeroValue3
  t4 := Try.underlying4
  a4 := Try.isAgg4
  z4 := Try.sizeOf4
  v4 := Try.zeroValue4
  t5 := Try.underlying5
  a5 := Try.isAgg5
  z5 := Try.sizeOf5
  v5 := Try.zeroValue5
  t9 := Try.underlying9
  a9 := Try.isAgg9
  z9 := Try.sizeOf9
  v9 := Try.zeroValue9
  t28 := Try.underlying26
  a28 := Try.isAgg26
  z28 := Try.sizeOf26
  v28 := Try.zeroValue26
  t46 := Try.underlying57
  a46 := Try.isAgg57
  z46 := Try.sizeOf57
  v46 := Try.zeroValue57
  t51 := Try.underlying67
  a51 := Try.isAgg67
  z51 := Try.sizeOf67
  v51 := Try.zeroValue67
  t53 := Try.underlying69
  a53 := Try.isAgg69
  z53 := Try.sizeOf69
  v53 := Try.zeroValue69
  t131 := Try.underlying43
  a131 := Try.isAgg43
  z131 := Try.sizeOf43
  v131 := Try.zeroValue43
  t182 := Try.underlying59
  a182 := Try.isAgg59
  z182 := Try.sizeOf59
  v182 := Try.zeroValue59
  t183 := Try.underlying60
  a183 := Try.isAgg60
  z183 := Try.sizeOf60
  v183 := Try.zeroValue60
  t218 := Try.underlying70
  a218 := Try.isAgg70
  z218 := Try.sizeOf70
  v218 := Try.zeroValue70
  t222 := Try.underlying74
  a222 := Try.isAgg74
  z222 := Try.sizeOf74
  v222 := Try.zeroValue74
  t228 := Try.underlying77
  a228 := Try.isAgg77
  z228 := Try.sizeOf77
  v228 := Try.zeroValue77
  t229 := Try.underlying78
  a229 := Try.isAgg78
  z229 := Try.sizeOf78
  v229 := Try.zeroValue78 }
end Go.Proofs
namespace Go.Y
open Go.Proofs
theorem sorts26 : SortSays Try.Y.P 26 := ⟨fun blk off cap zs w h1 h2 h3 => Any.slices_Sort_int Try.lays189 blk off cap zs w h1 h2 h3, fun w => Any.slices_Sort_int_none Try.lays189 none 0 w⟩
end Go.Y

/- Shapes of graphs that come in to the laws. -/
namespace Go.Proofs.Ytdoanndgjipbmaa
open Go.Y Go.RowKit
open Go.Proofs
set_option maxRecDepth 100000

theorem own : ownKnob Try.prog.godebug = none := by kernel_rfl
theorem laidOut : laidOutB Try.prog = true := by kernel_rfl
theorem shp3 {n : Nat} {vs : List V} (h : Shp Try.Y n 3 vs) : ∃ x : Int, vs = Go.Y.encI x := by
  obtain ⟨x, rfl, _⟩ := shp_int (show Try.Y.kd 3 = some (.int .i64) by kernel_rfl) h
  exact ⟨x, rfl⟩
theorem shp5 {n : Nat} {vs : List V} (h : Shp Try.Y n 5 vs) : ∃ x : Int, vs = [.i .u8 x] ∧ 0 ≤ x ∧ x ≤ 255 := by
  obtain ⟨x, rfl, hw⟩ := shp_int (show Try.Y.kd 5 = some (.int .u8) by kernel_rfl) h
  refine ⟨x, rfl, ?_⟩
  simp only [Lit.wf, Bool.and_eq_true, decide_eq_true_eq] at hw
  have h1 : IntKind.u8.min = 0 := rfl
  have h2 : IntKind.u8.max = 255 := rfl
  omega
theorem flat_one {α : Type} (f : α → V) : ∀ l : List α, (l.map fun x => [f x]).flatten = l.map f
  | [] => rfl
  | x :: l => by simp [flat_one f l]
theorem shp26 {n : Nat} {vs : List V} (h : Shp Try.Y n 26 vs) : ∃ l : {l : List Int // l.length ≤ 2 ^ 63 - 1}, vs = [encR l.1] := by
  obtain ⟨m, es, rfl, rfl, h, hlen⟩ := shp_slice (show Try.Y.kd 26 = some (.slice 3) by kernel_rfl) h
  obtain ⟨l, hl⟩ := list_of (f := Go.Y.encI) fun x hx => shp3 (h x hx)
  have e : es = l.map Go.Y.encI := by simpa using hl
  subst e
  refine ⟨⟨l, by simpa [maxLen] using hlen⟩, ?_⟩
  simp only [encR, List.length_map]
  congr 2
  exact flat_one (V.i .i64) l
theorem shp22 {n : Nat} {vs : List V} (h : Shp Try.Y n 22 vs) : ∃ l : List (List Int), vs = [.ts (rowsV l) l.length none] ∧ ∀ r ∈ l, r.length ≤ 2 ^ 63 - 1 := by
  obtain ⟨m, es, rfl, rfl, h, _⟩ := shp_slice (show Try.Y.kd 22 = some (.slice 26) by kernel_rfl) h
  obtain ⟨l, hl⟩ := list_of (f := fun x : {l : List Int // l.length ≤ 2 ^ 63 - 1} => [encR x.1]) fun x hx => shp26 (h x hx)
  have e : es = l.map fun x => [encR x.1] := by simpa using hl
  subst e
  refine ⟨l.map (·.1), ?_, fun r hr => ?_⟩
  · simp only [List.length_map, rowsV, List.map_map]
    congr 2
    exact flat_one (fun x : {l : List Int // l.length ≤ 2 ^ 63 - 1} => encR x.1) l
  · obtain ⟨x, _, rfl⟩ := List.mem_map.1 hr
    exact x.2
theorem shp24 {n : Nat} {vs : List V} (h : Shp Try.Y n 24 vs) : ∃ l : List (List Int), vs = [.ts (rowsV l) l.length none] ∧ ∀ r ∈ l, r.length ≤ 2 ^ 63 - 1 := by
  obtain ⟨m, rfl, h⟩ := shp_struct (show Try.Y.kd 24 = some (.struct [(0, 22)]) by kernel_rfl) h
  obtain ⟨a0, r0, rfl, h0, rfl⟩ := h
  obtain ⟨b0, rfl, hb⟩ := shp22 h0
  exact ⟨b0, rfl, hb⟩
theorem shp24a {n : Nat} {vs : List V} (h : Shp Try.Y n 24 vs) : ∃ l : List (List Int), vs = [.ts (rowsV l) l.length none] := by
  obtain ⟨l, h, _⟩ := shp24 h
  exact ⟨l, h⟩
theorem served3 : ∀ n, servedB Try.Y n 3 = true
  | 0 => by kernel_rfl
  | n + 1 => by kernel_rfl
theorem served5 : ∀ n, servedB Try.Y n 5 = true
  | 0 => by kernel_rfl
  | n + 1 => by kernel_rfl
theorem served24 : ∀ n, servedB Try.Y n 24 = true
  | 0 => by kernel_rfl
  | 1 => by kernel_rfl
  | 2 => by kernel_rfl
  | 3 => by kernel_rfl
  | n + 4 => by kernel_rfl
end Go.Proofs.Ytdoanndgjipbmaa
