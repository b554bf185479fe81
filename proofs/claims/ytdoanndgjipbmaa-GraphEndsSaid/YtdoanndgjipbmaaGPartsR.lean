/- The reference's Parts. -/
import Derived.Test.YtdoanndgjipbmaaGParts
import Derived.Test.YtdoanndgjipbmaaGMayR
namespace Go.Y
open Go.Proofs Tar
set_option maxRecDepth 100000

theorem place_last : ∀ {ks : List Nat} {p : Nat}, p ∉ ks → place (ks ++ [p]) p = ks.length
  | [], p, _ => by simp [place]
  | k :: r, p, h => by
    simp only [List.cons_append, place, List.length_cons]
    rw [if_neg (fun e => h (by simp [e])), place_last fun hm => h (by simp [hm])]

noncomputable def repsG (G : List (List Int)) : List Nat := (List.range G.length).map (repG G)
theorem repsG_get {G : List (List Int)} {i : Nat} (hi : i < G.length) : (repsG G)[i]? = some (repG G i) := by simp [repsG, hi]
theorem partsN_length (G : List (List Int)) : (partsN G).length = G.length := by simp [partsN, renum_length]
theorem partsN_mut {G : List (List Int)} {u v : Nat} (hu : u < G.length) (hv : v < G.length) : (partsN G)[u]? = (partsN G)[v]? ↔ Mut (sucI G) u v := by
  have key : ∀ {w : Nat}, w < G.length → (partsN G)[w]? = some (place (cameK [] (repsG G)) (repG G w)) := fun {w} hw => by
    show (renum [] (repsG G))[w]? = _
    rw [renum_map, List.getElem?_map, repsG_get hw]; rfl
  rw [key hu, key hv]
  simp only [Option.some.injEq]
  constructor
  · intro h
    exact repG_eq.1 (place_inj (cameK_has (List.mem_of_getElem? (repsG_get hu))) (cameK_has (List.mem_of_getElem? (repsG_get hv))) h)
  · intro h
    rw [repG_eq.2 h]
theorem partsN_new {G : List (List Int)} {i : Nat} (hi : i < G.length) (hn : ∀ k, k < i → ¬ Mut (sucI G) k i) : (partsN G)[i]? = some (cameK [] ((repsG G).take i)).length ∧ (cameK [] ((repsG G).take (i + 1))).length = (cameK [] ((repsG G).take i)).length + 1 := by
  obtain ⟨h1, h2⟩ := renum_step (repsG_get hi)
  have hnot : repG G i ∉ cameK [] ((repsG G).take i) := fun hm => by
    rcases cameK_only hm with hm | hm
    · cases hm
    · obtain ⟨j, hj, e⟩ := List.mem_iff_getElem.1 hm
      have hji : j < i := by simp at hj; omega
      simp only [List.getElem_take, repsG, List.getElem_map, List.getElem_range] at e
      exact hn j hji (repG_eq.1 e)
  rw [if_neg hnot] at h2
  refine ⟨?_, by rw [h2]; simp⟩
  have h1 : (partsN G)[i]? = _ := h1
  rw [h1, h2, place_last hnot]
theorem partsN_old {G : List (List Int)} {i k : Nat} (hi : i < G.length) (hk : k < i) (hm : Mut (sucI G) k i) : cameK [] ((repsG G).take (i + 1)) = cameK [] ((repsG G).take i) := by
  obtain ⟨_, h2⟩ := renum_step (repsG_get hi)
  rw [if_pos] at h2
  · exact h2
  · refine cameK_has ?_
    rw [← repG_eq.2 hm]
    have hg := repsG_get (G := G) (i := k) (by omega)
    refine List.mem_of_getElem? (i := k) ?_
    rw [List.getElem?_take, if_pos hk]; exact hg

theorem fromG_has {G : List (List Int)} (hm : mayG G = true) {i k : Nat} (hi : i < G.length) (hk : k < G.length) : (fromG G (i : Nat)).contains ((k : Nat) : Int) = true ↔ Tar.Reach (sucI G) i k := by
  unfold fromG
  rw [if_pos ⟨hm, by omega, by omega⟩]
  simp only [List.contains_iff_mem, List.mem_map, List.mem_filter, List.mem_range, decide_eq_true_eq, Int.toNat_natCast]
  constructor
  · rintro ⟨x, ⟨_, h⟩, e⟩
    have : x = k := by have : ((x : Nat) : Int) = k := e; omega
    rw [← this]; exact h
  · intro h; exact ⟨k, ⟨hk, h⟩, rfl⟩
theorem fromG_length (G : List (List Int)) (x : Int) : (fromG G x).length ≤ G.length := by
  unfold fromG
  split
  · rw [List.length_map]
    exact Nat.le_trans (List.length_filter_le _ _) (by simp)
  · simp

/-- What each node leads to. -/
noncomputable def fromsG (G : List (List Int)) : List (List Int) := (List.range G.length).map fun i => fromG G (i : Nat)
theorem fromsG_get {G : List (List Int)} {i : Nat} (hi : i < G.length) : (fromsG G)[i]? = some (fromG G (i : Nat)) := by simp [fromsG, hi]
theorem fromsG_length (G : List (List Int)) : (fromsG G).length = G.length := by simp [fromsG]

theorem isl_len {h : Heap} {a : Option (Nat × Nat)} {l : Nat} {c : Option Nat} {kk : Nat} {cs : List V} (o : IsL h 1 a l c kk cs) : l = cs.length := by have := o.1; omega
/-- An element of a list that is being built. -/
theorem isl_at {h : Heap} {a : Option (Nat × Nat)} {l : Nat} {c : Option Nat} {kk : Nat} {cs : List V} (o : IsL h 1 a l c kk cs) {i : Nat} {v : V} (hv : cs[i]? = some v) {p : Prop} {q : Nat → Nat → Prop}
    (hq : ∀ id, kk = 1 → hcells h id (0 + ((i : Nat) : Int).toNat * 1) 1 = some [v] → q id 0) : SlO a p q := by
  have hi := (List.getElem?_eq_some_iff.1 hv).1
  rcases o.2 with ⟨rfl, h0, h1⟩ | ⟨id, rfl, rfl, rfl, h3, h4⟩
  · rw [h1] at hi; simp at hi
  · exact hq id rfl (by rw [at1]; exact hcells_at h4 hv)

theorem rows_app {h : Heap} {a : Option (Nat × Nat)} {l : Nat} {c : Option Nat} {kk : Nat} {out : List (List Int)} (x : List Int) (o : IsL h 1 a l c kk (rowsV out)) (hb : out.length < 2 ^ 29) :
    ∃ a' l' c' k' h', appendH Try.Y h 22 22 (.sl a l c kk) (.ts [encR x] 1 (some 1)) = some (.sl a' l' c' k', h') ∧ IsL h' 1 a' l' c' k' (rowsV (out ++ [x])) ∧ Fr h a h' ∧ l' = l + 1 ∧ ∃ j, a' = some (j, 0) ∧ h.nx ≤ j := by
  have e : rowsV (out ++ [x]) = rowsV out ++ [encR x] := by simp [rowsV]
  have hl := isl_len o
  have hm : most = 1099511627776 := by decide
  simp only [rowsV, List.length_map] at hl
  rw [e]
  exact append_ts (Y := Try.Y) (e := 26) (te := ⟨1, 24, .slice 3, [.sl none 0 (some 0) 0]⟩) (m := 1) (by kernel_rfl) (by kernel_rfl) rfl (by decide) o (by decide) rfl rfl (by show (l + 1) * 24 ≤ _; rw [hm]; omega) (by rw [hm]; omega)

theorem Lst.isl {α : Type} {f : α → List V} {k : Nat} {h : Heap} {a : Option (Nat × Nat)} {l : Nat} {c : Option Nat} {kk : Nat} {out : List α} (o : Lst f k h a l c kk out) : ∃ cells, IsL h k a l c kk cells ∧ colds1 cells = true ∧ FrzL .empty cells (row f out) := o.cells

def A11 (G : List (List Int)) (m : Nat) (vs : List V) (h : Heap) : Prop :=
  ∃ (a3 : Option (Nat × Nat)) (l3 : Nat) (c3 : Option Nat) (k3 i : Nat), vs = [gBox G, .sl a3 l3 c3 k3, .i .i64 (i : Nat)] ∧ m = G.length - i ∧ i ≤ G.length ∧ IsL h 1 a3 l3 c3 k3 (rowsV ((fromsG G).take i))

structure B11 (G : List (List Int)) (a3 : Option (Nat × Nat)) (l3 : Nat) (c3 : Option Nat) (k3 : Nat) (a5 : Option (Nat × Nat)) (l5 : Nat) (c5 : Option Nat) (k5 : Nat) (i : Nat) (h : Heap) : Prop where
  f : IsL h 1 a3 l3 c3 k3 (rowsV (fromsG G))
  o : IsL h 1 a5 l5 c5 k5 (nums ((partsN G).take i))
  ne : ∀ j, a3 = some (j, 0) → a5 ≠ some (j, 0)
def J11 (G : List (List Int)) (a3 : Option (Nat × Nat)) (l3 : Nat) (c3 : Option Nat) (k3 : Nat) (m : Nat) (vs : List V) (h : Heap) : Prop :=
  ∃ (a5 : Option (Nat × Nat)) (l5 : Nat) (c5 : Option Nat) (k5 i : Nat), vs = [gBox G, .sl a3 l3 c3 k3, .sl a5 l5 c5 k5, .i .i64 ((cameK [] ((repsG G).take i)).length : Nat), .i .i64 (i : Nat)] ∧ m = G.length - i ∧ i ≤ G.length ∧ B11 G a3 l3 c3 k3 a5 l5 c5 k5 i h
def K11 (G : List (List Int)) (a3 : Option (Nat × Nat)) (l3 : Nat) (c3 : Option Nat) (k3 : Nat) (a5 : Option (Nat × Nat)) (l5 : Nat) (c5 : Option Nat) (k5 : Nat) (i : Nat) (m : Nat) (vs : List V) (h : Heap) : Prop :=
  ∃ (k : Nat) (part : Int), vs = [gBox G, .sl a3 l3 c3 k3, .sl a5 l5 c5 k5, .i .i64 ((cameK [] ((repsG G).take i)).length : Nat), .i .i64 (i : Nat), .i .i64 part, .i .i64 (k : Nat)] ∧ m = i - k ∧ k ≤ i ∧ B11 G a3 l3 c3 k3 a5 l5 c5 k5 i h ∧
    ((part = -1 ∧ ∀ j, j < k → ¬ Mut (sucI G) j i) ∨ ∃ p : Nat, part = (p : Nat) ∧ (partsN G)[i]? = some p ∧ ∃ j, j < i ∧ Mut (sucI G) j i)

theorem num_app {h : Heap} {a : Option (Nat × Nat)} {l : Nat} {c : Option Nat} {kk : Nat} {out : List Nat} (x : Nat) (o : IsL h 1 a l c kk (nums out)) (hb : out.length < 2 ^ 29) :
    ∃ a' l' c' k' h', appendH Try.Y h 26 26 (.sl a l c kk) (.ts [.i .i64 (x : Nat)] 1 (some 1)) = some (.sl a' l' c' k', h') ∧ IsL h' 1 a' l' c' k' (nums (out ++ [x])) ∧ Fr h a h' ∧ l' = l + 1 ∧ ∃ j, a' = some (j, 0) ∧ h.nx ≤ j := by
  have e : nums (out ++ [x]) = nums out ++ [.i .i64 (x : Nat)] := by simp [nums]
  have hl := isl_len o
  have hm : most = 1099511627776 := by decide
  simp only [nums, List.length_map] at hl
  rw [e]
  exact append_ts (Y := Try.Y) (e := 3) (te := ⟨1, 8, .int .i64, [.i .i64 0]⟩) (m := 1) (by kernel_rfl) (by kernel_rfl) rfl (by decide) o (by decide) rfl rfl (by show (l + 1) * 8 ≤ _; rw [hm]; omega) (by rw [hm]; omega)

theorem came_le (l : List Nat) : ∀ ks, (cameK ks l).length ≤ ks.length + l.length := by
  induction l with
  | nil => intro ks; simp [cameK]
  | cons p r ih =>
    intro ks
    simp only [cameK, List.length_cons]
    refine Nat.le_trans (ih _) ?_
    split <;> simp <;> omega

theorem rparts_con {G : List (List Int)} (hG : G.length < 2 ^ 28) (hl : ∀ l ∈ G, l.length < 2 ^ 28) : PCon Try.Y 11 [encG G] (· = encR (partsG G)) := by
  refine pcon_of Try.Yok (fn := Try.f11) (by kernel_rfl) (by kernel_rfl) rfl ?_
  refine pre_rule Try.Yok (n := 66) (loc := Try.Y.loc 11) 100 [1, 2, 3, 4] (by kernel_rfl) ?_
  refine Eq.mpr (f11_0 (rowsV G) G.length .empty _) ?_
  refine ⟨_, rmay_con (by omega) (fun l hh => by have := hl l hh; omega), if_mk (fun hc => ?_) (fun hc => ?_)⟩
  · have hm : mayG G = false := by simpa using hc
    refine fin_at (.inr rfl) rfl ⟨_, frz_nil encI _ _ _, ?_⟩
    rw [lst_encI]; simp [partsG, hm]
  have hm : mayG G = true := by simpa using hc
  refine ⟨rfl, loop2 [1, 3, 4] [1, 3, 4] rfl (by kernel_rfl) (A11 G) G.length mk_len ⟨none, 0, some 0, 0, 0, rfl, by omega, by omega, by simp [rowsV, IsL]⟩ ?_⟩
  rintro m vs h ⟨a3, l3, c3, k3, i, rfl, rfl, hi, o3⟩
  refine all_rule Try.Yok (loc := Try.Y.loc 11) 100 [1, 3, 4] ?_
  refine Eq.mpr (f11_1 (rowsV G) G.length a3 l3 c3 k3 (i : Nat) h _) ?_
  refine if_lt_nat (fun hlt => ?_) (fun hge => ?_)
  · have hf := rfrom_con (G := G) (at_ := (i : Nat)) (by omega) (fun l hh => by have := hl l hh; omega)
    obtain ⟨a', l', c', k', h', q1, q2, _, _, _⟩ := rows_app (fromG G (i : Nat)) o3 (by simp; omega)
    refine ⟨_, _, _, hf, a', l', c', k', h', q1, rfl, G.length - (i + 1), by omega, a', l', c', k', i + 1, by rw [wrap_succ (by omega)]; rfl, rfl, by omega, ?_⟩
    rw [List.take_succ_eq_append_getElem (by rw [fromsG_length]; exact hlt)]
    have e : (fromsG G)[i]'(by rw [fromsG_length]; exact hlt) = fromG G (i : Nat) := by simp [fromsG]
    rw [e]; exact q2
  have hi2 : i = G.length := by omega
  subst hi2
  rw [List.take_of_length_le (by rw [fromsG_length]; exact Nat.le_refl _)] at o3
  refine roundW_exit [1, 3] (by kernel_rfl) rfl rfl ?_
  refine pre_rule Try.Yok (n := 66) (loc := Try.Y.loc 11) 100 [1, 3, 5, 6, 7] (by kernel_rfl) ?_
  refine Eq.mpr (f11_2 (rowsV G) G.length a3 l3 c3 k3 h _) ?_
  refine ⟨rfl, loop2 [1, 3, 5, 6, 7] [1, 3, 5, 6, 7] rfl (by kernel_rfl) (J11 G a3 l3 c3 k3) G.length mk_len ⟨none, 0, some 0, 0, 0, rfl, by omega, by omega, o3, by simp [nums, IsL], fun j _ e => by cases e⟩ ?_⟩
  rintro m2 vs h2 ⟨a5, l5, c5, k5, i, rfl, rfl, hi, b⟩
  refine pre_rule Try.Yok (n := 66) (loc := Try.Y.loc 11) 100 [1, 3, 5, 6, 7] (by kernel_rfl) ?_
  refine Eq.mpr (f11_3 (rowsV G) G.length a3 l3 c3 k3 a5 l5 c5 k5 ((cameK [] ((repsG G).take i)).length : Nat) (i : Nat) h2 _) ?_
  refine if_lt_nat (fun hlt => ?_) (fun hge => ?_)
  · refine ⟨rfl, block2 (n := 66) [1, 3, 5, 6, 7] (by kernel_rfl) ?_⟩
    refine pre_rule Try.Yok (n := 66) (loc := Try.Y.loc 11) 100 [1, 3, 5, 6, 7, 8, 9] (by kernel_rfl) ?_
    refine Eq.mpr (f11_4 (rowsV G) G.length a3 l3 c3 k3 a5 l5 c5 k5 ((cameK [] ((repsG G).take i)).length : Nat) (i : Nat) h2 _) ?_
    refine ⟨rfl, loop2 [1, 3, 5, 6, 7, 8, 9] [1, 3, 5, 6, 7, 8, 9] rfl (by kernel_rfl) (K11 G a3 l3 c3 k3 a5 l5 c5 k5 i) i mk_len ⟨0, -1, rfl, by omega, by omega, b, .inl ⟨rfl, fun j hj => absurd hj (Nat.not_lt_zero _)⟩⟩ ?_⟩
    rintro m3 vs h3 ⟨k, part, rfl, rfl, hk, b3, hp⟩
    refine all_rule Try.Yok (loc := Try.Y.loc 11) 100 [1, 3, 5, 6, 7, 8, 9] ?_
    refine Eq.mpr (f11_5 (rowsV G) G.length a3 l3 c3 k3 a5 l5 c5 k5 ((cameK [] ((repsG G).take i)).length : Nat) (i : Nat) part (k : Nat) h3 _) ?_
    have hl3 : l3 = G.length := by have := isl_len b3.f; simpa [rowsV, fromsG_length] using this
    have hl5 : l5 = i := by have := isl_len b3.o; simp [nums, partsN_length] at this; omega
    have row : ∀ {j : Nat}, j < G.length → (rowsV (fromsG G))[j]? = some (encR (fromG G (j : Nat))) := fun {j} hj => by
      rw [rowsV, List.getElem?_map, fromsG_get hj]; rfl
    refine if_lt_nat (fun hki => ?_) (fun hki => ?_)
    · have go : ∀ (part' : Int), ((part' = -1 ∧ ∀ j, j < k + 1 → ¬ Mut (sucI G) j i) ∨ ∃ p : Nat, part' = (p : Nat) ∧ (partsN G)[i]? = some p ∧ ∃ j, j < i ∧ Mut (sucI G) j i) →
          ∃ m', m' < i - k ∧ K11 G a3 l3 c3 k3 a5 l5 c5 k5 i m' [gBox G, .sl a3 l3 c3 k3, .sl a5 l5 c5 k5, .i .i64 ((cameK [] ((repsG G).take i)).length : Nat), .i .i64 (i : Nat), .i .i64 part', .i .i64 (IntKind.i64.wrap ((k : Nat) + 1))] h3 := fun part' hp' =>
        ⟨i - (k + 1), by omega, k + 1, part', by rw [wrap_succ (by omega)], rfl, by omega, b3, hp'⟩
      have hfl : ∀ x : Int, (fromG G x).length < 2 ^ 30 := fun x => by have := fromG_length G x; omega
      refine isl_at b3.f (row hlt) fun id e1 hc => ⟨⟨by omega, by omega⟩, e1, _, _, _, hc, _, has_con (hfl _), if_mk (fun g1 => ?_) (fun g1 => ?_)⟩
      · refine isl_at b3.f (row (by omega)) fun id e1 hc => ⟨⟨by omega, by omega⟩, e1, _, _, _, hc, _, has_con (hfl _), if_mk (fun g2 => ?_) (fun g2 => ?_)⟩
        · have hmut : Mut (sucI G) k i := ⟨(fromG_has hm (by omega) (by omega)).1 g2, (fromG_has hm (by omega) (by omega)).1 g1⟩
          have hpe := (partsN_mut (G := G) (by omega) (by omega)).2 hmut
          obtain ⟨p, hpk⟩ : ∃ p, (partsN G)[k]? = some p := ⟨_, List.getElem?_eq_getElem (by rw [partsN_length]; omega)⟩
          have hnk : (nums ((partsN G).take i))[k]? = some (.i .i64 ((p : Nat) : Int)) := by
            simp only [nums, List.getElem?_map, List.getElem?_take, if_pos hki, hpk]; rfl
          refine isl_at b3.o hnk fun id e1 hc => ⟨⟨by omega, by omega⟩, e1, _, hc, ?_⟩
          exact ⟨rfl, go _ (.inr ⟨p, rfl, by rw [← hpe]; exact hpk, k, hki, hmut⟩)⟩
        · refine ⟨rfl, go _ ?_⟩
          rcases hp with ⟨e, hn⟩ | hp
          · refine .inl ⟨e, fun j hj hmj => ?_⟩
            rcases Nat.lt_succ_iff_lt_or_eq.1 hj with hj | rfl
            · exact hn j hj hmj
            · rw [(fromG_has hm (by omega) (by omega)).2 hmj.1] at g2; cases g2
          · exact .inr hp
      · refine ⟨rfl, go _ ?_⟩
        rcases hp with ⟨e, hn⟩ | hp
        · refine .inl ⟨e, fun j hj hmj => ?_⟩
          rcases Nat.lt_succ_iff_lt_or_eq.1 hj with hj | rfl
          · exact hn j hj hmj
          · rw [(fromG_has hm (by omega) (by omega)).2 hmj.2] at g1; cases g1
        · exact .inr hp
    · have hki2 : k = i := by omega
      subst hki2
      refine roundW_exit [1, 3, 5, 6, 7, 8] (by kernel_rfl) rfl rfl ?_
      refine all_rule Try.Yok (loc := Try.Y.loc 11) 100 [1, 3, 5, 6, 7] ?_
      refine Eq.mpr (f11_6 (rowsV G) G.length a3 l3 c3 k3 a5 l5 c5 k5 ((cameK [] ((repsG G).take k)).length : Nat) (k : Nat) part h3 _) ?_
      have hcl : (cameK [] ((repsG G).take k)).length ≤ k := Nat.le_trans (came_le _ _) (by simp; omega)
      obtain ⟨p, hpk⟩ : ∃ p, (partsN G)[k]? = some p := ⟨_, List.getElem?_eq_getElem (by rw [partsN_length]; omega)⟩
      have htk : (partsN G).take (k + 1) = (partsN G).take k ++ [p] := by
        obtain ⟨h1, h2⟩ := List.getElem?_eq_some_iff.1 hpk
        rw [List.take_succ_eq_append_getElem h1, h2]
      obtain ⟨a', l', c', k', h', q1, q2, q3, q4, j, q5, q6⟩ := num_app p b3.o (by simp; omega)
      have fin : ∀ x6 : Int, x6 = (cameK [] ((repsG G).take (k + 1))).length → ContW Try.Y 66 [1, 3, 5, 6, 7] (blockId (post (flat (loopB (post ((post (flat (bodyOf Try.f11))).drop 1)))))) ((post (flat (loopB (post ((post (flat (bodyOf Try.f11))).drop 1))))).drop 1)
          (VQ [1, 3, 5, 6, 7] (RoundW Try.Y 66 [1, 3, 5, 6, 7] [1, 3, 5, 6, 7] (J11 G a3 l3 c3 k3) (G.length - k) (loopId (post ((post (flat (bodyOf Try.f11))).drop 1))) ((post ((post (flat (bodyOf Try.f11))).drop 1)).drop 1) (FinS Try.Y Try.f11 fun v h => ∃ r, Frz h v r ∧ r = encR (partsG G)))) .normal 66
          [gBox G, .sl a3 l3 c3 k3, .sl a' l' c' k', .i .i64 x6, .i .i64 (k : Nat)] h' := fun x6 e6 => by
        refine ⟨rfl, [1, 3, 5, 6, 7], rfl, ?_⟩
        refine all_rule Try.Yok (loc := Try.Y.loc 11) 100 [1, 3, 5, 6, 7] ?_
        refine Eq.mpr (f11_7 (rowsV G) G.length a3 l3 c3 k3 (k : Nat) a' l' c' k' x6 h' _) ?_
        refine ⟨rfl, G.length - (k + 1), by omega, a', l', c', k', k + 1, by rw [wrap_succ (by omega), e6]; rfl, rfl, by omega, ?_, by rw [htk]; exact q2, fun j' e e' => ?_⟩
        · refine b3.f.fr q3.1 fun j' e hlt' => q3.2 j' hlt' fun o' e' => ?_
          have ho : o' = 0 := by
            rcases b3.o.2 with hx | ⟨id2, hx, _⟩
            · rw [hx.1] at e'; cases e'
            · rw [hx] at e'; cases e'; rfl
          subst ho
          exact b3.ne j' e e'
        · rw [q5] at e'; cases e'
          rcases b3.f.2 with hx | ⟨id2, hx, _, _, hx4, _⟩
          · rw [hx.1] at e; cases e
          · rw [hx] at e; cases e; omega
      rcases hp with ⟨rfl, hn⟩ | ⟨p', rfl, hp2, j', hj', hmj⟩
      · obtain ⟨e1, e2⟩ := partsN_new hlt hn
        rw [hpk] at e1; cases e1
        refine if_mk (fun _ => ?_) (fun hc => by simp [ltI] at hc)
        refine ⟨a', l', c', k', h', q1, ?_⟩
        exact fin _ (by rw [wrap_succ (by omega), e2])
      · rw [hpk] at hp2; cases hp2
        refine if_mk (fun hc => by simp [ltI] at hc; omega) (fun _ => ?_)
        refine ⟨a', l', c', k', h', q1, ?_⟩
        exact fin _ (by rw [partsN_old hlt hj' hmj])
  · have hi3 : i = G.length := by omega
    subst hi3
    refine at_pick rfl (roundW_exit [5] (by kernel_rfl) rfl rfl ?_)
    refine end_rule Try.Yok (loc := Try.Y.loc 11) 100 [2] ?_
    refine Eq.mpr (f11_8 a5 l5 c5 k5 h2 _) ?_
    have ho := b.o
    rw [List.take_of_length_le (by rw [partsN_length]; exact Nat.le_refl _)] at ho
    have e : nums (partsN G) = row encI ((partsN G).map Int.ofNat) := by rw [row_encI]; simp [nums, ints]
    rw [e] at ho
    refine finV1 (.inr rfl) rfl (frz_isL (f := encI) (fun _ => rfl) (by decide) (fun _ => rfl) ho) ?_
    rw [lst_encI]; simp [partsG, hm]
end Go.Y
