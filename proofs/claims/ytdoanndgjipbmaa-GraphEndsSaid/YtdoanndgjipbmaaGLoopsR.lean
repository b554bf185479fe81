/- The reference's Loops. -/
import Derived.Test.YtdoanndgjipbmaaGNest
namespace Go.Y
open Go.Proofs Tar
set_option maxRecDepth 100000

noncomputable def loopsTo (G : List (List Int)) (i : Nat) : List (List Nat) := ((List.range i).map (groupN (partsN G))).filter (keepG G)
theorem loopsTo_succ (G : List (List Int)) (i : Nat) : loopsTo G (i + 1) = if keepG G (groupN (partsN G) i) then loopsTo G i ++ [groupN (partsN G) i] else loopsTo G i := by
  unfold loopsTo
  rw [List.range_succ, List.map_append, List.filter_append]
  simp only [List.map_cons, List.map_nil, List.filter_cons, List.filter_nil]
  split
  · rfl
  · rw [List.append_nil]
theorem loopsTo_len (G : List (List Int)) (i : Nat) : (loopsTo G i).length ≤ i := by
  unfold loopsTo
  exact Nat.le_trans (List.length_filter_le _ _) (by simp)

/-- The list of loops, in memory. -/
structure LoopsL (G : List (List Int)) (i : Nat) (h : Heap) (a : Option (Nat × Nat)) (l : Nat) (c : Option Nat) (k : Nat) : Prop where
  ex : ∃ cells, IsL h 1 a l c k cells ∧ Nest h cells (loopsTo G i) ∧ ∀ (p j n : Nat), cells[p]? = some (V.sl (some (j, 0)) n none 1) → a ≠ some (j, 0)

/-- The parts of any graph; if it may not be, there are none. -/
noncomputable def partsM (G : List (List Int)) : List Nat := if mayG G then partsN G else []
theorem partsM_enc (G : List (List Int)) : encR (partsG G) = .ts (nums (partsM G)) (partsM G).length none := by
  unfold partsG partsM
  split
  · simp [encR, ints, nums]
  · rfl

def A14 (G : List (List Int)) (m : Nat) (vs : List V) (h : Heap) : Prop :=
  ∃ (a3 : Option (Nat × Nat)) (l3 : Nat) (c3 : Option Nat) (k3 i : Nat), vs = [gBox G, .sl a3 l3 c3 k3, .ts (nums (partsN G)) (partsN G).length none, .i .i64 (i : Nat)] ∧ m = G.length - i ∧ i ≤ G.length ∧ LoopsL G i h a3 l3 c3 k3
def B14 (G : List (List Int)) (h0 : Heap) (a3 : Option (Nat × Nat)) (l3 : Nat) (c3 : Option Nat) (k3 p : Nat) (m : Nat) (vs : List V) (h : Heap) : Prop :=
  ∃ (a6 : Option (Nat × Nat)) (l6 : Nat) (c6 : Option Nat) (k6 i : Nat), vs = [gBox G, .sl a3 l3 c3 k3, .ts (nums (partsN G)) (partsN G).length none, .i .i64 (p : Nat), .sl a6 l6 c6 k6, .b ((groupTo (partsN G) p i).any (selfG G)), .i .i64 (i : Nat)] ∧ m = G.length - i ∧ i ≤ G.length ∧ NewL h0 h a6 l6 c6 k6 (groupTo (partsN G) p i)

theorem rloops_con {G : List (List Int)} (hG : G.length < 2 ^ 28) (hl : ∀ l ∈ G, l.length < 2 ^ 28) : PCon Try.Y 14 [encG G] (· = .ts (rowsV ((loopsN G).map natI)) (loopsN G).length none) := by
  refine pcon_of Try.Yok (fn := Try.f14) (by kernel_rfl) (by kernel_rfl) rfl ?_
  refine pre_rule Try.Yok (n := 54) (loc := Try.Y.loc 14) 100 [1, 3, 4, 5] (by kernel_rfl) ?_
  refine Eq.mpr (f14_0 (rowsV G) G.length .empty _) ?_
  have hp := rparts_con hG hl
  rw [partsM_enc] at hp
  refine ⟨_, _, _, hp, ?_⟩
  by_cases hm : mayG G = true
  case neg =>
    have hm : mayG G = false := by simpa using hm
    have hM : partsM G = [] := by simp [partsM, hm]
    rw [hM]
    refine ⟨rfl, loop2 [1, 3, 4, 5] [1, 3, 4, 5] rfl (by kernel_rfl) (fun m vs h => vs = [gBox G, .sl none 0 (some 0) 0, .ts [] 0 none, .i .i64 (0 : Int)]) 0 mk_len rfl ?_⟩
    rintro m vs h rfl
    refine pre_rule Try.Yok (n := 54) (loc := Try.Y.loc 14) 100 [1, 3, 4, 5] (by kernel_rfl) ?_
    refine Eq.mpr (f14_1 (rowsV G) G.length none [] 0 none 0 (some 0) 0 0 h _) ?_
    refine if_mk (fun hc => by simp [ltI] at hc) (fun _ => ?_)
    refine at_pick rfl (roundW_exit [3] (by kernel_rfl) rfl rfl ?_)
    refine end_rule Try.Yok (loc := Try.Y.loc 14) 100 [2] ?_
    refine Eq.mpr (f14_6 none 0 (some 0) 0 h _) ?_
    refine finV1 (.inr rfl) rfl (.sln _ _ none (fun x hx => by cases hx)) ?_
    simp [loopsN, hm, rowsV]
  have hM : partsM G = partsN G := by simp [partsM, hm]
  rw [hM]
  have hpl := partsN_length G
  refine ⟨rfl, loop2 [1, 3, 4, 5] [1, 3, 4, 5] rfl (by kernel_rfl) (A14 G) G.length mk_len ⟨none, 0, some 0, 0, 0, rfl, by omega, by omega, ⟨[], by simp [IsL], Nest.nil _, fun p j n e => by simp at e⟩⟩ ?_⟩
  rintro m vs h ⟨a3, l3, c3, k3, p, rfl, rfl, hpi, ⟨cells, o3, nst, dst⟩⟩
  refine pre_rule Try.Yok (n := 54) (loc := Try.Y.loc 14) 100 [1, 3, 4, 5] (by kernel_rfl) ?_
  refine Eq.mpr (f14_1 (rowsV G) G.length none (nums (partsN G)) (partsN G).length a3 l3 c3 k3 (p : Nat) h _) ?_
  refine if_lt_nat (fun hlt => ?_) (fun hge => ?_)
  · refine ⟨rfl, block2 (n := 54) [1, 3, 4, 5] (by kernel_rfl) ?_⟩
    refine pre_rule Try.Yok (n := 54) (loc := Try.Y.loc 14) 100 [1, 3, 4, 5, 6, 7, 8] (by kernel_rfl) ?_
    refine Eq.mpr (f14_2 (rowsV G) G.length none (nums (partsN G)) (partsN G).length a3 l3 c3 k3 (p : Nat) h _) ?_
    refine ⟨rfl, loop2 [1, 3, 4, 5, 6, 7, 8] [1, 3, 4, 5, 6, 7, 8] rfl (by kernel_rfl) (B14 G h a3 l3 c3 k3 p) G.length mk_len ⟨none, 0, some 0, 0, 0, rfl, by omega, by omega, NewL.nil _ _ _⟩ ?_⟩
    rintro m3 vs h3 ⟨a6, l6, c6, k6, i, rfl, rfl, hi, nw⟩
    refine all_rule Try.Yok (loc := Try.Y.loc 14) 100 [1, 3, 4, 5, 6, 7, 8] ?_
    refine Eq.mpr (f14_3 (rowsV G) G.length none (nums (partsN G)) (partsN G).length a3 l3 c3 k3 (p : Nat) a6 l6 c6 k6 _ (i : Nat) h3 _) ?_
    have hgl := groupTo_len (partsN G) p i
    refine if_lt_nat (fun hlt3 => ?_) (fun hge3 => ?_)
    · obtain ⟨x, hx⟩ : ∃ x, (partsN G)[i]? = some x := ⟨_, List.getElem?_eq_getElem hlt3⟩
      have hxd : (partsN G).getD i 0 = x := by simp [List.getD_eq_getElem?_getD, hx]
      obtain ⟨r, hr⟩ : ∃ r, G[i]? = some r := ⟨_, List.getElem?_eq_getElem (by omega)⟩
      have hrl := hl r (List.mem_of_getElem? hr)
      have hself : selfG G i = r.contains (i : Int) := by simp [selfG, List.getD_eq_getElem?_getD, hr]
      have hsucc := groupTo_succ (partsN G) p i
      rw [hxd] at hsucc
      have hnx : takeX 1 ((nums (partsN G)).drop (((i : Nat) : Int).toNat * 1)) = some [.i .i64 ((x : Nat) : Int)] := by
        have : (nums (partsN G))[i]? = some (.i .i64 ((x : Nat) : Int)) := by simp [nums, hx]
        simpa using takeX_at this
      refine ⟨⟨by omega, by omega⟩, _, hnx, if_mk (fun hc => ?_) (fun hc => ?_)⟩
      · have hxp : x = p := by have : ((x : Nat) : Int) = (p : Nat) := by simpa using hc
                               omega
        rw [if_pos hxp] at hsucc
        obtain ⟨a', l', c', k', h', q1, q2⟩ := nw.app i (by omega)
        rw [← hsucc] at q2
        refine ⟨a', l', c', k', h', q1, if_mk (fun hb => ?_) (fun hb => ?_)⟩
        · refine ⟨rfl, G.length - (i + 1), by omega, a', l', c', k', i + 1, ?_, rfl, by omega, q2⟩
          rw [hsucc, List.any_append, hb, Bool.true_or, wrap_succ (by omega)]; rfl
        · refine ⟨⟨by omega, by omega⟩, _, _, _, rowsV_at hr, _, has_con (by omega), rfl, G.length - (i + 1), by omega, a', l', c', k', i + 1, ?_, rfl, by omega, q2⟩
          rw [hsucc, List.any_append, hb, Bool.false_or, wrap_succ (by omega)]
          simp only [List.any_cons, List.any_nil, Bool.or_false, hself]; rfl
      · have hxp : ¬ x = p := fun e => by rw [e] at hc; simp at hc
        rw [if_neg hxp] at hsucc
        refine ⟨rfl, G.length - (i + 1), by omega, a6, l6, c6, k6, i + 1, ?_, rfl, by omega, by rw [hsucc]; exact nw⟩
        rw [hsucc, wrap_succ (by omega)]; rfl
    · have hi3 : i = (partsN G).length := by omega
      subst hi3
      rw [group_all] at nw
      rw [group_all]
      have hg2 : (groupN (partsN G) p).length < 2 ^ 28 := by rw [← group_all]; omega
      refine roundW_exit [1, 3, 4, 5, 6, 7] (by kernel_rfl) rfl rfl ?_
      refine all_rule Try.Yok (loc := Try.Y.loc 14) 100 [1, 3, 4, 5] ?_
      refine Eq.mpr (f14_4 (rowsV G) G.length none (nums (partsN G)) (partsN G).length a3 l3 c3 k3 (p : Nat) a6 l6 c6 k6 _ h3 _) ?_
      have fin : ∀ (a : Option (Nat × Nat)) (l : Nat) (c : Option Nat) (k : Nat) (h' : Heap), LoopsL G (p + 1) h' a l c k → ContW Try.Y 54 [1, 3, 4, 5] (blockId (post (flat (loopB (post (flat (bodyOf Try.f14))))))) ((post (flat (loopB (post (flat (bodyOf Try.f14)))))).drop 1)
          (VQ [1, 3, 4, 5] (RoundW Try.Y 54 [1, 3, 4, 5] [1, 3, 4, 5] (A14 G) (G.length - p) (loopId (post (flat (bodyOf Try.f14)))) ((post (flat (bodyOf Try.f14))).drop 1) (FinS Try.Y Try.f14 fun v h => ∃ r, Frz h v r ∧ r = .ts (rowsV ((loopsN G).map natI)) (loopsN G).length none))) .normal 54
          [gBox G, .sl a l c k, .ts (nums (partsN G)) (partsN G).length none, .i .i64 (p : Nat)] h' := fun a l c k h' hL => by
        refine ⟨rfl, [1, 3, 4, 5], rfl, ?_⟩
        refine all_rule Try.Yok (loc := Try.Y.loc 14) 100 [1, 3, 4, 5] ?_
        refine Eq.mpr (f14_5 (rowsV G) G.length none (nums (partsN G)) (partsN G).length (p : Nat) a l c k h' _) ?_
        exact ⟨rfl, G.length - (p + 1), by omega, a, l, c, k, p + 1, by rw [wrap_succ (by omega)]; rfl, rfl, by omega, hL⟩
      have hl6 : l6 = (groupN (partsN G) p).length := by have := isl_len nw.o; simpa [nums] using this
      have o3' : IsL h3 1 a3 l3 c3 k3 cells := o3.fr nw.nx fun j _ hj => nw.old j hj
      have nst' : Nest h3 cells (loopsTo G p) := nst.fr nw.nx fun _ _ j _ _ hj => nw.old j hj
      have hl3 := isl_len o3
      have hcl : cells.length ≤ p := by rw [nst.1]; exact loopsTo_len G p
      -- the part is put behind
      have add : groupN (partsN G) p ≠ [] → keepG G (groupN (partsN G) p) = true → ∃ a l c k h_1, appendH Try.Y (h3.push (YObj.arr [.sl a6 l6 c6 k6] true)) 22 22 (.sl a3 l3 c3 k3) (.sl (some (h3.nx, 0)) 1 (some 1) 1) = some (.sl a l c k, h_1) ∧ LoopsL G (p + 1) h_1 a l c k := fun hne hkp => by
        have hm40 : most = 1099511627776 := by decide
        obtain ⟨a', l', c', k', h', q1, q2, q3, q4, j, q5, q6⟩ := append_law (Y := Try.Y) (st := 22) (e := 26) (te := ⟨1, 24, .slice 3, [.sl none 0 (some 0) 0]⟩) (m := 1) (new := [.sl a6 l6 c6 k6]) (by kernel_rfl) (by kernel_rfl) rfl (by decide) o3' (by decide) rfl rfl (by show (l3 + 1) * 24 ≤ _; rw [hm40]; omega) (by rw [hm40]; omega)
        refine ⟨a', l', c', k', h', q1, cells ++ [.sl a6 l6 c6 k6], q2, ?_, fun p' j' n' e e' => ?_⟩
        · rw [loopsTo_succ, if_pos hkp]
          rcases nw.o.2 with ⟨_, _, hx⟩ | ⟨id, rfl, rfl, rfl, h5, h6⟩
          · exact absurd (by simpa [nums] using hx) hne
          · have hid : h.nx ≤ id := nw.nw id rfl
            have ha3 : ∀ o, a3 ≠ some (id, o) := fun o e => by
              rcases o3.2 with hx | ⟨id2, hx, _, _, hx4, _⟩
              · rw [hx.1] at e; cases e
              · rw [hx] at e; cases e; omega
            subst hl6
            have nst2 : Nest h' cells (loopsTo G p) := nst'.fr q3.1 fun p' l' j' hp' hc' hj' => q3.2 j' hj' fun o e => by
              have ho : o = 0 := by
                rcases o3.2 with hx | ⟨id2, hx, _⟩
                · rw [hx.1] at e; cases e
                · rw [hx] at e; cases e; rfl
              subst ho
              exact dst p' j' _ hc' e
            exact nst2.snoc (by rw [q3.2 id h5 ha3, h6]) (Nat.lt_of_lt_of_le h5 q3.1)
        · rw [q5] at e'; cases e'
          by_cases hlt' : p' < cells.length
          · rw [List.getElem?_append_left hlt'] at e
            obtain ⟨l9, h9⟩ : ∃ l9, (loopsTo G p)[p']? = some l9 := ⟨_, List.getElem?_eq_getElem (by rw [← nst.1]; exact hlt')⟩
            obtain ⟨j9, g1, _, g3⟩ := nst'.2 p' l9 h9
            rw [e] at g1; cases g1; omega
          · rw [List.getElem?_append_right (by omega)] at e
            have hp0 : p' - cells.length = 0 := by
              rcases Nat.eq_zero_or_pos (p' - cells.length) with h0 | h0
              · exact h0
              · rw [List.getElem?_eq_none (by simp; omega)] at e; cases e
            rw [hp0] at e; simp at e
            rcases nw.o.2 with ⟨hx, _⟩ | ⟨id, hx, _, _, h5, _⟩
            · rw [hx] at e; simp at e
            · rw [hx] at e; simp at e; omega
      refine if_mk (fun hc => ?_) (fun hc => if_mk (fun hb => ?_) (fun hb => ?_))
      · have h1 : 1 < (groupN (partsN G) p).length := by
          have : (1 : Int) < (l6 : Nat) := by simpa [ltI] using hc
          omega
        obtain ⟨a, l, c, k, h', q1, q2⟩ := add (fun e => by rw [e] at h1; simp at h1) (by simp [keepG, h1])
        exact ⟨a, l, c, k, h', q1, fin a l c k h' q2⟩
      · obtain ⟨a, l, c, k, h', q1, q2⟩ := add (fun e => by rw [e] at hb; simp at hb) (by unfold keepG; rw [hb]; simp)
        exact ⟨a, l, c, k, h', q1, fin a l c k h' q2⟩
      · have h1 : ¬ 1 < (groupN (partsN G) p).length := by
          have : ¬ (1 : Int) < (l6 : Nat) := by simpa [ltI] using hc
          omega
        have hkp : keepG G (groupN (partsN G) p) = false := by unfold keepG; rw [hb]; simp [h1]
        refine fin a3 l3 c3 k3 h3 ⟨cells, o3', ?_, dst⟩
        rw [loopsTo_succ, if_neg (by rw [hkp]; decide)]
        exact nst'
  · have hp3 : p = (partsN G).length := by omega
    subst hp3
    refine at_pick rfl (roundW_exit [3] (by kernel_rfl) rfl rfl ?_)
    refine end_rule Try.Yok (loc := Try.Y.loc 14) 100 [2] ?_
    refine Eq.mpr (f14_6 a3 l3 c3 k3 h _) ?_
    have hll : loopsTo G (partsN G).length = loopsN G := by simp [loopsTo, loopsN, hm]
    rw [hll] at nst
    have hl3 := isl_len o3
    rw [nst.1] at hl3
    have hfz : Frz h (.sl a3 l3 c3 k3) (.ts (rowsV ((loopsN G).map natI)) l3 none) := by
      rcases o3.2 with ⟨rfl, h0, h1⟩ | ⟨id, rfl, rfl, rfl, h3, h4⟩
      · subst h0
        have : loopsN G = [] := List.eq_nil_of_length_eq_zero hl3.symm
        rw [this]; exact .sln _ _ none (fun x hx => by cases hx)
      · exact .sl _ _ _ _ _ _ true cells _ _ h4 (by rw [List.drop_zero]; exact takeX_len (by rw [nst.1]; omega)) (fun x hx => by cases hx) (by decide) nst.frz
    refine finV1 (.inr rfl) rfl hfz ?_
    rw [hl3]
end Go.Y
