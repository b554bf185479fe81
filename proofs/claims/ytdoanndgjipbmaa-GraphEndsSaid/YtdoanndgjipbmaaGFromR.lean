/- The reference's From. -/
import Derived.Test.YtdoanndgjipbmaaGWay
import Derived.Test.YtdoanndgjipbmaaGX2
namespace Go.Y
open Go.Proofs Tar
set_option maxRecDepth 100000

theorem bools_rep (n : Nat) : (List.replicate n [V.b false]).flatten = bools (List.replicate n false) := by
  induction n with
  | zero => rfl
  | succ n ih => rw [List.replicate_succ, List.flatten_cons, ih]; rfl
theorem getD_rep (n u : Nat) : (List.replicate n false).getD u false = false := by
  rw [List.getD_eq_getElem?_getD, List.getElem?_replicate]; split <;> rfl

structure R18 (G : List (List Int)) (a id5 : Nat) (on0 on : List Bool) (b : Bool) (h : Heap) : Prop where
  get : h.get id5 = some (.arr (bools on) true)
  lt : id5 < h.nx
  len : on.length = G.length
  st : on.getD a false = true
  snd : ∀ u, on.getD u false = true → Tar.Reach (sucI G) a u
  ff : b = false → on = on0
  tt : b = true → unB G.length on < unB G.length on0
def clo (G : List (List Int)) (on : List Bool) (i : Nat) : Prop := ∀ u, u < i → on.getD u false = true → ∀ x ∈ sucI G u, on.getD x false = true

def v18 (G : List (List Int)) (id5 : Nat) : List V := [gBox G, .sl none 0 (some 0) 0, .sl (some (id5, 0)) G.length (some G.length) 1]

def O18 (G : List (List Int)) (a : Nat) (m : Nat) (vs : List V) (h : Heap) : Prop :=
  ∃ (id5 : Nat) (on : List Bool) (b : Bool), vs = v18 G id5 ++ [.b b] ∧ R18 G a id5 on on false h ∧ (b = false → clo G on G.length) ∧ unB G.length on + (if b then 1 else 0) < m
def J18 (G : List (List Int)) (a id5 : Nat) (on0 : List Bool) (m : Nat) (vs : List V) (h : Heap) : Prop :=
  ∃ (i : Nat) (on : List Bool) (b : Bool), vs = v18 G id5 ++ [.b b, .i .i64 (i : Nat)] ∧ R18 G a id5 on0 on b h ∧ (b = false → clo G on i) ∧ m = G.length - i ∧ i ≤ G.length
def K18 (G : List (List Int)) (a id5 : Nat) (on0 : List Bool) (i : Nat) (r : List Int) (m : Nat) (vs : List V) (h : Heap) : Prop :=
  ∃ (k : Nat) (on : List Bool) (b : Bool), vs = v18 G id5 ++ [.b b, .i .i64 (i : Nat), .i .i64 (k : Nat)] ∧ R18 G a id5 on0 on b h ∧ (b = false → clo G on i) ∧ (b = false → on.getD i false = true → ∀ x ∈ (sucI G i).take k, on.getD x false = true) ∧ m = r.length - k ∧ k ≤ r.length
def L18 (n id5 : Nat) (on : List Bool) (m : Nat) (vs : List V) (h : Heap) : Prop :=
  ∃ (i : Nat) (out : List Int) (a : Option (Nat × Nat)) (l : Nat) (c : Option Nat) (k : Nat), vs = [.sl (some (id5, 0)) n (some n) 1, .sl a l c k, .i .i64 (i : Nat)] ∧ h.get id5 = some (.arr (bools on) true) ∧ m = n - i ∧ i ≤ n ∧
    Lst encI 1 h a l c k out ∧ out.length ≤ i ∧ out ++ metFrom i (on.drop i) = metFrom 0 on ∧ (∀ j, a = some (j, 0) → j ≠ id5) ∧ id5 < h.nx

theorem reach_lt {G : List (List Int)} (hm : mayG G = true) {a u : Nat} (ha : a < G.length) (h : Tar.Reach (sucI G) a u) : u < G.length :=
  h.stay (P := fun u => u < G.length) (fun _ _ _ hx => sucI_lt hm hx) ha

open Classical in
theorem from_on {G : List (List Int)} (hm : mayG G = true) {at_ : Int} (h0 : 0 ≤ at_) (h1 : at_ < (G.length : Nat)) {on : List Bool} (hl : on.length = G.length) (hon : ∀ u, on.getD u false = true ↔ Tar.Reach (sucI G) at_.toNat u) : metFrom 0 on = fromG G at_ := by
  unfold fromG
  rw [if_pos ⟨hm, h0, h1⟩, metFrom_eq (fun i => decide (Tar.Reach (sucI G) at_.toNat i)) on 0 fun j hj => ?_, hl, List.range_eq_range']
  have h2 : on[j]? = some (on.getD j false) := by simp [List.getD_eq_getElem?_getD, hj]
  rw [h2, Nat.zero_add]
  congr 1
  rw [Bool.eq_iff_iff, hon j]; simp
theorem from_no {G : List (List Int)} {at_ : Int} (h : ¬ (mayG G = true ∧ 0 ≤ at_ ∧ at_ < (G.length : Nat))) : fromG G at_ = [] := by
  unfold fromG; exact if_neg h

theorem rfrom_con {G : List (List Int)} {at_ : Int} (hG : G.length < 2 ^ 29) (hl : ∀ l ∈ G, l.length < 2 ^ 30) : PCon Try.Y 18 [encG G, .i .i64 at_] (· = encR (fromG G at_)) := by
  refine pcon_of Try.Yok (fn := Try.f18) (by kernel_rfl) (by kernel_rfl) rfl ?_
  refine pre_rule Try.Yok (n := 93) (loc := Try.Y.loc 18) 100 [2, 4, 5, 6] (by kernel_rfl) ?_
  refine Eq.mpr (f18_0 (rowsV G) G.length at_ .empty _) ?_
  have no : ∀ {vs : List V} {h : Heap} {v1 v3 v4 : V}, ¬ (mayG G = true ∧ 0 ≤ at_ ∧ at_ < (G.length : Nat)) → AtV [2, 4, 5, 6] (FinS Try.Y Try.f18 fun v h => ∃ r, Frz h v r ∧ r = encR (fromG G at_)) .ret 93 [v1, .sl none 0 (some 0) 0, v3, v4] h := fun hn => by
    refine fin_at (.inr rfl) rfl ⟨_, frz_nil encI _ _ _, ?_⟩
    rw [lst_encI, from_no hn]
  have hm40 : most = 1099511627776 := by decide
  refine ⟨_, rmay_con (by omega) hl, if_mk (fun hc => no (vs := []) fun h => by rw [h.1] at hc; cases hc) (fun hc => if_lt (fun h0 => no (vs := []) fun h => by omega) (fun h0 => if_le (fun h1 => no (vs := []) fun h => by omega) (fun h1 => ?_)))⟩
  have hm : mayG G = true := by simpa using hc
  obtain ⟨a, rfl⟩ : ∃ a : Nat, at_ = (a : Int) := ⟨at_.toNat, by omega⟩
  have ha : a < G.length := by omega
  rw [show ((G.length : Nat) : Int).toNat = G.length by simp, bools_rep]
  have hg0 : (Heap.empty.push (.arr (bools (List.replicate G.length false)) true)).get 0 = some (.arr (bools (List.replicate G.length false)) true) := by rw [Heap.get_push]; rfl
  refine ⟨⟨by omega, by omega, by rw [hm40]; omega, by rw [hm40]; omega⟩, ⟨by omega, by omega⟩, rfl, _, by rw [at1]; exact hstore_at hg0 _ (by simp; omega), ?_⟩
  rw [bools_set]
  -- the rounds
  have hr0 : R18 G a 0 ((List.replicate G.length false).set a true) ((List.replicate G.length false).set a true) false ((Heap.empty.push (.arr (bools (List.replicate G.length false)) true)).set 0 (some (.arr (bools ((List.replicate G.length false).set a true)) true))) := by
    refine ⟨by rw [Heap.get_set, if_pos rfl], by simp [Heap.empty], by simp, by rw [getD_setB (by simpa using ha), if_pos rfl], fun u hu => ?_, fun _ => rfl, fun e => by cases e⟩
    rw [getD_setB (by simpa using ha)] at hu
    split at hu
    · rename_i e; rw [e]; exact .refl a
    · rw [getD_rep] at hu; cases hu
  refine ⟨rfl, loop2 [2, 4, 5, 6] [2, 4, 5, 6] rfl (by kernel_rfl) (O18 G a) (unB G.length ((List.replicate G.length false).set a true) + 2) mk_len ⟨0, _, true, rfl, hr0, (fun e => by cases e), by simp⟩ ?_⟩
  rintro m vs h ⟨id5, on, b, rfl, hr, hcl, hm2⟩
  refine pre_rule Try.Yok (n := 93) (loc := Try.Y.loc 18) 100 [2, 4, 5] (by kernel_rfl) ?_
  refine Eq.mpr (f18_1 (rowsV G) G.length id5 G.length G.length b h _) ?_
  refine if_mk (fun hb => ?_) (fun hb => ?_)
  · -- one more round
    subst hb
    simp only [if_true] at hm2
    refine ⟨rfl, last_rule (by kernel_rfl) ?_⟩
    refine pre_rule Try.Yok (n := 93) (loc := Try.Y.loc 18) 100 [2, 4, 5, 6, 7] (by kernel_rfl) ?_
    refine Eq.mpr (f18_2 (rowsV G) G.length id5 G.length G.length h _) ?_
    refine ⟨rfl, loopE [2, 4, 5, 6, 7] [2, 4, 5, 6, 7] rfl (by kernel_rfl) (J18 G a id5 on) G.length mk_len ⟨0, on, false, rfl, hr, fun _ u hu => absurd hu (Nat.not_lt_zero _), by omega, by omega⟩ ?_⟩
    rintro m3 vs h3 ⟨i, on3, b3, rfl, hr3, hc3, rfl, hi⟩
    refine pre_rule Try.Yok (n := 93) (loc := Try.Y.loc 18) 100 [2, 4, 5, 6, 7] (by kernel_rfl) ?_
    refine Eq.mpr (f18_3 (rowsV G) G.length id5 G.length G.length b3 (i : Nat) h3 _) ?_
    refine if_lt_nat (fun hlt => ?_) (fun hge => ?_)
    · obtain ⟨r, hrow⟩ : ∃ r, G[i]? = some r := ⟨_, List.getElem?_eq_getElem hlt⟩
      have hrl := hl r (List.mem_of_getElem? hrow)
      have hsuc := sucI_at hrow
      refine ⟨rfl, block2 (n := 93) [2, 4, 5, 6, 7] (by kernel_rfl) ?_⟩
      refine pre_rule Try.Yok (n := 93) (loc := Try.Y.loc 18) 100 [2, 4, 5, 6, 7, 8] (by kernel_rfl) ?_
      refine Eq.mpr (f18_4 (rowsV G) G.length id5 G.length G.length b3 (i : Nat) h3 _) ?_
      refine ⟨rfl, loopE [2, 4, 5, 6, 7, 8] [2, 4, 5, 6, 7, 8] rfl (by kernel_rfl) (K18 G a id5 on i r) r.length mk_len ⟨0, on3, b3, rfl, hr3, hc3, fun _ _ x hx => by simp at hx, by omega, by omega⟩ ?_⟩
      rintro m4 vs h4 ⟨k, on4, b4, rfl, hr4, hc4, hk4, rfl, hk⟩
      refine all_rule Try.Yok (loc := Try.Y.loc 18) 100 [2, 4, 5, 6, 7, 8] ?_
      refine Eq.mpr (f18_5 (rowsV G) G.length id5 G.length G.length b4 (i : Nat) (k : Nat) h4 _) ?_
      have hbi : (0 : Int) ≤ (i : Nat) ∧ ((i : Nat) : Int) < (G.length : Nat) := ⟨by omega, by omega⟩
      -- the node is done
      have done : (b4 = false → clo G on4 (i + 1)) → RoundE 93 [2, 4, 5, 6, 7, 8] [2, 4, 5, 6, 7, 8] (K18 G a id5 on i r) (r.length - k) (loopId (post (flat (blockB (post (flat (loopB (post (flat (blockB (post (flat (loopB (post (flat (bodyOf Try.f18))))))))))))))))
          (VQ [2, 4, 5, 6, 7] (ContW Try.Y 93 [2, 4, 5, 6, 7] (blockId (post (flat (loopB (post (flat (blockB (post (flat (loopB (post (flat (bodyOf Try.f18))))))))))))) ((post (flat (loopB (post (flat (blockB (post (flat (loopB (post (flat (bodyOf Try.f18)))))))))))).drop 1)
            (VQ [2, 4, 5, 6, 7] (RoundE 93 [2, 4, 5, 6, 7] [2, 4, 5, 6, 7] (J18 G a id5 on) (G.length - i) (loopId (post (flat (blockB (post (flat (loopB (post (flat (bodyOf Try.f18))))))))))
              (VQ [2, 4, 5, 6] (LastV (blockId (post (flat (loopB (post (flat (bodyOf Try.f18))))))) (RoundW Try.Y 93 [2, 4, 5, 6] [2, 4, 5, 6] (O18 G a) m (loopId (post (flat (bodyOf Try.f18)))) ((post (flat (bodyOf Try.f18))).drop 1) (FinS Try.Y Try.f18 fun v h => ∃ r, Frz h v r ∧ r = encR (fromG G (a : Nat)))))))))) (.exit 4) 93 (v18 G id5 ++ [.b b4, .i .i64 (i : Nat), .i .i64 (k : Nat)]) h4 := fun hcl => by
        simp only [RoundE]
        rw [if_pos (by kernel_rfl)]
        refine at_pick rfl ⟨rfl, [2, 4, 5, 6, 7], rfl, ?_⟩
        refine all_rule Try.Yok (loc := Try.Y.loc 18) 100 [2, 4, 5, 6, 7] ?_
        refine Eq.mpr (f18_6 (rowsV G) G.length id5 G.length G.length (i : Nat) b4 h4 _) ?_
        exact ⟨rfl, G.length - (i + 1), by omega, i + 1, on4, b4, by rw [wrap_succ (by omega)]; rfl, hr4, hcl, rfl, by omega⟩
      refine ⟨hbi, rfl, _, by rw [at1]; exact hcells_at hr4.get (bools_get (by rw [hr4.len]; exact hlt)), if_mk (fun hon => ?_) (fun hon => done fun hb4 u hu hou => ?_)⟩
      · refine ⟨hbi, _, _, _, rowsV_at hrow, if_lt_nat (fun hkl => ?_) (fun hkg => done fun hb4 u hu hou => ?_)⟩
        · obtain ⟨x, hx⟩ : ∃ x, r[k]? = some x := ⟨_, List.getElem?_eq_getElem hkl⟩
          obtain ⟨x0, x1⟩ := mayG_row hm hrow x (List.mem_of_getElem? hx)
          obtain ⟨y, rfl⟩ : ∃ y : Nat, x = (y : Int) := ⟨x.toNat, by omega⟩
          have hyn : y < G.length := by omega
          have hsk : (sucI G i)[k]? = some y := by rw [hsuc, List.getElem?_map, hx]; rfl
          have hby : (0 : Int) ≤ (y : Nat) ∧ ((y : Nat) : Int) < (G.length : Nat) := ⟨by omega, by omega⟩
          refine ⟨hbi, _, _, _, rowsV_at hrow, ⟨by omega, by omega⟩, _, ints_at hx, hby, rfl, _, by rw [at1]; exact hcells_at hr4.get (bools_get (by rw [hr4.len]; exact hyn)), if_mk (fun hny => ?_) (fun hyy => ?_)⟩
          · have hy0 : on4.getD y false = false := by simpa using hny
            refine ⟨hbi, _, _, _, rowsV_at hrow, ⟨by omega, by omega⟩, _, ints_at hx, hby, rfl, _, by rw [at1]; exact hstore_at hr4.get _ (by rw [bools_length, hr4.len]; exact hyn), ?_⟩
            rw [bools_set]
            have hu := unB_set hyn hr4.len hy0
            have hle : unB G.length on4 ≤ unB G.length on := by
              cases hb : b4 with
              | false => rw [hr4.ff hb]; exact Nat.le_refl _
              | true => exact Nat.le_of_lt (hr4.tt hb)
            refine ⟨rfl, r.length - (k + 1), by omega, k + 1, on4.set y true, true, by rw [wrap_succ (by omega)]; rfl, ⟨by rw [Heap.get_set, if_pos rfl], hr4.lt, by simpa using hr4.len, ?_, fun u hu => ?_, (fun e => by cases e), fun _ => by omega⟩, fun e => (by cases e), fun e => (by cases e), rfl, by omega⟩
            · rw [getD_setB (by rw [hr4.len]; exact hyn)]; split
              · rfl
              · exact hr4.st
            · rw [getD_setB (by rw [hr4.len]; exact hyn)] at hu
              split at hu
              · rename_i e; rw [e]; exact .step (hr4.snd i hon) (List.mem_of_getElem? hsk)
              · exact hr4.snd u hu
          · have hy1 : on4.getD y false = true := by simpa using hyy
            refine ⟨rfl, r.length - (k + 1), by omega, k + 1, on4, b4, by rw [wrap_succ (by omega)]; rfl, hr4, hc4, fun hb4 ho z hz => ?_, rfl, by omega⟩
            rw [List.take_add_one, hsk] at hz
            simp at hz
            rcases hz with hz | hz
            · exact hk4 hb4 ho z hz
            · rw [hz]; exact hy1
        · intro x hx
          by_cases e : u = i
          · subst e
            refine hk4 hb4 hou x ?_
            rw [List.take_of_length_le (by rw [hsuc, List.length_map]; omega)]; exact hx
          · exact hc4 hb4 u (by omega) hou x hx
      · intro x hx
        by_cases e : u = i
        · subst e; rw [hon] at hou; cases hou
        · exact hc4 hb4 u (by omega) hou x hx
    · -- the round is over
      have hie : i = G.length := by omega
      refine at_pick rfl ?_
      simp only [RoundE]
      rw [if_pos (by kernel_rfl)]
      refine at_pick rfl ?_
      refine ⟨rfl, unB G.length on3 + (if b3 then 1 else 0) + 1, ?_, id5, on3, b3, rfl, ⟨hr3.get, hr3.lt, hr3.len, hr3.st, hr3.snd, fun _ => rfl, fun e => by cases e⟩, fun e => by rw [← hie]; exact hc3 e, by omega⟩
      cases hb3 : b3 with
      | false => rw [hr3.ff hb3]; simp; omega
      | true => have := hr3.tt hb3; simp; omega
  · -- all is met
    have hclo := hcl hb
    refine at_view fun τ h1 h2 h3 => ?_
    have h5 : lv 5 τ = .sl (some (id5, 0)) G.length (some G.length) 1 := by
      have := congrArg (fun l : List V => l.getD 2 .undef) h2
      exact this
    refine roundW_exit [5] (by kernel_rfl) rfl rfl ?_
    rw [show pick [2, 4, 5, 6] [5] ([2, 4, 5, 6].map fun i => lv i τ) = [V.sl (some (id5, 0)) G.length (some G.length) 1] by rw [← pick_ok (σ := τ) (sl := [5]) (by rfl) rfl]; simp [h5]]
    refine pre_rule Try.Yok (n := 93) (loc := Try.Y.loc 18) 100 [5, 9, 10] (by kernel_rfl) ?_
    refine Eq.mpr (f18_7 id5 G.length G.length h _) ?_
    have hfin : metFrom 0 on = fromG G (a : Nat) := from_on hm (by omega) (by omega) hr.len fun u => ⟨hr.snd u, fun hre => by
      have : u < G.length ∧ on.getD u false = true := hre.stay (P := fun u => u < G.length ∧ on.getD u false = true) (fun w hw x hx => ⟨sucI_lt hm hx, hclo w hw.1 hw.2 x hx⟩) ⟨ha, hr.st⟩
      exact this.2⟩
    refine ⟨rfl, loop2 [5, 9, 10] [5, 9, 10] rfl (by kernel_rfl) (L18 G.length id5 on) G.length mk_len ⟨0, [], none, 0, some 0, 0, rfl, hr.get, by omega, by omega, Lst.nil _ _ _ _ _, by simp, rfl, by simp, hr.lt⟩ ?_⟩
    rintro m6 vs h6 ⟨i, out, q, l, c, k, rfl, hget, rfl, hi, hL, hol, hI, hq, hlt5⟩
    refine all_rule Try.Yok (loc := Try.Y.loc 18) 100 [5, 9, 10] ?_
    refine Eq.mpr (f18_8 id5 G.length G.length q l c k (i : Nat) h6 _) ?_
    refine if_lt_nat (fun hlt => ?_) (fun hge => ?_)
    · have hob : on[i]? = some (on.getD i false) := by
        have := hr.len
        simp [List.getD_eq_getElem?_getD, show i < on.length by omega]
      rw [drop_at hob] at hI
      simp only [metFrom] at hI
      refine ⟨⟨by omega, by omega⟩, rfl, _, by rw [at1]; exact hcells_at hget (bools_get (by rw [hr.len]; exact hlt)), if_mk (fun hc => ?_) (fun hc => ?_)⟩
      · rw [if_pos hc] at hI
        obtain ⟨a', l', c', k', h', q1, q2, q3, j, q4, q5⟩ := int_app (i : Nat) hL (by omega)
        refine ⟨a', l', c', k', h', q1, rfl, G.length - (i + 1), by omega, i + 1, out ++ [(i : Int)], a', l', c', k', by rw [wrap_succ (by omega)]; rfl, ?_, rfl, by omega, q2, by simp; omega, ?_, ?_, ?_⟩
        · rw [q3.2 id5 hlt5 fun o e => by
            have h0 := hL.off e
            subst h0
            exact hq id5 e rfl]; exact hget
        · rw [← hI]; simp
        · intro j' hj'; rw [q4] at hj'; cases hj'; omega
        · have := q3.1; omega
      · rw [hc] at hI
        exact ⟨rfl, G.length - (i + 1), by omega, i + 1, out, q, l, c, k, by rw [wrap_succ (by omega)]; rfl, hget, rfl, by omega, hL, by omega, by simpa using hI, hq, hlt5⟩
    · refine roundW_exit [9] (by kernel_rfl) rfl rfl ?_
      refine end_rule Try.Yok (loc := Try.Y.loc 18) 100 [4] ?_
      refine Eq.mpr (f18_9 q l c k h6 _) ?_
      refine finV1 (.inr rfl) rfl (hL.frz (k := 1) (by decide) fun _ => rfl) ?_
      have hie : i = on.length := by have := hr.len; omega
      rw [hie, List.drop_length] at hI
      simp only [metFrom, List.append_nil] at hI
      rw [lst_encI, hI, hfin]
end Go.Y
