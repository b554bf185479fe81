/- From, by its contract. -/
import Derived.Test.YtdoanndgjipbmaaGRise
import Derived.Test.YtdoanndgjipbmaaGX3
import Derived.Test.YtdoanndgjipbmaaGWay
namespace Go.Y
open Go.Proofs Tar
set_option maxRecDepth 100000

theorem colds_ints (l : List Int) : colds1 (ints l) = true := by
  induction l with
  | nil => rfl
  | cons x l ih => simpa [ints, colds1, cold1, flat1] using ih

theorem from_con (hs : SortSays Try.Y.P 26) {G : List (List Int)} {at_ : Int} (hG : G.length < 2 ^ 28) (hl : ∀ l ∈ G, l.length < 2 ^ 30) : PCon Try.Y 17 [encG G, .i .i64 at_] (· = encR (fromG G at_)) := by
  refine pcon_of Try.Yok (fn := Try.f17) (by kernel_rfl) (by kernel_rfl) rfl ?_
  refine pre_rule Try.Yok (n := 68) (loc := Try.Y.loc 17) 100 [2, 4, 5, 6, 7] (by kernel_rfl) ?_
  refine Eq.mpr (f17_0 (rowsV G) G.length at_ .empty _) ?_
  have no : ∀ {h : Heap} {v1 v3 v4 v5 : V}, ¬ (mayG G = true ∧ 0 ≤ at_ ∧ at_ < (G.length : Nat)) → AtV [2, 4, 5, 6, 7] (FinS Try.Y Try.f17 fun v h => ∃ r, Frz h v r ∧ r = encR (fromG G at_)) .ret 68 [v1, .sl none 0 (some 0) 0, v3, v4, v5] h := fun hn => by
    refine fin_at (.inr rfl) rfl ⟨_, frz_nil encI _ _ _, ?_⟩
    rw [lst_encI, from_no hn]
  have hm40 : most = 1099511627776 := by decide
  refine ⟨_, may_con (by omega) hl, if_mk (fun hc => no fun h => by rw [h.1] at hc; cases hc) (fun hc => if_lt (fun h0 => no fun h => by omega) (fun h0 => if_le (fun h1 => no fun h => by omega) (fun h1 => ?_)))⟩
  have hm : mayG G = true := by simpa using hc
  obtain ⟨a, rfl⟩ : ∃ a : Nat, at_ = (a : Int) := ⟨at_.toNat, by omega⟩
  have ha : a < G.length := by omega
  rw [show ((G.length : Nat) : Int).toNat = G.length by simp, bools_rep]
  have hg0 : (Heap.empty.push (.arr (bools (List.replicate G.length false)) true)).get 0 = some (.arr (bools (List.replicate G.length false)) true) := by rw [Heap.get_push]; rfl
  refine ⟨⟨by omega, by omega, by rw [hm40]; omega, by rw [hm40]; omega⟩, ⟨by omega, by omega⟩, rfl, _, by rw [at1]; exact hstore_at hg0 _ (by simp; omega), ?_⟩
  rw [bools_set]
  have hF : F17 G a 0 ((List.replicate G.length false).set a true) [a] (((Heap.empty.push (.arr (bools (List.replicate G.length false)) true)).set 0 (some (.arr (bools ((List.replicate G.length false).set a true)) true))).push (.arr [.i .i64 (a : Nat)] true)) 1 1 (some 1) := by
    refine ⟨by
      rw [Heap.get_push]
      refine Eq.trans (if_neg (show ¬ ((0 : Nat) = 1) by decide)) ?_
      rw [Heap.get_set, if_pos rfl], by simp [Heap.empty], by simp, ⟨rfl, by rw [Heap.get_push]; rfl, by simp [Heap.empty], fun c' hc => by cases hc; rfl⟩, by decide, by simp, by simp, fun u => ?_, fun u hu => ?_⟩
    · rw [getD_setB (by simpa using ha)]
      by_cases e : u = a
      · simp [e]
      · rw [if_neg e, getD_rep]; simp [e]
    · simp at hu; subst hu; exact .refl u
  refine ⟨rfl, loop2 [2, 5, 6, 7] [2, 5, 6, 7] rfl (by kernel_rfl) (O17 G a) G.length mk_len ⟨0, 1, 1, some 1, _, [a], 0, rfl, hF, by omega, by omega, fun u hu => by simp at hu⟩ ?_⟩
  rintro m vs h ⟨id5, id6, l6, c6, on, out, i, rfl, f, hi, rfl, hcl⟩
  have hol : out.length ≤ G.length := nodup_len f.nd fun u hu => reach_lt hm ha (f.snd u hu)
  have hl6 : l6 = out.length := by rw [f.o.len]; simp
  refine pre_rule Try.Yok (n := 68) (loc := Try.Y.loc 17) 100 [2, 5, 6, 7] (by kernel_rfl) ?_
  refine Eq.mpr (f17_1 (rowsV G) G.length id5 G.length G.length (some (id6, 0)) l6 c6 1 (i : Nat) h _) ?_
  refine if_lt_nat (fun hlt => ?_) (fun hge => ?_)
  · -- one of the list is gone through
    obtain ⟨v, hv⟩ : ∃ v, out[i]? = some v := ⟨_, List.getElem?_eq_getElem (by omega)⟩
    have hvn : v < G.length := reach_lt hm ha (f.snd v (List.mem_of_getElem? hv))
    obtain ⟨r, hr⟩ : ∃ r, G[v]? = some r := ⟨_, List.getElem?_eq_getElem hvn⟩
    have hrl := hl r (List.mem_of_getElem? hr)
    have hsuc := sucI_at hr
    refine ⟨rfl, block2 (n := 68) [2, 5, 6, 7] (by kernel_rfl) ?_⟩
    refine pre_rule Try.Yok (n := 68) (loc := Try.Y.loc 17) 100 [2, 5, 6, 7, 46, 47, 48] (by kernel_rfl) ?_
    refine Eq.mpr (f17_2 (rowsV G) G.length id5 G.length G.length (some (id6, 0)) l6 c6 1 (i : Nat) h _) ?_
    have hov : (ints (out.map Int.ofNat))[i]? = some (.i .i64 ((v : Nat) : Int)) := by simp [ints, hv]
    refine ⟨⟨by omega, by omega⟩, rfl, _, by rw [at1]; exact hcells_at f.o.get hov, ⟨by omega, by omega⟩, _, _, _, rowsV_at hr, rfl, ?_⟩
    refine loopE [2, 5, 6, 7, 46, 47, 48] [2, 5, 6, 7, 46, 47, 48] rfl (by kernel_rfl) (J17 G a i v r) r.length mk_len ⟨id5, id6, l6, c6, on, out, 0, rfl, f, hv, by omega, by omega, hcl, fun x hx => by simp at hx⟩ ?_
    rintro m3 vs h3 ⟨id5, id6, l6, c6, on3, out3, k, rfl, f3, hv3, hk, rfl, hcl3, hk3⟩
    have hol3 : out3.length ≤ G.length := nodup_len f3.nd fun u hu => reach_lt hm ha (f3.snd u hu)
    refine all_rule Try.Yok (loc := Try.Y.loc 17) 100 [2, 5, 6, 7, 46, 47, 48] ?_
    refine Eq.mpr (f17_3 (rowsV G) G.length id5 G.length G.length (some (id6, 0)) l6 c6 1 (i : Nat) none (ints r) r.length (r.length : Nat) (k : Nat) h3 _) ?_
    refine if_lt_nat (fun hkl => ?_) (fun hkg => ?_)
    · obtain ⟨x, hx⟩ : ∃ x, r[k]? = some x := ⟨_, List.getElem?_eq_getElem hkl⟩
      obtain ⟨x0, x1⟩ := mayG_row hm hr x (List.mem_of_getElem? hx)
      obtain ⟨y, rfl⟩ : ∃ y : Nat, x = (y : Int) := ⟨x.toNat, by omega⟩
      have hyn : y < G.length := by omega
      have hsk : (sucI G v)[k]? = some y := by rw [hsuc, List.getElem?_map, hx]; rfl
      have hby : (0 : Int) ≤ (y : Nat) ∧ ((y : Nat) : Int) < (G.length : Nat) := ⟨by omega, by omega⟩
      refine ⟨⟨by omega, by omega⟩, _, ints_at hx, hby, rfl, _, by rw [at1]; exact hcells_at f3.get (bools_get (by rw [f3.len]; exact hyn)), if_mk (fun hny => ?_) (fun hyy => ?_)⟩
      · have hy0 : on3.getD y false = false := by simpa using hny
        have hyo : y ∉ out3 := fun hy => by rw [(f3.mem y).1 hy] at hy0; cases hy0
        refine ⟨hby, rfl, _, by rw [at1]; exact hstore_at f3.get _ (by rw [bools_length, f3.len]; exact hyn), ?_⟩
        rw [bools_set]
        have o1 : OutL (h3.set id5 (some (.arr (bools (on3.set y true)) true))) id6 l6 c6 (out3.map Int.ofNat) := ⟨f3.o.len, by rw [Heap.get_set, if_neg f3.ne]; exact f3.o.get, f3.o.lt, f3.o.cap⟩
        obtain ⟨h4, q1, q2, q3⟩ := o1.app (y : Nat) (by simp; omega)
        refine ⟨_, _, _, _, h4, q1, rfl, r.length - (k + 1), by omega, id5, _, _, none, on3.set y true, out3 ++ [y], k + 1, by rw [wrap_succ (by omega)]; rfl, ⟨?_, ?_, by simpa using f3.len, by simpa using q2, ?_, by simp [f3.st], ?_, fun u => ?_, fun u hu => ?_⟩, ?_, by omega, rfl, fun u hu z hz => ?_, fun z hz => ?_⟩
        · rw [q3.2 id5 f3.lt fun e => f3.ne e.symm, Heap.get_set, if_pos rfl]
        · exact Nat.lt_of_lt_of_le f3.lt q3.1
        · have := f3.lt
          show h3.nx ≠ id5
          omega
        · refine List.nodup_append.2 ⟨f3.nd, by simp, fun u hu w hw e => ?_⟩
          simp at hw; subst hw; subst e; exact hyo hu
        · rw [getD_setB (by rw [f3.len]; exact hyn)]
          by_cases e : u = y
          · simp [e]
          · rw [if_neg e, ← f3.mem u]; simp [e]
        · rcases List.mem_append.1 hu with hu | hu
          · exact f3.snd u hu
          · simp at hu; subst hu
            exact .step (f3.snd v (List.mem_of_getElem? hv3)) (List.mem_of_getElem? hsk)
        · rw [List.getElem?_append_left (List.getElem?_eq_some_iff.1 hv3).1]; exact hv3
        · rw [List.take_append_of_le_length (Nat.le_of_lt (List.getElem?_eq_some_iff.1 hv3).1)] at hu
          exact List.mem_append_left _ (hcl3 u hu z hz)
        · rw [List.take_add_one, hsk] at hz
          simp at hz
          rcases hz with hz | hz
          · exact List.mem_append_left _ (hk3 z hz)
          · simp [hz]
      · have hy1 : y ∈ out3 := (f3.mem y).2 (by simpa using hyy)
        refine ⟨rfl, r.length - (k + 1), by omega, id5, id6, l6, c6, on3, out3, k + 1, by rw [wrap_succ (by omega)]; rfl, f3, hv3, by omega, rfl, hcl3, fun z hz => ?_⟩
        rw [List.take_add_one, hsk] at hz
        simp at hz
        rcases hz with hz | hz
        · exact hk3 z hz
        · rw [hz]; exact hy1
    · simp only [RoundE]
      rw [if_pos (by kernel_rfl)]
      refine at_pick rfl ⟨rfl, [2, 5, 6, 7], rfl, ?_⟩
      refine all_rule Try.Yok (loc := Try.Y.loc 17) 100 [2, 5, 6, 7] ?_
      refine Eq.mpr (f17_4 (rowsV G) G.length id5 G.length G.length (some (id6, 0)) l6 c6 1 (i : Nat) h3 _) ?_
      have hil := (List.getElem?_eq_some_iff.1 hv3).1
      refine ⟨rfl, G.length - (i + 1), by omega, id5, id6, l6, c6, on3, out3, i + 1, by rw [wrap_succ (by omega)]; rfl, f3, by omega, rfl, fun u hu z hz => ?_⟩
      rw [List.take_add_one, hv3] at hu
      simp at hu
      rcases hu with hu | hu
      · exact hcl3 u hu z hz
      · subst hu
        refine hk3 z ?_
        rw [List.take_of_length_le (by rw [hsuc, List.length_map]; omega)]; exact hz
  · -- all of it is gone through
    have hie : i = out.length := by omega
    rw [hie, List.take_length] at hcl
    have hmem : ∀ u, u ∈ out ↔ Tar.Reach (sucI G) a u := fun u => ⟨f.snd u, fun hre => hre.stay (P := fun u => u ∈ out) (fun w hw x hx => hcl w hw x hx) f.st⟩
    refine at_pick rfl (roundW_exit [6] (by kernel_rfl) rfl rfl ?_)
    refine end_rule Try.Yok (loc := Try.Y.loc 17) 100 [4] ?_
    refine Eq.mpr (f17_5 (some (id6, 0)) l6 c6 1 h _) ?_
    have hsc := sort_con (Y := Try.Y) (f := 26) ⟨Try.f26, _, by kernel_rfl, rfl⟩ hs (k := 1) (c := c6) f.o.get (by
      have := f.st
      intro e
      rw [List.map_eq_nil_iff] at e
      rw [e] at this; cases this) (by simp; omega)
    rw [← f.o.len] at hsc
    refine hsc.mono fun w h' ⟨hw, hh⟩ => ⟨hw, ?_⟩
    have hlen : (sortZ (out.map Int.ofNat)).length = l6 := by rw [f.o.len]; exact List.length_mergeSort _
    have hget : h'.get id6 = some (.arr (ints (sortZ (out.map Int.ofNat))) true) := by rw [hh, Heap.get_set, if_pos rfl]; rfl
    refine finV1 (.inr rfl) rfl (r1 := encR (sortZ (out.map Int.ofNat))) ?_ (by rw [sort_from hm ha f.nd hmem])
    unfold encR
    rw [hlen]
    have hcl1 : colds1 (ints (sortZ (out.map Int.ofNat))) = true := colds_ints _
    exact .sl _ _ _ _ _ (ints (sortZ (out.map Int.ofNat))) true _ _ _ hget (by rw [List.drop_zero]; exact takeX_len (by rw [← hlen]; simp [ints])) (fun x hx => by cases hx) (by decide) (colds1_ok _ hcl1)
end Go.Y

/- The walk's steps, over lists. -/
namespace Go.Y
open Tar

def tsOf (s : WkS) : TS := ⟨fun u => s.met.getD u 0, fun u => s.low.getD u 0, fun u => s.part.getD u 0, s.op, s.parts⟩

def unmet (n : Nat) (met : List Nat) : Nat := sumR (fun u => if met.getD u 0 = 0 then 1 else 0) n

structure WP (n : Nat) (succ : Nat → List Nat) (root : Nat) (s : WkS) (number : Nat) (way : List (Nat × Nat)) : Prop where
  inv : Inv n succ root number (tsOf s) way
  on : ∀ u, s.on.getD u false = true ↔ u ∈ s.op
  cap : s.parts + s.op.length + 1 ≤ number
  num : number + unmet n s.met ≤ n + 1
  ml : s.met.length = n
  ll : s.low.length = n
  ol : s.on.length = n
  pl : s.part.length = n

section
variable {n : Nat} {succ : Nat → List Nat} {root : Nat} {s : WkS} {number : Nat} {way w0 : List (Nat × Nat)} {v k x : Nat}

theorem upd_getD {l : List Nat} {i x : Nat} (hi : i < l.length) : (fun u => (l.set i x).getD u 0) = upd (fun u => l.getD u 0) i x := by
  funext u
  rw [getD_setN hi]; rfl

theorem tsOf_meet (hm : x < s.met.length) (hl : x < s.low.length) : tsOf (s.meet x number) = (tsOf s).meet x number := by
  simp only [tsOf, WkS.meet, TS.meet, upd_getD hm, upd_getD hl]

theorem tsOf_low {y : Nat} (hl : v < s.low.length) : tsOf { s with low := s.low.set v y } = { tsOf s with l := upd (tsOf s).l v y } := by
  simp only [tsOf, upd_getD hl]

theorem unmet_meet (hx : x < n) (hl : s.met.length = n) (h0 : s.met.getD x 0 = 0) (hn : number ≠ 0) : unmet n (s.met.set x number) + 1 = unmet n s.met := by
  unfold unmet
  have h1 := sumR_upd (f := fun u => if (s.met.set x number).getD u 0 = 0 then 1 else 0) (g := fun u => if s.met.getD u 0 = 0 then 1 else 0) hx fun u hu => by
    rw [getD_setN (by omega), if_neg hu]
  have h2 : (if (s.met.set x number).getD x 0 = 0 then 1 else 0) = 0 := by rw [getD_setN (by omega), if_pos rfl, if_neg hn]
  have h3 : (if s.met.getD x 0 = 0 then 1 else 0) = 1 := if_pos h0
  have h4 : sumR (fun u => if (s.met.set x number).getD u 0 = 0 then 1 else 0) n + (if s.met.getD x 0 = 0 then 1 else 0) = sumR (fun u => if s.met.getD u 0 = 0 then 1 else 0) n + (if (s.met.set x number).getD x 0 = 0 then 1 else 0) := h1
  rw [h2, h3] at h4
  omega

theorem on_meet (hx : x < s.on.length) (hon : ∀ u, s.on.getD u false = true ↔ u ∈ s.op) : ∀ u, (s.on.set x true).getD u false = true ↔ u ∈ s.op ++ [x] := fun u => by
  rw [getD_setB hx]
  by_cases e : u = x
  · simp [e]
  · rw [if_neg e, hon u]; simp [e]

theorem WP.start (hb : Base n succ number (tsOf s)) (hon : ∀ u, s.on.getD u false = false) (hcap : s.parts + 1 ≤ number) (hnum : number + unmet n s.met ≤ n + 1) (ml : s.met.length = n) (ll : s.low.length = n) (ol : s.on.length = n) (pl : s.part.length = n)
    (h0 : s.met.getD root 0 = 0) (hr : root < n) : WP n succ root (s.meet root number) (number + 1) [(root, 0)] := by
  have hop : s.op = [] := hb.op
  have hpos : 0 < number := by omega
  refine ⟨?_, ?_, ?_, ?_, by simpa [WkS.meet] using ml, by simpa [WkS.meet] using ll, by simpa [WkS.meet] using ol, by simpa [WkS.meet] using pl⟩
  · rw [tsOf_meet (by omega) (by omega)]; exact inv_start hb h0 hr
  · exact on_meet (by omega) fun u => by rw [hon u, hop]; simp
  · simp only [WkS.meet, hop, List.nil_append, List.length_cons, List.length_nil]; omega
  · have := unmet_meet (number := number) hr ml h0 (by omega)
    show number + 1 + unmet n (s.met.set root number) ≤ n + 1
    omega

theorem WP.meet (w : WP n succ root s number (w0 ++ [(v, k)])) (hk : (succ v)[k]? = some x) (h0 : s.met.getD x 0 = 0) (hx : x < n) : WP n succ root (s.meet x number) (number + 1) (w0 ++ [(v, k + 1)] ++ [(x, 0)]) := by
  have hcap := w.cap
  refine ⟨?_, ?_, ?_, ?_, by simpa [WkS.meet] using w.ml, by simpa [WkS.meet] using w.ll, by simpa [WkS.meet] using w.ol, by simpa [WkS.meet] using w.pl⟩
  · rw [tsOf_meet (by rw [w.ml]; exact hx) (by rw [w.ll]; exact hx)]; exact inv_meet w.inv hk h0 hx
  · exact on_meet (by rw [w.ol]; exact hx) w.on
  · simp only [WkS.meet, List.length_append, List.length_cons, List.length_nil]; omega
  · have := unmet_meet (number := number) hx w.ml h0 (by omega)
    have := w.num
    show number + 1 + unmet n (s.met.set x number) ≤ n + 1
    omega

theorem WP.skip (w : WP n succ root s number (w0 ++ [(v, k)])) (hk : (succ v)[k]? = some x) (h0 : s.met.getD x 0 ≠ 0) (ho : s.on.getD x false = false) : WP n succ root s number (w0 ++ [(v, k + 1)]) :=
  ⟨inv_skip w.inv hk h0 (fun hm => by rw [(w.on x).2 hm] at ho; cases ho), w.on, w.cap, w.num, w.ml, w.ll, w.ol, w.pl⟩

theorem WP.vlt (w : WP n succ root s number (w0 ++ [(v, k)])) : v < n := w.inv.rng v (w.inv.om v w.inv.top.1)

theorem WP.low (w : WP n succ root s number (w0 ++ [(v, k)])) (hk : (succ v)[k]? = some x) (ho : s.on.getD x false = true) :
    WP n succ root { s with low := s.low.set v (min (s.low.getD v 0) (s.met.getD x 0)) } number (w0 ++ [(v, k + 1)]) := by
  have hv := w.vlt
  refine ⟨?_, w.on, w.cap, w.num, w.ml, by simpa using w.ll, w.ol, w.pl⟩
  rw [tsOf_low (by rw [w.ll]; exact hv)]
  exact inv_low w.inv hk ((w.on x).1 ho)

theorem WP.pop {up j : Nat} (w : WP n succ root s number (w0 ++ [(up, j)] ++ [(v, k)])) (hk : (succ v).length ≤ k) (hl : s.low.getD v 0 ≠ s.met.getD v 0) :
    WP n succ root { s with low := s.low.set up (min (s.low.getD up 0) (s.low.getD v 0)) } number (w0 ++ [(up, j)]) := by
  have hup : up < n := w.inv.rng up (w.inv.om up (w.inv.wo (up, j) (by simp)))
  refine ⟨?_, w.on, w.cap, w.num, w.ml, by simpa using w.ll, w.ol, w.pl⟩
  rw [tsOf_low (by rw [w.ll]; exact hup)]
  exact inv_pop w.inv hk hl

theorem tsOf_left {s' : WkS} {A C : List Nat} (l : Left s A C s') (hp : s'.parts = s.parts + 1) : tsOf s' = (tsOf s).shut A C := by
  have h1 : (fun u => s'.part.getD u 0) = fun u => if u ∈ C then s.parts else s.part.getD u 0 := funext l.part
  have h2 := l.met
  have h3 := l.low
  have h4 := l.op
  simp only [tsOf, TS.shut, h1, h2, h3, h4, hp]

theorem WP.nodup (w : WP n succ root s number way) : s.op.Nodup := by
  have h := w.inv.nd
  refine h.imp_of_mem fun _ _ hlt e => ?_
  rw [e] at hlt; exact Nat.lt_irrefl _ hlt

theorem WP.shut {s' : WkS} {A B : List Nat} (w : WP n succ root s number (w0 ++ [(v, k)])) (hk : (succ v).length ≤ k) (hl : s.low.getD v 0 = s.met.getD v 0) (ho : s.op = A ++ v :: B) (l : Left s A (v :: B) s') (hp : s'.parts = s.parts + 1)
    (ml : s'.met.length = n) (ll : s'.low.length = n) (ol : s'.on.length = n) (pl : s'.part.length = n) : WP n succ root s' number w0 := by
  have hnd := w.nodup
  rw [ho] at hnd
  have hdis := (List.nodup_append.1 hnd).2.2
  refine ⟨?_, fun u => ?_, ?_, ?_, ml, ll, ol, pl⟩
  · rw [tsOf_left l hp]; exact inv_shut w.inv hk hl ho
  · rw [l.on u, l.op]
    by_cases hc : u ∈ v :: B
    · rw [if_pos hc]
      exact ⟨fun e => Bool.noConfusion e, fun hA => (hdis u hA u hc rfl).elim⟩
    · rw [if_neg hc, w.on u, ho, List.mem_append]
      exact ⟨fun h => h.resolve_right hc, .inl⟩
  · have h1 := w.cap
    rw [ho, List.length_append, List.length_cons] at h1
    rw [hp, l.op]; omega
  · rw [l.met]; exact w.num

/-- The last of what is open, and what lies below. -/
theorem WP.split (w : WP n succ root s number (w0 ++ [(v, k)])) : ∃ A B, s.op = A ++ v :: B ∧ v ∉ B := by
  obtain ⟨A, B, h⟩ := List.append_of_mem w.inv.top.1
  have h : s.op = A ++ v :: B := h
  refine ⟨A, B, h, fun hB => ?_⟩
  have hnd := w.nodup
  rw [h] at hnd
  have := (List.nodup_append.1 hnd).2.1
  exact (List.nodup_cons.1 this).1 hB

theorem pw_len {f : Nat × Nat → Nat} {N : Nat} : ∀ (l : List (Nat × Nat)) (lo : Nat), l.Pairwise (fun a b => f a < f b) → (∀ e ∈ l, lo ≤ f e ∧ f e < N) → l.length ≤ N - lo
  | [], lo, _, _ => by simp
  | e :: r, lo, hp, hb => by
    obtain ⟨h1, h2⟩ := List.pairwise_cons.1 hp
    have h3 := hb e (by simp)
    have := pw_len r (f e + 1) h2 fun e' he' => ⟨h1 e' he', (hb e' (by simp [he'])).2⟩
    simp only [List.length_cons]; omega

theorem WP.wlen (w : WP n succ root s number way) : way.length ≤ number := by
  have := pw_len (f := fun e => (tsOf s).m e.1) (N := number) way 0 w.inv.ws fun e _ => ⟨Nat.zero_le _, w.inv.num e.1⟩
  omega
theorem WP.nle (w : WP n succ root s number way) : number ≤ n + 1 := by have := w.num; omega
end
end Go.Y
