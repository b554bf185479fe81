/- The walk from a node, by its contract. -/
import Derived.Test.YtdoanndgjipbmaaGFrom2
import Derived.Test.YtdoanndgjipbmaaGX4
namespace Go.Y
open Go.Proofs Tar
set_option maxRecDepth 100000

/-- A graph's rows, as they are handed in. -/
def Rows (gc : List V) (G : List (List Nat)) : Prop := gc.length = G.length ∧ ∀ (u : Nat) (row : List Nat), G[u]? = some row → ∃ c : Option Nat, gc[u]? = some (V.ts (nums row) row.length c)
def sucG (G : List (List Nat)) (u : Nat) : List Nat := G.getD u []

structure Gr (I : WkI) (G : List (List Nat)) (gc : List V) (gcap : Option Nat) : Prop where
  gv : I.gv = .ts gc G.length gcap
  rows : Rows gc G
  n : I.n = G.length
  ok : ∀ u x, x ∈ sucG G u → x < G.length
  small : G.length < 2 ^ 28
  smallR : ∀ u, (sucG G u).length < 2 ^ 28

theorem minI (a b : Nat) : (if ((b : Nat) : Int) < (a : Nat) then ((b : Nat) : Int) else (a : Nat)) = ((min a b : Nat) : Int) := by
  by_cases h : b < a
  · rw [if_pos (by omega), Nat.min_eq_right (by omega)]
  · rw [if_neg (by omega), Nat.min_eq_left (by omega)]

theorem roundW_out {Y : YP} {n : Nat} {so sl : List Nat} {I : Nat → List V → Heap → Prop} {m id j x : Nat} {r : List Code} {Q : Out → St → Prop} {len : Nat} {vs : List V} {h : Heap} (hid : id = x) (hj : j ≠ x) (hq : AtV so Q (.exit j) len vs h) : RoundW Y n so sl I m id r Q (.exit j) len vs h := by
  simp only [RoundW]
  rw [if_neg (by rw [hid]; exact hj)]
  exact hq
theorem lastV_exit {id j : Nat} {K : Out → Nat → List V → Heap → Prop} {n : Nat} {vs : List V} {h : Heap} (hj : j = id) (hk : K .normal n vs h) : LastV id K (.exit j) n vs h := by
  simp only [LastV]; rw [if_pos hj]; exact hk

section
variable {I : WkI} {h : Heap} {a : Option Nat} {s : WkS} {sl : V}
theorem WkR.fr (r : WkR I h a s sl) {h' : Heap} {i : Nat} (hf : FrS h (fun x => x = i) h') (hi : i ∉ I.ids) (ha : a ≠ some i) : WkR I h' a s sl := by
  have keep : ∀ j ∈ I.ids, h'.get j = h.get j := fun j hj => hf.2 j (r.lt j hj) fun e => hi (e ▸ hj)
  exact { stk := by
            rcases r.stk with h1 | ⟨id, ext, l, h1, h2, h3, h4, h5⟩
            · exact .inl h1
            · exact .inr ⟨id, ext, l, h1, h2, h3, Nat.lt_of_lt_of_le h4 hf.1, by rw [hf.2 id h4 fun e => ha (by rw [h1, e])]; exact h5⟩
          w := by rw [keep I.id (by simp [WkI.ids])]; exact r.w, m := by rw [keep I.im (by simp [WkI.ids])]; exact r.m, l := by rw [keep I.il (by simp [WkI.ids])]; exact r.l
          o := by rw [keep I.io (by simp [WkI.ids])]; exact r.o, p := by rw [keep I.ip (by simp [WkI.ids])]; exact r.p
          ml := r.ml, ll := r.ll, ol := r.ol, pl := r.pl, nd := r.nd, na := r.na, lt := fun j hj => Nat.lt_of_lt_of_le (r.lt j hj) hf.1 }
end

/-- What holds in the walk. -/
structure OJ (I : WkI) (G : List (List Nat)) (root : Nat) (h0 : Heap) (a0 : Option Nat) (s0 : WkS) (s : WkS) (a : Option Nat) (sl : V) (number : Nat) (way : List (Nat × Nat)) (id7 l7 : Nat) (c7 : Option Nat) (h : Heap) : Prop where
  wp : WP I.n (sucG G) root s number way
  r : WkR I h a s sl
  w : WayR h id7 l7 c7 way
  new : h0.nx ≤ id7
  na : a ≠ some id7
  nid : id7 ∉ I.ids
  fr : FrS h0 (I.own a0) h
  fa : ∀ j, a = some j → a0 = some j ∨ h0.nx ≤ j
  mono : ∀ u, s0.met.getD u 0 ≠ 0 → s.met.getD u 0 ≠ 0
  rm : s.met.getD root 0 ≠ 0

def phiG (I : WkI) (G : List (List Nat)) (s : WkS) (way : List (Nat × Nat)) : Nat := phi I.n (fun u => (sucG G u).length) s.met way

def OI (I : WkI) (G : List (List Nat)) (root : Nat) (h0 : Heap) (a0 : Option Nat) (s0 : WkS) (m : Nat) (vs : List V) (h : Heap) : Prop :=
  ∃ (s : WkS) (a : Option Nat) (sl : V) (number : Nat) (way : List (Nat × Nat)) (id7 l7 : Nat) (c7 : Option Nat), vs = [.p (some (I.id, 0)), .i .i64 (number : Nat), .sl (some (id7, 0)) l7 c7 2] ∧ OJ I G root h0 a0 s0 s a sl number way id7 l7 c7 h ∧ phiG I G s way < m

def II (I : WkI) (G : List (List Nat)) (root : Nat) (h0 : Heap) (a0 : Option Nat) (s0 : WkS) (a : Option Nat) (sl : V) (number : Nat) (w0 : List (Nat × Nat)) (v id7 l7 : Nat) (c7 : Option Nat) (mo : Nat) (m : Nat) (vs : List V) (h : Heap) : Prop :=
  ∃ (k : Nat) (s : WkS), vs = [.p (some (I.id, 0)), .i .i64 (number : Nat), .sl (some (id7, 0)) l7 c7 2, .p (some (id7, 2 * w0.length))] ∧ OJ I G root h0 a0 s0 s a sl number (w0 ++ [(v, k)]) id7 l7 c7 h ∧ phiG I G s (w0 ++ [(v, k)]) < m ∧ phiG I G s (w0 ++ [(v, k)]) < mo

/-- What a walk leaves. -/
def WalkQ (I : WkI) (G : List (List Nat)) (root : Nat) (h0 : Heap) (a0 : Option Nat) (s0 : WkS) (v : V) (h : Heap) : Prop :=
  ∃ (s : WkS) (number : Nat), v = .i .i64 (number : Nat) ∧ WkQ I h0 a0 s h ∧ Base I.n (sucG G) number (tsOf s) ∧ (∀ u, s.on.getD u false = false) ∧ s.parts + 1 ≤ number ∧ number + unmet I.n s.met ≤ I.n + 1 ∧
    (∀ u, s0.met.getD u 0 ≠ 0 → s.met.getD u 0 ≠ 0) ∧ s.met.getD root 0 ≠ 0

theorem at1' (i : Nat) : (i : Int).toNat * 1 = i := by simp

section
variable {I : WkI} {G : List (List Nat)} {gc : List V} {gcap : Option Nat} {root : Nat} {h0 : Heap} {a0 : Option Nat} {s0 : WkS}

/-- An edge. -/
theorem edge_step (g : Gr I G gc gcap) {s : WkS} {a : Option Nat} {sl : V} {number : Nat} {w0 : List (Nat × Nat)} {v k id7 l7 : Nat} {c7 : Option Nat} {h : Heap} (o : OJ I G root h0 a0 s0 s a sl number (w0 ++ [(v, k)]) id7 l7 c7 h) (K : Out → Nat → List V → Heap → Prop)
    (kn : ∀ s' h', OJ I G root h0 a0 s0 s' a sl number (w0 ++ [(v, k + 1)]) id7 l7 c7 h' → phiG I G s' (w0 ++ [(v, k + 1)]) < phiG I G s (w0 ++ [(v, k)]) → K .normal 184 [.p (some (I.id, 0)), .i .i64 (number : Nat), .sl (some (id7, 0)) l7 c7 2, .p (some (id7, 2 * w0.length))] h')
    (k1 : ∀ s' a' sl' way' id' l' c' h', OJ I G root h0 a0 s0 s' a' sl' (number + 1) way' id' l' c' h' → phiG I G s' way' < phiG I G s (w0 ++ [(v, k)]) → K (.exit 1) 184 [.p (some (I.id, 0)), .i .i64 ((number + 1 : Nat) : Int), .sl (some (id', 0)) l' c' 2, .p (some (id7, 2 * w0.length))] h')
    (k2 : (sucG G v).length ≤ k → K (.exit 2) 184 [.p (some (I.id, 0)), .i .i64 (number : Nat), .sl (some (id7, 0)) l7 c7 2, .p (some (id7, 2 * w0.length))] h) :
    codeP Try.Y (Try.Y.loc 21) 100 ((flat (loopB (post (flat (blockB (post (flat (loopB (post (flat (bodyOf Try.f21)))))))))))) ⟨mk 184 (([0, 2, 7, 8] : List Nat).zip [.p (some (I.id, 0)), .i .i64 (number : Nat), .sl (some (id7, 0)) l7 c7 2, .p (some (id7, 2 * w0.length))]), [], h⟩ (VQ [0, 2, 7, 8] K) := by
  rw [f21_3]
  have hvn : v < I.n := o.wp.vlt
  have hvG : v < G.length := by rw [← g.n]; exact hvn
  have hGv : G[v]? = some (sucG G v) := by simp [sucG, hvG]
  obtain ⟨rc, hrow⟩ := g.rows.2 v _ hGv
  obtain ⟨c0, c1, c2, c3, c4, c5, c6⟩ := I.cell sl s.parts
  have c0' : (I.cells sl s.parts)[0]? = some (.ts gc G.length gcap) := by rw [c0, g.gv]
  obtain ⟨wn, wk⟩ := o.w.node
  have hbv : (0 : Int) ≤ (v : Nat) ∧ ((v : Nat) : Int) < (G.length : Nat) := ⟨by omega, by omega⟩
  have htr : takeX 1 (List.drop (((v : Nat) : Int).toNat * 1) gc) = some [.ts (nums (sucG G v)) (sucG G v).length rc] := by rw [at1']; exact takeX_at hrow
  refine ⟨_, wk, _, _, _, hcells_at o.r.w c0', _, wn, hbv, _, _, _, htr, if_lt_nat (fun hlt => ?_) (fun hge => k2 hge)⟩
  -- the edge
  obtain ⟨x, hx⟩ : ∃ x, (sucG G v)[k]? = some x := ⟨_, List.getElem?_eq_getElem hlt⟩
  have hxn : x < I.n := by rw [g.n]; exact g.ok v x (List.mem_of_getElem? hx)
  have hxs : (nums (sucG G v))[k]? = some (.i .i64 (x : Nat)) := by simp [nums, hx]
  have hk28 := g.smallR v
  refine ⟨_, _, _, hcells_at o.r.w c0', _, wn, hbv, _, _, _, htr, _, wk, ⟨by omega, by omega⟩, (x : Nat), by rw [at1']; exact takeX_at hxs, _, wk, ?_⟩
  rw [wrap_succ (by omega)]
  obtain ⟨h1, q1, q2, q3, q4⟩ := o.w.next (k + 1)
  refine ⟨h1, q1, ?_⟩
  have r1 : WkR I h1 a s sl := o.r.fr q3 o.nid o.na
  have hbx : (0 : Int) ≤ (x : Nat) ∧ ((x : Nat) : Int) < (I.n : Nat) := ⟨by omega, by omega⟩
  have hid7 := o.w.lt
  have fown : FrS h0 (I.own a0) h1 := ⟨Nat.le_trans o.fr.1 q3.1, fun j hj hn => by rw [q3.2 j (Nat.lt_of_lt_of_le hj o.fr.1) fun e => by have := o.new; omega]; exact o.fr.2 j hj hn⟩
  have phik := phi_next (n := I.n) (E := fun u => (sucG G u).length) (met := s.met) (w0 := w0) (v := v) (k := k) hlt
  refine ⟨_, _, _, _, hcells_at r1.w c1, hbx, rfl, _, by rw [at1]; exact hcells_at r1.m (nums_get (by rw [r1.ml]; exact hxn)), if_mk (fun hc => ?_) (fun hc => ?_)⟩
  · -- it is met now
    have h0x : s.met.getD x 0 = 0 := by simpa using hc
    have hnn := o.wp.nle
    have hcap := o.wp.cap
    have hs := g.small
    have hgn := g.n
    refine (meet_con r1 hxn (by omega)).mono fun w h2 ⟨hw, a2, sl2, r2, f2, hn2⟩ => ⟨hw, ?_⟩
    have hkeep : h2.get id7 = h1.get id7 := f2.2 id7 (by rw [q4]; exact hid7) fun hq => by
      rcases hq with hq | hq
      · exact o.nid hq
      · exact o.na hq
    have w2 := q2.fr f2.1 hkeep
    have hwl := o.wp.wlen
    obtain ⟨id', l', c', h3, p1, p2, p3, p4⟩ := WayR.push (Y := Try.Y) (st := 51) (e := 50) (te := ⟨2, 16, .struct [(0, 3), (1, 3)], [.i .i64 0, .i .i64 0]⟩) (x := x) (by kernel_rfl) (by kernel_rfl) rfl rfl w2 (by simp at hwl ⊢; omega)
    refine ⟨_, _, _, _, h3, p1, ?_⟩
    rw [wrap_succ (by omega)]
    have ha2 : a2 ≠ some id7 := fun e => by
      rcases hn2 id7 e with h4 | h4
      · exact o.na h4
      · rw [q4] at h4; omega
    have r3 : WkR I h3 a2 (s.meet x number) sl2 := r2.fr p3 o.nid ha2
    refine k1 (s.meet x number) a2 sl2 _ id' l' c' h3 ⟨o.wp.meet hx h0x hxn, r3, p2, ?_, ?_, ?_, ?_, ?_, ?_, ?_⟩ ?_
    · rcases p4 with h4 | h4
      · rw [h4]; exact o.new
      · have := o.new; have := f2.1; omega
    · intro e
      rcases p4 with h4 | h4
      · rw [h4] at e; exact ha2 e
      · rcases r2.stk with ⟨h5, _⟩ | ⟨id, ext, l, h5, _, _, h6, _⟩
        · rw [h5] at e; cases e
        · rw [h5] at e; cases e; omega
    · rcases p4 with h4 | h4
      · rw [h4]; exact o.nid
      · intro hm; have := r2.lt id' hm; omega
    · have f3 := fown.own o.fa f2
      refine ⟨Nat.le_trans f3.1 p3.1, fun j hj hn => ?_⟩
      rw [p3.2 j (Nat.lt_of_lt_of_le hj f3.1) fun e => by have := o.new; omega]
      exact f3.2 j hj hn
    · intro j hj
      rcases hn2 j hj with h4 | h4
      · exact o.fa j h4
      · exact .inr (Nat.le_trans fown.1 h4)
    · intro u hu
      show (s.met.set x number).getD u 0 ≠ 0
      rw [getD_setN (by rw [o.r.ml]; exact hxn)]
      split
      · omega
      · exact o.mono u hu
    · show (s.met.set x number).getD root 0 ≠ 0
      rw [getD_setN (by rw [o.r.ml]; exact hxn)]
      split
      · omega
      · exact o.rm
    · have := phi_meet (n := I.n) (E := fun u => (sucG G u).length) (met := s.met) (way := w0 ++ [(v, k + 1)]) (number := number) hxn o.r.ml h0x (by omega)
      exact Nat.lt_trans this phik
  · have h0x : s.met.getD x 0 ≠ 0 := by simpa using hc
    refine ⟨_, _, _, _, hcells_at r1.w c4, hbx, rfl, _, by rw [at1]; exact hcells_at r1.o (bools_get (by rw [r1.ol]; exact hxn)), if_mk (fun hb => ?_) (fun hb => ?_)⟩
    · obtain ⟨wn1, wk1⟩ := q2.node
      have hbv' : (0 : Int) ≤ (v : Nat) ∧ ((v : Nat) : Int) < (I.n : Nat) := ⟨by omega, by omega⟩
      refine ⟨_, _, _, _, hcells_at r1.w c2, _, wn1, _, _, _, _, hcells_at r1.w c2, _, wn1, hbv', rfl, _, by rw [at1]; exact hcells_at r1.l (nums_get (by rw [r1.ll]; exact hvn)), _, _, _, _, hcells_at r1.w c1, hbx, rfl, _, by rw [at1]; exact hcells_at r1.m (nums_get (by rw [r1.ml]; exact hxn)), hbv', rfl, _, by rw [at1]; exact hstore_at r1.l _ (by rw [nums_length, r1.ll]; exact hvn), ?_⟩
      have e : (nums s.low).set v (V.i .i64 ((fun (x y : Int) => if y < x then y else x) ((s.low.getD v 0 : Nat) : Int) ((s.met.getD x 0 : Nat) : Int))) = nums (s.low.set v (min (s.low.getD v 0) (s.met.getD x 0))) := by
        rw [← nums_set]
        show (nums s.low).set v (V.i .i64 (if ((s.met.getD x 0 : Nat) : Int) < ((s.low.getD v 0 : Nat) : Int) then ((s.met.getD x 0 : Nat) : Int) else ((s.low.getD v 0 : Nat) : Int))) = _
        rw [minI]
      rw [e]
      have r2 := r1.setL v (min (s.low.getD v 0) (s.met.getD x 0))
      refine kn _ _ ⟨o.wp.low hx hb, r2, q2.fr (by simp) (by rw [Heap.get_set, if_neg (fun e => o.nid (by rw [e]; simp [WkI.ids]))]), o.new, o.na, o.nid, ?_, o.fa, o.mono, o.rm⟩ phik
      exact fown.own o.fa ((FrS.set h1 I.il _).mono fun y _ e => .inl (by rw [e]; simp [WkI.ids]))
    · exact kn s h1 ⟨o.wp.skip hx h0x hb, r1, q2, o.new, o.na, o.nid, fown, o.fa, o.mono, o.rm⟩ phik
end
end Go.Y

/- The walk from a node, by its contract: a node is left; the walk. -/
namespace Go.Y
open Go.Proofs Tar
set_option maxRecDepth 100000

theorem set_same_getD {l : List Nat} {i x : Nat} (hi : i < l.length) (h : l.getD i 0 = x) : l.set i x = l := by
  apply List.ext_getElem?
  intro j
  rw [List.getElem?_set]
  by_cases e : i = j
  · subst e
    rw [List.getD_eq_getElem?_getD, List.getElem?_eq_getElem hi] at h
    simp at h
    simp [hi, h]
  · simp [e]

section
variable {I : WkI} {G : List (List Nat)} {gc : List V} {gcap : Option Nat} {root : Nat} {h0 : Heap} {a0 : Option Nat} {s0 : WkS}

theorem pop_step (g : Gr I G gc gcap) {s : WkS} {a : Option Nat} {sl : V} {number : Nat} {w0 : List (Nat × Nat)} {v k id7 l7 : Nat} {c7 : Option Nat} {h : Heap} (o : OJ I G root h0 a0 s0 s a sl number (w0 ++ [(v, k)]) id7 l7 c7 h) (hk : (sucG G v).length ≤ k) (K : Out → Nat → List V → Heap → Prop)
    (kn : ∀ s' a' sl' h', OJ I G root h0 a0 s0 s' a' sl' number w0 id7 w0.length c7 h' → phiG I G s' w0 < phiG I G s (w0 ++ [(v, k)]) → K .normal 184 [.p (some (I.id, 0)), .i .i64 (number : Nat), .sl (some (id7, 0)) w0.length c7 2] h') :
    codeP Try.Y (Try.Y.loc 21) 100 (((post (flat (blockB (post (flat (loopB (post (flat (bodyOf Try.f21))))))))).drop 1)) ⟨mk 184 (([0, 2, 7, 8] : List Nat).zip [.p (some (I.id, 0)), .i .i64 (number : Nat), .sl (some (id7, 0)) l7 c7 2, .p (some (id7, 2 * w0.length))]), [], h⟩ (VQ [0, 2, 7] K) := by
  rw [f21_4]
  have hvn : v < I.n := o.wp.vlt
  have hlen := o.w.len
  simp only [List.length_append, List.length_cons, List.length_nil] at hlen
  have hwl := o.wp.wlen
  simp only [List.length_append, List.length_cons, List.length_nil] at hwl
  have hnn := o.wp.nle
  have hcap := o.wp.cap
  have hs := g.small
  have hgn := g.n
  have wl : IntKind.i64.wrap ((l7 : Int) - (1 : Int)) = ((w0.length : Nat) : Int) := by rw [wrap_ok (by omega) (by omega)]; omega
  have wt : ((w0.length : Nat) : Int).toNat - (0 : Nat) = w0.length := by simp
  have hmap : Option.map (fun (x : Nat) => x - (0 : Nat)) c7 = c7 := by cases c7 <;> simp
  rw [wl, wt, hmap]
  obtain ⟨c0, c1, c2, c3, c4, c5, c6⟩ := I.cell sl s.parts
  obtain ⟨wn, wk⟩ := o.w.node
  have hbv : (0 : Int) ≤ (v : Nat) ∧ ((v : Nat) : Int) < (I.n : Nat) := ⟨by omega, by omega⟩
  have hid7 := o.w.lt
  have phip := phi_pop (n := I.n) (E := fun u => (sucG G u).length) (met := s.met) (w0 := w0) (v := v) (k := k)
  have hcg : ((w0.length : Nat) : Int) ≤ ((c7.getD l7 : Nat) : Int) := by
    obtain ⟨ext, _, hc⟩ := o.w.get
    cases c7 with
    | none => simp only [Option.getD_none]; omega
    | some c' => have := hc c' rfl; simp only [Option.getD_some]; omega
  -- a part is shut
  have shut : s.low.getD v 0 = s.met.getD v 0 → Con Try.Y 29 [.p (some (I.id, 0)), .i .i64 (v : Nat)] h fun w h' => w = .tup [] ∧ K .normal 184 [.p (some (I.id, 0)), .i .i64 (number : Nat), .sl (some (id7, 0)) w0.length c7 2] h' := fun heq => by
    obtain ⟨A, B, ho, hvB⟩ := o.wp.split
    refine (shut_con o.r ho hvB (fun u hu => o.wp.inv.rng u (o.wp.inv.om u hu)) (by omega) (by omega)).mono fun w h' ⟨hw, s', hL, hp, a', sl', r', f', hn'⟩ => ⟨hw, ?_⟩
    have ha2 : a' ≠ some id7 := fun e => by
      rcases hn' id7 e with h4 | h4
      · exact o.na h4
      · omega
    have hkeep : h'.get id7 = h.get id7 := f'.2 id7 hid7 fun hq => by
      rcases hq with hq | hq
      · exact o.nid hq
      · exact o.na hq
    refine kn s' a' sl' h' ⟨o.wp.shut hk heq ho hL hp r'.ml r'.ll r'.ol r'.pl, r', (o.w.pop).fr f'.1 hkeep, o.new, ha2, o.nid, o.fr.own o.fa f', fun j hj => ?_, ?_, ?_⟩ ?_
    · rcases hn' j hj with h4 | h4
      · exact o.fa j h4
      · exact .inr (Nat.le_trans o.fr.1 h4)
    · rw [hL.met]; exact o.mono
    · rw [hL.met]; exact o.rm
    · show phi I.n _ s'.met w0 < _
      rw [hL.met]; exact phip
  refine ⟨_, wn, rfl, ⟨by omega, hcg⟩, ?_⟩
  rcases List.eq_nil_or_concat w0 with hw0 | ⟨w1, ⟨up, j⟩, hw0⟩
  · -- the first of the way
    have heq : s.low.getD v 0 = s.met.getD v 0 := by
      have hi := o.wp.inv
      rw [hw0] at hi
      exact pop_root hi
    refine if_mk (fun hc => ?_) (fun _ => ?_)
    · rw [hw0] at hc; simp [ltI] at hc
    · refine ⟨_, _, _, _, hcells_at o.r.w c2, hbv, rfl, _, by rw [at1]; exact hcells_at o.r.l (nums_get (by rw [o.r.ll]; exact hvn)), _, _, _, _, hcells_at o.r.w c1, hbv, rfl, _, by rw [at1]; exact hcells_at o.r.m (nums_get (by rw [o.r.ml]; exact hvn)), if_mk (fun _ => shut heq) (fun hc => ?_)⟩
      rw [heq] at hc; simp at hc
  · have hw0' : w0 = w1 ++ [(up, j)] := by simpa using hw0
    have hl0 : w0.length = w1.length + 1 := by rw [hw0']; simp
    have wp' : WP I.n (sucG G) root s number (w1 ++ [(up, j)] ++ [(v, k)]) := by rw [← hw0']; exact o.wp
    have hupn : up < I.n := wp'.inv.rng up (wp'.inv.om up (wp'.inv.wo (up, j) (by simp)))
    have hbu : (0 : Int) ≤ (up : Nat) ∧ ((up : Nat) : Int) < (I.n : Nat) := ⟨by omega, by omega⟩
    have wl2 : IntKind.i64.wrap (((w0.length : Nat) : Int) - (1 : Int)) = ((w1.length : Nat) : Int) := by rw [wrap_ok (by omega) (by omega)]; omega
    have wp1 : WayR h id7 w0.length c7 (w1 ++ [(up, j)]) := by have := o.w.pop; rwa [hw0'] at this ⊢
    obtain ⟨wu, _⟩ := wp1.node
    refine if_mk (fun _ => ?_) (fun hc => ?_)
    · rw [wl2]
      refine ⟨⟨by omega, by omega⟩, rfl, (up : Nat), ?_, ?_⟩
      · have : 0 + 0 * 2 + ((w1.length : Nat) : Int).toNat * 2 + 0 = 2 * w1.length := by simp; omega
        rw [this]; exact wu
      · refine ⟨_, _, _, _, hcells_at o.r.w c2, _, _, _, _, hcells_at o.r.w c2, hbu, rfl, _, by rw [at1]; exact hcells_at o.r.l (nums_get (by rw [o.r.ll]; exact hupn)), _, _, _, _, hcells_at o.r.w c2, hbv, rfl, _, by rw [at1]; exact hcells_at o.r.l (nums_get (by rw [o.r.ll]; exact hvn)), hbu, rfl, _, by rw [at1]; exact hstore_at o.r.l _ (by rw [nums_length, o.r.ll]; exact hupn), ?_⟩
        have e : (nums s.low).set up (V.i .i64 ((fun (x y : Int) => if y < x then y else x) ((s.low.getD up 0 : Nat) : Int) ((s.low.getD v 0 : Nat) : Int))) = nums (s.low.set up (min (s.low.getD up 0) (s.low.getD v 0))) := by
          rw [← nums_set]
          show (nums s.low).set up (V.i .i64 (if ((s.low.getD v 0 : Nat) : Int) < ((s.low.getD up 0 : Nat) : Int) then ((s.low.getD v 0 : Nat) : Int) else ((s.low.getD up 0 : Nat) : Int))) = _
          rw [minI]
        rw [e]
        have r2 := o.r.setL up (min (s.low.getD up 0) (s.low.getD v 0))
        have hne : v ≠ up := fun e => by
          have := wp'.inv.top.2 (up, j) (by simp)
          rw [e] at this; exact Nat.lt_irrefl _ this
        have hlv : (s.low.set up (min (s.low.getD up 0) (s.low.getD v 0))).getD v 0 = s.low.getD v 0 := by rw [getD_setN (by rw [o.r.ll]; exact hupn), if_neg hne]
        refine ⟨_, _, _, _, hcells_at r2.w c2, hbv, rfl, _, by rw [at1]; exact hcells_at r2.l (nums_get (by rw [List.length_set, o.r.ll]; exact hvn)), _, _, _, _, hcells_at r2.w c1, hbv, rfl, _, by rw [at1]; exact hcells_at r2.m (nums_get (by rw [o.r.ml]; exact hvn)), ?_⟩
        rw [hlv]
        refine if_mk (fun hc => ?_) (fun hc => ?_)
        · have heq : s.low.getD v 0 = s.met.getD v 0 := by
            have : ((s.low.getD v 0 : Nat) : Int) = ((s.met.getD v 0 : Nat) : Int) := by simpa using hc
            omega
          have hsame : s.low.set up (min (s.low.getD up 0) (s.low.getD v 0)) = s.low := by
            refine set_same_getD (by rw [o.r.ll]; exact hupn) ?_
            have h5 := congrFun (pop_same wp'.inv heq) up
            rw [upd_same] at h5
            exact h5.symm
          rw [hsame]
          have hset : (h.set I.il (some (.arr (nums s.low) true))).get = h.get := by
            funext i
            rw [Heap.get_set]
            split
            · rename_i e; rw [e]; exact o.r.l.symm
            · rfl
          -- memory is as it was, but for how it is written
          have r3 : WkR I (h.set I.il (some (.arr (nums s.low) true))) a s sl := by have := o.r.setL up (min (s.low.getD up 0) (s.low.getD v 0)); rw [hsame] at this; exact this
          obtain ⟨A, B, ho, hvB⟩ := o.wp.split
          refine (shut_con r3 ho hvB (fun u hu => o.wp.inv.rng u (o.wp.inv.om u hu)) (by omega) (by omega)).mono fun w h' ⟨hw, s', hL, hp, a', sl', r', f', hn'⟩ => ⟨hw, ?_⟩
          have ha2 : a' ≠ some id7 := fun e => by
            rcases hn' id7 e with h4 | h4
            · exact o.na h4
            · simp at h4; omega
          have hkeep : h'.get id7 = h.get id7 := by
            rw [f'.2 id7 (by simpa using hid7) fun hq => by
              rcases hq with hq | hq
              · exact o.nid hq
              · exact o.na hq, hset]
          have f1 : FrS h (I.own a) h' := ⟨f'.1, fun i hi hn => by rw [f'.2 i hi hn, hset]⟩
          refine kn s' a' sl' h' ⟨o.wp.shut hk heq ho hL hp r'.ml r'.ll r'.ol r'.pl, r', (o.w.pop).fr f'.1 hkeep, o.new, ha2, o.nid, o.fr.own o.fa f1, fun i hi => ?_, ?_, ?_⟩ ?_
          · rcases hn' i hi with h4 | h4
            · exact o.fa i h4
            · exact .inr (Nat.le_trans o.fr.1 h4)
          · rw [hL.met]; exact o.mono
          · rw [hL.met]; exact o.rm
          · show phi I.n _ s'.met w0 < _
            rw [hL.met]; exact phip
        · have hneq : s.low.getD v 0 ≠ s.met.getD v 0 := fun e => by rw [e] at hc; simp at hc
          refine kn _ a sl _ ⟨by rw [hw0']; exact wp'.pop hk hneq, r2, (o.w.pop).fr (by simp) (by rw [Heap.get_set, if_neg (fun e => o.nid (by rw [e]; simp [WkI.ids]))]), o.new, o.na, o.nid, o.fr.own o.fa ((FrS.set h I.il _).mono fun y _ e => .inl (by rw [e]; simp [WkI.ids])), o.fa, o.mono, o.rm⟩ phip
    · rw [hl0] at hc; simp [ltI] at hc

theorem walk_con (g : Gr I G gc gcap) {a : Option Nat} {s : WkS} {sl : V} {h : Heap} {number : Nat} (r : WkR I h a s sl) (hb : Base I.n (sucG G) number (tsOf s)) (hon : ∀ u, s.on.getD u false = false) (hcap : s.parts + 1 ≤ number)
    (hnum : number + unmet I.n s.met ≤ I.n + 1) (h00 : s.met.getD root 0 = 0) (hr : root < I.n) :
    Con Try.Y 21 [.p (some (I.id, 0)), .i .i64 (root : Nat), .i .i64 (number : Nat)] h (WalkQ I G root h a s) := by
  have hs := g.small
  have hgn := g.n
  refine conf_of Try.Yok (fn := Try.f21) (by kernel_rfl) (by kernel_rfl) ?_
  refine pre_rule Try.Yok (n := 184) (loc := Try.Y.loc 21) 100 [0, 2, 7] (by kernel_rfl) ?_
  rw [show (⟨[.p (some (I.id, 0)), .i .i64 (root : Nat), .i .i64 (number : Nat)] ++ List.replicate (Try.f21.ntmps - [V.p (some (I.id, 0)), .i .i64 (root : Nat), .i .i64 (number : Nat)].length) .undef, [], h⟩ : St) = ⟨.p (some (I.id, 0)) :: .i .i64 (root : Nat) :: .i .i64 (number : Nat) :: List.replicate 181 .undef, [], h⟩ by rfl, f21_0]
  have hop : s.op = [] := hb.op
  refine (meet_con r hr (by rw [hop]; decide)).mono fun w h1 ⟨hw, a1, sl1, r1, f1, hn1⟩ => ⟨hw, ?_⟩
  rw [wrap_succ (by omega)]
  have wp0 := WP.start hb hon hcap hnum r.ml r.ll r.ol r.pl h00 hr
  have hf2 : FrS h1 (fun x => x = h1.nx) (h1.push (.arr [V.i .i64 ((root : Nat) : Int), .i .i64 (0 : Int)] true)) := ⟨by simp, fun j hj _ => by rw [Heap.get_push, if_neg (by omega)]⟩
  have hnid : h1.nx ∉ I.ids := fun hm => by have := r1.lt _ hm; omega
  have hna : a1 ≠ some h1.nx := fun e => by
    rcases r1.stk with ⟨h5, _⟩ | ⟨id, ext, l, h5, _, _, h6, _⟩
    · rw [h5] at e; cases e
    · rw [h5] at e; cases e; omega
  have o0 : OJ I G root h a s (s.meet root number) a1 sl1 (number + 1) [(root, 0)] h1.nx 1 (some 1) (h1.push (.arr [V.i .i64 ((root : Nat) : Int), .i .i64 (0 : Int)] true)) := by
    refine ⟨wp0, r1.fr hf2 hnid hna, ⟨rfl, by simp, [], by rw [Heap.get_push, if_pos rfl]; rfl, fun c' hc => by cases hc; exact ⟨Nat.le_refl _, Nat.le_refl _⟩⟩, f1.1, hna, hnid, ⟨Nat.le_trans f1.1 (by simp), fun j hj hn => ?_⟩, hn1, fun u hu => ?_, ?_⟩
    · have := f1.1
      rw [Heap.get_push, if_neg (by omega)]; exact f1.2 j hj hn
    · show (s.met.set root number).getD u 0 ≠ 0
      rw [getD_setN (by rw [r.ml]; exact hr)]
      split
      · omega
      · exact hu
    · show (s.met.set root number).getD root 0 ≠ 0
      rw [getD_setN (by rw [r.ml]; exact hr), if_pos rfl]; omega
  refine ⟨rfl, loop2 [0, 2, 7] [0, 2, 7] rfl (by kernel_rfl) (OI I G root h a s) (phiG I G (s.meet root number) [(root, 0)] + 1) mk_len ⟨_, _, _, _, _, _, _, _, rfl, o0, Nat.lt_succ_self _⟩ ?_⟩
  rintro m vs h2 ⟨s2, a2, sl2, number2, way, id7, l7, c7, rfl, o, hm⟩
  refine pre_rule Try.Yok (n := 184) (loc := Try.Y.loc 21) 100 [0, 2, 7] (by kernel_rfl) ?_
  refine Eq.mpr (f21_1 I.id (number2 : Nat) id7 l7 c7 h2 _) ?_
  have hl7 := o.w.len
  refine if_pos_nat (fun hlt => ?_) (fun hz => ?_)
  · -- a node of the way
    rcases List.eq_nil_or_concat way with hw0 | ⟨w0, ⟨v, k⟩, hw0⟩
    · rw [hw0] at hl7; simp at hl7; omega
    have hw0' : way = w0 ++ [(v, k)] := by simpa using hw0
    subst hw0'
    have hwl := o.wp.wlen
    have hnn := o.wp.nle
    simp only [List.length_append, List.length_cons, List.length_nil] at hl7 hwl
    have wl : IntKind.i64.wrap ((l7 : Int) - (1 : Int)) = ((w0.length : Nat) : Int) := by rw [wrap_ok (by omega) (by omega)]; omega
    refine ⟨rfl, last_rule (by kernel_rfl) ?_⟩
    refine pre_rule Try.Yok (n := 184) (loc := Try.Y.loc 21) 100 [0, 2, 7, 8] (by kernel_rfl) ?_
    refine Eq.mpr (f21_2 I.id (number2 : Nat) id7 l7 c7 h2 _) ?_
    rw [wl]
    have hoff : 0 + ((w0.length : Nat) : Int).toNat * 2 = 2 * w0.length := by simp; omega
    rw [hoff]
    refine ⟨⟨by omega, by omega⟩, rfl, rfl, loop2 [0, 2, 7, 8] [0, 2, 7, 8] rfl (by kernel_rfl) (II I G root h a s a2 sl2 number2 w0 v id7 l7 c7 m) m mk_len ⟨k, s2, rfl, o, hm, hm⟩ ?_⟩
    rintro m3 vs h3 ⟨k3, s3, rfl, o3, hm3, hmo⟩
    refine all_rule Try.Yok (loc := Try.Y.loc 21) 100 [0, 2, 7, 8] ?_
    refine edge_step g o3 _ (fun s' h' o' hp => ?_) (fun s' a' sl' way' id' l' c' h' o' hp => ?_) (fun hge => ?_)
    · exact ⟨rfl, m3 - 1, by omega, k3 + 1, s', rfl, o', by omega, by omega⟩
    · refine roundW_out (x := 2) (by kernel_rfl) (by decide) ?_
      refine at_pick rfl (lastV_exit (by kernel_rfl) ?_)
      exact ⟨rfl, phiG I G s' way' + 1, by omega, s', a', sl', number2 + 1, way', id', l', c', rfl, o', Nat.lt_succ_self _⟩
    · refine roundW_exit [0, 2, 7, 8] (by kernel_rfl) rfl rfl ?_
      refine all_rule Try.Yok (loc := Try.Y.loc 21) 100 [0, 2, 7] ?_
      refine pop_step g o3 hge _ fun s' a' sl' h' o' hp => ?_
      exact ⟨rfl, phiG I G s' w0 + 1, by omega, s', a', sl', number2, w0, id7, w0.length, c7, rfl, o', Nat.lt_succ_self _⟩
  · -- the way is gone
    have hw0 : way = [] := by
      rw [hz] at hl7
      exact List.eq_nil_of_length_eq_zero hl7.symm
    subst hw0
    refine at_pick rfl (roundW_exit [2] (by kernel_rfl) rfl rfl ?_)
    refine end_rule Try.Yok (loc := Try.Y.loc 21) 100 [6] ?_
    refine Eq.mpr (f21_5 (number2 : Nat) h2 _) ?_
    have hbase := inv_end o.wp.inv
    have hop2 : s2.op = [] := hbase.op
    refine ⟨.inr rfl, _, rfl, s2, number2, rfl, ⟨a2, sl2, o.r, o.fr, o.fa⟩, hbase, fun u => ?_, ?_, o.wp.num, o.mono, o.rm⟩
    · cases hu : s2.on.getD u false with
      | false => rfl
      | true =>
        have := (o.wp.on u).1 hu
        rw [hop2] at this; cases this
    · have := o.wp.cap
      omega
end
end Go.Y
