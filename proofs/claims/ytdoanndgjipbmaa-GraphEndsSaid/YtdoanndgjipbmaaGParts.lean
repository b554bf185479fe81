/- Parts: the walks from all nodes. -/
import Derived.Test.YtdoanndgjipbmaaGFrom2
import Derived.Test.YtdoanndgjipbmaaGWalk2
namespace Go.Y
open Go.Proofs Tar
set_option maxRecDepth 100000

/-- A graph's rows as plain numbers. -/
def natG (G : List (List Int)) : List (List Nat) := G.map fun r => r.map Int.toNat
theorem sucG_natG (G : List (List Int)) : sucG (natG G) = sucI G := by
  funext u
  simp only [sucG, natG, sucI, List.getD_eq_getElem?_getD, List.getElem?_map]
  cases G[u]? <;> rfl
theorem nums_toNat {l : List Int} (h : ∀ x ∈ l, 0 ≤ x) : nums (l.map Int.toNat) = ints l := by
  unfold nums ints
  rw [List.map_map]
  apply List.map_congr_left
  intro x hx
  have := h x hx
  simp only [Function.comp]
  congr 1; omega

def wkI (G : List (List Int)) : WkI := { id := 4, im := 0, il := 1, io := 2, ip := 3, n := G.length, gv := .ts (rowsV G) G.length none }

theorem gr_of {G : List (List Int)} (hm : mayG G = true) (hG : G.length < 2 ^ 28) (hl : ∀ l ∈ G, l.length < 2 ^ 28) : Gr (wkI G) (natG G) (rowsV G) none := by
  refine ⟨by simp [wkI, natG], ⟨by simp [rowsV, natG], fun u row hr => ?_⟩, by simp [wkI, natG], fun u x hx => ?_, by simpa [natG] using hG, fun u => ?_⟩
  · simp only [natG, List.getElem?_map, Option.map_eq_some_iff] at hr
    obtain ⟨r, hr, rfl⟩ := hr
    refine ⟨none, ?_⟩
    rw [nums_toNat fun x hx => (mayG_row hm hr x hx).1]
    simp [rowsV, hr, encR]
  · rw [sucG_natG] at hx
    have := sucI_lt hm hx
    simpa [natG] using this
  · rw [sucG_natG]
    simp only [sucI, List.length_map, List.getD_eq_getElem?_getD]
    cases hr : G[u]? with
    | none => simp
    | some r => exact hl r (List.mem_of_getElem? hr)

theorem nums_rep (n : Nat) : (List.replicate n [V.i .i64 (0 : Int)]).flatten = nums (List.replicate n 0) := by
  induction n with
  | zero => rfl
  | succ n ih => rw [List.replicate_succ, List.flatten_cons, ih]; rfl
theorem getD_repN (n u : Nat) : (List.replicate n 0).getD u 0 = 0 := by
  rw [List.getD_eq_getElem?_getD, List.getElem?_replicate]; split <;> rfl

/-- The heap that Parts begins with. -/
def h10 (G : List (List Int)) : Heap :=
  ((((Heap.empty.push (.arr (nums (List.replicate G.length 0)) true)).push (.arr (nums (List.replicate G.length 0)) true)).push (.arr (bools (List.replicate G.length false)) true)).push (.arr (nums (List.replicate G.length 0)) true)).push
    (.arr ((wkI G).cells (.sl none 0 (some 0) 0) 0) true)
def s10 (G : List (List Int)) : WkS := { met := List.replicate G.length 0, low := List.replicate G.length 0, part := List.replicate G.length 0, on := List.replicate G.length false, op := [], parts := 0 }

theorem h10_get (G : List (List Int)) (j : Nat) : (h10 G).get j = if j = 4 then some (.arr ((wkI G).cells (.sl none 0 (some 0) 0) 0) true) else if j = 3 then some (.arr (nums (List.replicate G.length 0)) true) else if j = 2 then some (.arr (bools (List.replicate G.length false)) true) else if j = 1 then some (.arr (nums (List.replicate G.length 0)) true) else if j = 0 then some (.arr (nums (List.replicate G.length 0)) true) else none := by
  unfold h10
  simp only [Heap.get_push, Heap.nx_push, Heap.empty]
  rfl

theorem wkr10 (G : List (List Int)) : WkR (wkI G) (h10 G) none (s10 G) (.sl none 0 (some 0) 0) := by
  refine ⟨.inl ⟨rfl, rfl, _, _, rfl⟩, ?_, ?_, ?_, ?_, ?_, by simp [s10, wkI], by simp [s10, wkI], by simp [s10, wkI], by simp [s10, wkI], by simp [WkI.ids, wkI], fun j hj => (by cases hj), fun j hj => ?_⟩
  · rw [h10_get]; rfl
  · rw [h10_get]; rfl
  · rw [h10_get]; rfl
  · rw [h10_get]; rfl
  · rw [h10_get]; rfl
  · have : (h10 G).nx = 5 := rfl
    simp [WkI.ids, wkI] at hj
    omega

theorem unmet10 (n : Nat) : ∀ k, sumR (fun u => if (List.replicate n 0).getD u 0 = 0 then 1 else 0) k = k
  | 0 => rfl
  | k + 1 => by
    have ih := unmet10 n k
    have h0 : (if (List.replicate n 0).getD k 0 = 0 then 1 else 0) = 1 := if_pos (getD_repN n k)
    show sumR _ k + (if (List.replicate n 0).getD k 0 = 0 then 1 else 0) = k + 1
    rw [ih, h0]

theorem base10 (G : List (List Int)) (succ : Nat → List Nat) : Base G.length succ 1 (tsOf (s10 G)) := by
  have hz : ∀ u, (tsOf (s10 G)).m u = 0 := fun u => getD_repN _ u
  exact ⟨rfl, fun u => by rw [hz]; decide, fun u hu => absurd (hz u) hu, fun u v hu => absurd (hz u) hu, fun c hc => absurd (hz c) hc, fun u hu => absurd (hz u) hu, fun u v hu => absurd (hz u) hu⟩
end Go.Y

/- Numbers by who comes first. -/
namespace Go.Y
open Tar

/-- Which number does a part have, counted by what came first? 'ks': the parts that came, in order. -/
def place (ks : List Nat) (p : Nat) : Nat := match ks with
  | [] => 0
  | k :: r => if k = p then 0 else place r p + 1
theorem place_mem : ∀ {ks : List Nat} {p : Nat}, p ∈ ks → place ks p < ks.length
  | k :: r, p, h => by
    simp only [place]
    split
    · simp
    · rename_i hne
      rcases List.mem_cons.1 h with e | e
      · exact absurd e.symm hne
      · have := place_mem e; simp; omega
theorem place_not : ∀ {ks : List Nat} {p : Nat}, p ∉ ks → place ks p = ks.length
  | [], p, _ => rfl
  | k :: r, p, h => by
    simp only [place, List.length_cons]
    rw [if_neg (fun e => h (by simp [e])), place_not fun hm => h (by simp [hm])]
theorem place_app : ∀ {ks : List Nat} {p : Nat} (q : Nat), p ∈ ks → place (ks ++ [q]) p = place ks p
  | k :: r, p, q, h => by
    simp only [List.cons_append, place]
    split
    · rfl
    · rename_i hne
      rcases List.mem_cons.1 h with e | e
      · exact absurd e.symm hne
      · rw [place_app q e]
theorem place_inj : ∀ {ks : List Nat} {p q : Nat}, p ∈ ks → q ∈ ks → place ks p = place ks q → p = q
  | k :: r, p, q, hp, hq, h => by
    simp only [place] at h
    split at h <;> split at h
    · rename_i h1 h2; rw [← h1, ← h2]
    · cases h
    · cases h
    · rename_i h1 h2
      rcases List.mem_cons.1 hp with e | e
      · exact absurd e.symm h1
      · rcases List.mem_cons.1 hq with e2 | e2
        · exact absurd e2.symm h2
        · exact place_inj e e2 (by omega)

/-- Those that came, in order. -/
def cameK : List Nat → List Nat → List Nat
  | ks, [] => ks
  | ks, p :: r => cameK (if p ∈ ks then ks else ks ++ [p]) r
/-- The new numbers. -/
def renum : List Nat → List Nat → List Nat
  | _, [] => []
  | ks, p :: r => place (if p ∈ ks then ks else ks ++ [p]) p :: renum (if p ∈ ks then ks else ks ++ [p]) r
end Go.Y

/- Parts: all nodes are gone through. -/
namespace Go.Y
open Go.Proofs Tar
set_option maxRecDepth 100000

structure P10 (G : List (List Int)) (s : WkS) (number : Nat) (h : Heap) (a : Option Nat) (sl : V) : Prop where
  r : WkR (wkI G) h a s sl
  b : Base G.length (sucI G) number (tsOf s)
  on : ∀ u, s.on.getD u false = false
  cap : s.parts + 1 ≤ number
  num : number + unmet G.length s.met ≤ G.length + 1

def I10 (G : List (List Int)) (m : Nat) (vs : List V) (h : Heap) : Prop :=
  ∃ (s : WkS) (a : Option Nat) (sl : V) (number i : Nat), vs = [.p (some (4, 0)), .i .i64 (number : Nat), .i .i64 (G.length : Nat), .i .i64 (i : Nat)] ∧ P10 G s number h a sl ∧ i ≤ G.length ∧ m = G.length - i ∧ ∀ u, u < i → s.met.getD u 0 ≠ 0

theorem parts_step {G : List (List Int)} (hm : mayG G = true) (hG : G.length < 2 ^ 28) (hl : ∀ l ∈ G, l.length < 2 ^ 28) {m : Nat} {vs : List V} {h : Heap} (hI : I10 G m vs h) (K : Out → Nat → List V → Heap → Prop)
    (kn : ∀ m' vs' h', m' < m → I10 G m' vs' h' → K .normal 83 vs' h') (kx : ∀ (s : WkS) a sl number h' i, P10 G s number h' a sl → (∀ u, u < G.length → s.met.getD u 0 ≠ 0) → K (.exit 0) 83 [.p (some (4, 0)), .i .i64 (number : Nat), .i .i64 (G.length : Nat), .i .i64 (i : Nat)] h') :
    codeP Try.Y (Try.Y.loc 10) 100 ((flat (loopB (post (flat (bodyOf Try.f10)))))) ⟨mk 83 (([4, 5, 29, 30] : List Nat).zip vs), [], h⟩ (VQ [4, 5, 29, 30] K) := by
  obtain ⟨s, a, sl, number, i, rfl, p, hi, rfl, hmet⟩ := hI
  refine Eq.mpr (f10_1 G.length 4 (number : Nat) (i : Nat) h _) ?_
  refine if_lt_nat (fun hlt => ?_) (fun hge => kx s a sl number h i p fun u hu => hmet u (by omega))
  obtain ⟨c0, c1, c2, c3, c4, c5, c6⟩ := (wkI G).cell sl s.parts
  have hib : (0 : Int) ≤ (i : Nat) ∧ ((i : Nat) : Int) < (((wkI G).n : Nat) : Int) := ⟨by omega, by simp only [wkI]; omega⟩
  refine ⟨_, _, _, _, hcells_at p.r.w c1, hib, rfl, _, by rw [at1]; exact hcells_at p.r.m (nums_get (by rw [p.r.ml]; exact hlt)), if_mk (fun hc => ?_) (fun hc => ?_)⟩
  · have h0 : s.met.getD i 0 = 0 := by simpa using hc
    have hw := walk_con (gr_of hm hG hl) p.r (by rw [sucG_natG]; exact p.b) p.on p.cap p.num h0 hlt
    refine hw.mono fun v h' ⟨s', number', hv, ⟨a', sl', r', _, _⟩, b', on', cap', num', mono', rm'⟩ => ⟨_, hv, ?_⟩
    rw [sucG_natG] at b'
    refine kn (G.length - (i + 1)) _ h' (by omega) ⟨s', a', sl', number', i + 1, by rw [wrap_succ (by omega)], ⟨r', b', on', cap', num'⟩, by omega, rfl, fun u hu => ?_⟩
    by_cases e : u = i
    · rw [e]; exact rm'
    · exact mono' u (hmet u (by omega))
  · have h0 : s.met.getD i 0 ≠ 0 := by simpa using hc
    refine kn (G.length - (i + 1)) _ h (by omega) ⟨s, a, sl, number, i + 1, by rw [wrap_succ (by omega)], p, by omega, rfl, fun u hu => ?_⟩
    by_cases e : u = i
    · rw [e]; exact h0
    · exact hmet u (by omega)
end Go.Y

/- Numbers by who comes first: they tell only who is alike. -/
namespace Go.Y
open Tar

theorem cameK_mem : ∀ {l ks : List Nat} {p : Nat}, p ∈ ks → p ∈ cameK ks l
  | [], ks, p, h => h
  | q :: r, ks, p, h => by
    simp only [cameK]
    refine cameK_mem ?_
    split
    · exact h
    · simp [h]
theorem place_came : ∀ {l ks : List Nat} {p : Nat}, p ∈ ks → place (cameK ks l) p = place ks p
  | [], ks, p, h => rfl
  | q :: r, ks, p, h => by
    simp only [cameK]
    split
    · exact place_came h
    · rw [place_came (by simp [h]), place_app q h]
theorem cameK_app : ∀ (l m ks : List Nat), cameK ks (l ++ m) = cameK (cameK ks l) m
  | [], m, ks => rfl
  | q :: r, m, ks => by
    simp only [List.cons_append, cameK]
    exact cameK_app r m _
theorem cameK_has : ∀ {l ks : List Nat} {p : Nat}, p ∈ l → p ∈ cameK ks l
  | q :: r, ks, p, h => by
    simp only [cameK]
    rcases List.mem_cons.1 h with rfl | h
    · refine cameK_mem ?_
      split
      · assumption
      · simp
    · exact cameK_has h
theorem cameK_only : ∀ {l ks : List Nat} {p : Nat}, p ∈ cameK ks l → p ∈ ks ∨ p ∈ l
  | [], ks, p, h => .inl h
  | q :: r, ks, p, h => by
    simp only [cameK] at h
    rcases cameK_only h with h | h
    · split at h
      · exact .inl h
      · rcases List.mem_append.1 h with h | h
        · exact .inl h
        · simp at h; exact .inr (by simp [h])
    · exact .inr (by simp [h])
theorem renum_map : ∀ (l ks : List Nat), renum ks l = l.map (place (cameK ks l))
  | [], ks => rfl
  | q :: r, ks => by
    simp only [renum, cameK, List.map_cons]
    rw [renum_map r]
    congr 1
    refine (place_came ?_).symm
    split
    · assumption
    · simp
theorem renum_length : ∀ (l ks : List Nat), (renum ks l).length = l.length
  | [], _ => rfl
  | _ :: r, _ => by simp [renum, renum_length r]

theorem place_map {φ : Nat → Nat} {p : Nat} : ∀ {ks : List Nat}, (∀ k ∈ ks, φ k = φ p → k = p) → place (ks.map φ) (φ p) = place ks p
  | [], _ => rfl
  | k :: r, h => by
    simp only [List.map_cons, place]
    by_cases e : k = p
    · rw [if_pos e, if_pos (by rw [e])]
    · rw [if_neg e, if_neg (fun he => e (h k (by simp) he)), place_map fun k hk => h k (by simp [hk])]
theorem renum_inj {φ : Nat → Nat} : ∀ {l ks : List Nat}, (∀ a ∈ ks ++ l, ∀ b ∈ ks ++ l, φ a = φ b → a = b) → renum (ks.map φ) (l.map φ) = renum ks l
  | [], ks, _ => rfl
  | p :: r, ks, h => by
    have hm : φ p ∈ ks.map φ ↔ p ∈ ks := by
      constructor
      · intro hp
        obtain ⟨k, hk, e⟩ := List.mem_map.1 hp
        have := h k (by simp [hk]) p (by simp) e
        rw [← this]; exact hk
      · intro hp; exact List.mem_map_of_mem hp
    simp only [List.map_cons, renum]
    by_cases hp : p ∈ ks
    · rw [if_pos (hm.2 hp), if_pos hp]
      rw [place_map fun k hk e => h k (by simp [hk]) p (by simp) e]
      rw [renum_inj fun a ha b hb => h a (by rcases List.mem_append.1 ha with h1 | h1 <;> simp [h1]) b (by rcases List.mem_append.1 hb with h1 | h1 <;> simp [h1])]
    · rw [if_neg (fun e => hp (hm.1 e)), if_neg hp]
      have e : ks.map φ ++ [φ p] = (ks ++ [p]).map φ := by simp
      rw [e, place_map fun k hk e => h k (by rcases List.mem_append.1 hk with h1 | h1; simp [h1]; simp at h1; simp [h1]) p (by simp) e]
      rw [renum_inj fun a ha b hb => h a (by simpa using ha) b (by simpa using hb)]

/-- The first node with which a node is of one part. -/
noncomputable def repG (G : List (List Int)) (i : Nat) : Nat :=
  open Classical in (((List.range (i + 1)).filter fun k => decide (Mut (sucI G) k i)).head?).getD i

theorem mut_refl (succ : Nat → List Nat) (i : Nat) : Mut succ i i := ⟨.refl _, .refl _⟩
theorem mut_symm {succ : Nat → List Nat} {i j : Nat} (h : Mut succ i j) : Mut succ j i := ⟨h.2, h.1⟩
theorem mut_trans {succ : Nat → List Nat} {i j k : Nat} (h : Mut succ i j) (g : Mut succ j k) : Mut succ i k := ⟨h.1.trans g.1, g.2.trans h.2⟩

theorem range_head {p : Nat → Bool} : ∀ {n : Nat}, (∃ i, i < n ∧ p i = true) → ∃ k, ((List.range n).filter p).head? = some k ∧ p k = true ∧ k < n ∧ ∀ j, j < k → p j = false
  | 0, ⟨i, h, _⟩ => absurd h (Nat.not_lt_zero _)
  | n + 1, ⟨i, hi, hp⟩ => by
    rw [List.range_succ, List.filter_append]
    by_cases hx : ∃ i, i < n ∧ p i = true
    · obtain ⟨k, h1, h2, h3, h4⟩ := range_head hx
      refine ⟨k, ?_, h2, by omega, h4⟩
      rw [List.head?_append, h1]; rfl
    · have hin : i = n := by
        by_cases e : i = n
        · exact e
        · exact absurd ⟨i, by omega, hp⟩ hx
      subst hin
      refine ⟨i, ?_, hp, by omega, fun j hj => ?_⟩
      · have : (List.range i).filter p = [] := by
          rw [List.filter_eq_nil_iff]
          intro x hx2 hpx
          exact hx ⟨x, List.mem_range.1 hx2, hpx⟩
        rw [this]
        simp [hp]
      · cases hj2 : p j with
        | false => rfl
        | true => exact absurd ⟨j, hj, hj2⟩ hx

theorem repG_spec (G : List (List Int)) (i : Nat) : Mut (sucI G) (repG G i) i ∧ repG G i ≤ i ∧ ∀ j, j < repG G i → ¬ Mut (sucI G) j i := by
  classical
  obtain ⟨k, h1, h2, h3, h4⟩ := range_head (p := fun k => decide (Mut (sucI G) k i)) (n := i + 1) ⟨i, by omega, by simp [mut_refl]⟩
  have e : repG G i = k := by
    unfold repG
    have : (List.range (i + 1)).filter (fun k => @decide (Mut (sucI G) k i) (Classical.propDecidable _)) = (List.range (i + 1)).filter (fun k => decide (Mut (sucI G) k i)) := by
      apply List.filter_congr; intro x _; congr
    rw [this, h1]; rfl
  rw [e]
  exact ⟨by simpa using h2, by omega, fun j hj hm => by have := h4 j hj; simp [hm] at this⟩

theorem repG_eq {G : List (List Int)} {i j : Nat} : repG G i = repG G j ↔ Mut (sucI G) i j := by
  obtain ⟨a1, a2, a3⟩ := repG_spec G i
  obtain ⟨b1, b2, b3⟩ := repG_spec G j
  constructor
  · intro h
    rw [h] at a1
    exact mut_trans (mut_symm a1) b1
  · intro h
    rcases Nat.lt_trichotomy (repG G i) (repG G j) with hl | hl | hl
    · exact absurd (mut_trans a1 h) (b3 _ hl)
    · exact hl
    · exact absurd (mut_trans b1 (mut_symm h)) (a3 _ hl)

/-- The part of each node. -/
noncomputable def partsN (G : List (List Int)) : List Nat := renum [] ((List.range G.length).map (repG G))
noncomputable def partsG (G : List (List Int)) : List Int := if mayG G then (partsN G).map Int.ofNat else []

theorem parts_of {G : List (List Int)} {part : List Nat} (hl : part.length = G.length) (hp : ∀ u v, u < G.length → v < G.length → (part.getD u 0 = part.getD v 0 ↔ Mut (sucI G) u v)) : renum [] part = partsN G := by
  have e : part = ((List.range G.length).map (repG G)).map fun k => part.getD k 0 := by
    apply List.ext_getElem (by simp [hl])
    intro i h1 h2
    have hi : i < G.length := by omega
    obtain ⟨a1, a2, _⟩ := repG_spec G i
    simp only [List.getElem_map, List.getElem_range]
    have := (hp (repG G i) i (by omega) hi).2 a1
    rw [this]
    simp [List.getD_eq_getElem?_getD, h1]
  unfold partsN
  conv => lhs; rw [e]
  refine renum_inj (ks := []) (φ := fun k => part.getD k 0) fun a ha b hb hab => ?_
  simp only [List.nil_append, List.mem_map, List.mem_range] at ha hb
  obtain ⟨i, hi, rfl⟩ := ha
  obtain ⟨j, hj, rfl⟩ := hb
  obtain ⟨a1, a2, _⟩ := repG_spec G i
  obtain ⟨b1, b2, _⟩ := repG_spec G j
  have := (hp _ _ (by omega) (by omega)).1 hab
  exact repG_eq.2 (mut_trans (mut_symm a1) (mut_trans this b1))
end Go.Y

/- Parts: the parts get new numbers. -/
namespace Go.Y
open Go.Proofs Tar
set_option maxRecDepth 100000

/-- What the map holds: a number for each part that came. -/
def mapKs : Nat → List Nat → List (V × V)
  | _, [] => []
  | i, p :: r => (.i .i64 (p : Nat), .i .i64 (i : Nat)) :: mapKs (i + 1) r
theorem mapKs_length : ∀ (ks : List Nat) (i : Nat), (mapKs i ks).length = ks.length
  | [], _ => rfl
  | _ :: r, i => by simp [mapKs, mapKs_length r]
theorem mapKs_plain {p : Int} : ∀ (ks : List Nat) (i : Nat), keysPlain (.int .i64) (.i .i64 p) (mapKs i ks) = true
  | [], _ => rfl
  | _ :: r, i => by simp [mapKs, keysPlain, eqCellK, mapKs_plain r]
theorem keyIs_nat {p q : Nat} {x : V} : keyIs (.int .i64) (.i .i64 (p : Nat)) (.i .i64 (q : Nat), x) = decide (q = p) := by
  simp only [keyIs, eqCellK, if_true]
  rw [Bool.eq_iff_iff]; simp; omega
theorem mapKs_get {p : Nat} : ∀ (ks : List Nat) (i : Nat), mapGet (.int .i64) (.i .i64 (p : Nat)) (mapKs i ks) = if p ∈ ks then some (.i .i64 ((i + place ks p : Nat) : Nat)) else none
  | [], _ => rfl
  | q :: r, i => by
    simp only [mapKs, mapGet, keyIs_nat, place]
    by_cases e : q = p
    · simp [e]
    · have e' : ¬ p = q := fun h => e h.symm
      simp only [e, decide_false, Bool.false_eq_true, if_false, List.mem_cons, e', false_or]
      rw [mapKs_get r]
      split
      · congr 3; omega
      · rfl
theorem mapKs_put {p : Nat} {v : V} : ∀ (ks : List Nat) (i : Nat), p ∉ ks → v = .i .i64 ((i + ks.length : Nat) : Nat) → mapPut (.int .i64) (.i .i64 (p : Nat)) v (mapKs i ks) = mapKs i (ks ++ [p])
  | [], _, _, hv => by rw [hv]; rfl
  | q :: r, i, h, hv => by
    have e : ¬ q = p := fun e => h (by simp [e])
    simp only [mapKs, mapPut, keyIs_nat, List.cons_append, e, decide_false, Bool.false_eq_true, if_false]
    rw [mapKs_put r (i + 1) (fun hm => h (by simp [hm])) (by rw [hv]; simp; omega)]

theorem lookM_ks {h : Heap} {r : Nat} {ks : List Nat} {p : Nat} (hg : h.get r = some (.map (mapKs 0 ks))) : lookM Try.Y h 3 3 (some r) (.i .i64 (p : Nat)) = some (if p ∈ ks then (.i .i64 (place ks p : Nat), true) else (.i .i64 ((0 : Nat) : Nat), false)) := by
  have hk : Try.Y.kd 3 = some (.int .i64) := by kernel_rfl
  have hz : zeroV Try.Y 3 = .i .i64 ((0 : Nat) : Nat) := by kernel_rfl
  have ht : (Try.Y.ty 3).isSome = true := by kernel_rfl
  unfold lookM mapAt
  simp only [hk, hg, ht, plainKind, mapKs_plain, Bool.and_true, if_true, mapKs_get, Nat.zero_add]
  split <;> rename_i heq <;> split at heq <;> simp_all
theorem lenM_ks {h : Heap} {r : Nat} {ks : List Nat} (hg : h.get r = some (.map (mapKs 0 ks))) : lenM h (some r) = some ks.length := by
  simp [lenM, mapAt, hg, mapKs_length]
theorem updM_ks {h : Heap} {r : Nat} {ks : List Nat} {p : Nat} (hg : h.get r = some (.map (mapKs 0 ks))) (hp : p ∉ ks) : updM Try.Y h 3 (some r) (.i .i64 (p : Nat)) (.i .i64 (ks.length : Nat)) = some (h.set r (some (.map (mapKs 0 (ks ++ [p]))))) := by
  have hk : Try.Y.kd 3 = some (.int .i64) := by kernel_rfl
  simp only [updM, hk, hg, plainKind, mapKs_plain, Bool.and_true, if_true]
  rw [mapKs_put ks 0 hp (by simp)]

/-- While the parts get new numbers. -/
structure R10 (G : List (List Int)) (part : List Nat) (r i : Nat) (h : Heap) : Prop where
  w : ∃ sl parts, h.get 4 = some (.arr ((wkI G).cells sl parts) true)
  p : h.get 3 = some (.arr (nums ((renum [] part).take i ++ part.drop i)) true)
  m : h.get r = some (.map (mapKs 0 (cameK [] (part.take i))))
  ne : r ≠ 4 ∧ r ≠ 3

def J10 (G : List (List Int)) (part : List Nat) (r : Nat) (m : Nat) (vs : List V) (h : Heap) : Prop :=
  ∃ i : Nat, vs = [.p (some (4, 0)), .mp (some r), .sl (some (3, 0)) G.length (some G.length) 1, .i .i64 (G.length : Nat), .i .i64 (i : Nat)] ∧ R10 G part r i h ∧ i ≤ G.length ∧ m = G.length - i

theorem frz_nums {h : Heap} {id n : Nat} {l : List Nat} (hl : l.length = n) (hg : h.get id = some (.arr (nums l) true)) : Frz h (.sl (some (id, 0)) n (some n) 1) (encR (l.map Int.ofNat)) := by
  have e : nums l = ints (l.map Int.ofNat) := by simp [nums, ints]
  unfold encR
  rw [List.length_map, hl]
  refine .sl _ _ _ _ _ (nums l) true _ _ _ hg (by rw [List.drop_zero]; exact takeX_len (by simp [nums, hl])) (fun x hx => by cases hx) (by decide) ?_
  rw [e]
  exact colds1_ok _ (colds_ints _)

theorem renum_step {part : List Nat} {i p : Nat} (hp : part[i]? = some p) : (renum [] part)[i]? = some (place (cameK [] (part.take (i + 1))) p) ∧ cameK [] (part.take (i + 1)) = (if p ∈ cameK [] (part.take i) then cameK [] (part.take i) else cameK [] (part.take i) ++ [p]) := by
  obtain ⟨hi, rfl⟩ := List.getElem?_eq_some_iff.1 hp
  have ht : part.take (i + 1) = part.take i ++ [part[i]] := List.take_succ_eq_append_getElem hi
  have h2 : cameK [] (part.take (i + 1)) = (if part[i] ∈ cameK [] (part.take i) then cameK [] (part.take i) else cameK [] (part.take i) ++ [part[i]]) := by
    rw [ht, cameK_app]; rfl
  refine ⟨?_, h2⟩
  rw [renum_map, List.getElem?_map, hp]
  simp only [Option.map_some, Option.some.injEq]
  have e : cameK [] part = cameK (cameK [] (part.take (i + 1))) (part.drop (i + 1)) := by rw [← cameK_app, List.take_append_drop]
  rw [e]
  exact place_came (cameK_has (by rw [ht]; exact List.mem_append_right _ (List.mem_singleton.2 rfl)))

theorem at_take {α : Type} {a b : List α} {i : Nat} {x y : α} (hi : b[i]? = some x) (ha : a[i]? = some y) : (a.take i ++ b.drop i)[i]? = some x ∧ (a.take i ++ b.drop i).set i y = a.take (i + 1) ++ b.drop (i + 1) := by
  obtain ⟨h1, rfl⟩ := List.getElem?_eq_some_iff.1 hi
  obtain ⟨h2, rfl⟩ := List.getElem?_eq_some_iff.1 ha
  have hl : (a.take i).length = i := by simp; omega
  rw [List.drop_eq_getElem_cons h1, List.take_succ_eq_append_getElem h2]
  constructor
  · rw [List.getElem?_append_right (by omega)]; simp [hl]
  · rw [List.set_append_right _ _ (by omega), hl, Nat.sub_self, List.set_cons_zero, List.append_assoc]; rfl

theorem parts_con {G : List (List Int)} (hG : G.length < 2 ^ 28) (hl : ∀ l ∈ G, l.length < 2 ^ 28) : PCon Try.Y 10 [encG G] (· = encR (partsG G)) := by
  refine pcon_of Try.Yok (fn := Try.f10) (by kernel_rfl) (by kernel_rfl) rfl ?_
  refine pre_rule Try.Yok (n := 83) (loc := Try.Y.loc 10) 100 [2, 4, 5, 29, 30] (by kernel_rfl) ?_
  refine Eq.mpr (f10_0 (rowsV G) G.length .empty _) ?_
  have hm40 : most = 1099511627776 := by decide
  refine ⟨_, may_con (by omega) (fun l hh => by have := hl l hh; omega), if_mk (fun hc => ?_) (fun hc => ?_)⟩
  · have hm : mayG G = false := by simpa using hc
    refine fin_at (.inr rfl) rfl ⟨_, frz_nil encI _ _ _, ?_⟩
    rw [lst_encI]; simp [partsG, hm]
  have hm : mayG G = true := by simpa using hc
  have hb8 : (0 : Int) ≤ (G.length : Nat) ∧ ((G.length : Nat) : Int) ≤ (G.length : Nat) ∧ ((G.length : Nat) : Int) ≤ (most : Nat) ∧ ((G.length : Nat) : Int) * ((8 : Nat) : Int) ≤ (most : Nat) := ⟨by omega, by omega, by rw [hm40]; omega, by rw [hm40]; omega⟩
  have hb1 : (0 : Int) ≤ (G.length : Nat) ∧ ((G.length : Nat) : Int) ≤ (G.length : Nat) ∧ ((G.length : Nat) : Int) ≤ (most : Nat) ∧ ((G.length : Nat) : Int) * ((1 : Nat) : Int) ≤ (most : Nat) := ⟨by omega, by omega, by rw [hm40]; omega, by rw [hm40]; omega⟩
  refine ⟨hb8, hb8, hb1, hb8, ?_⟩
  rw [show ((G.length : Nat) : Int).toNat = G.length by simp, nums_rep, bools_rep]
  refine ⟨rfl, loop2 [4, 5, 29, 30] [4, 5, 29, 30] rfl (by kernel_rfl) (I10 G) G.length mk_len ⟨s10 G, none, _, 1, 0, rfl, ⟨wkr10 G, base10 G _, fun u => ?_, Nat.le_refl _, ?_⟩, by omega, by omega, fun u hu => absurd hu (Nat.not_lt_zero _)⟩ ?_⟩
  · show (List.replicate G.length false).getD u false = false
    rw [getD_rep]
  · show 1 + unmet G.length (List.replicate G.length 0) ≤ G.length + 1
    have e : unmet G.length (List.replicate G.length 0) = G.length := unmet10 G.length G.length
    omega
  rintro m vs h hI
  refine all_rule Try.Yok (loc := Try.Y.loc 10) 100 [4, 5, 29, 30] ?_
  refine parts_step hm hG hl hI _ (fun m' vs' h' hlt hI' => ?_) (fun s a sl number h' i p hmet => ?_)
  · obtain ⟨s, a, sl, number, i, rfl, q⟩ := hI'
    exact ⟨rfl, m', hlt, s, a, sl, number, i, rfl, q⟩
  -- all are met
  refine roundW_exit [4] (by kernel_rfl) rfl rfl ?_
  refine pre_rule Try.Yok (n := 83) (loc := Try.Y.loc 10) 100 [4, 7, 50, 51, 52] (by kernel_rfl) ?_
  refine Eq.mpr (f10_2 4 h' _) ?_
  obtain ⟨c0, c1, c2, c3, c4, c5, c6⟩ := (wkI G).cell sl s.parts
  have hlt4 : 4 < h'.nx := p.r.lt 4 (by simp [WkI.ids, wkI])
  have hlt3 : 3 < h'.nx := p.r.lt 3 (by simp [WkI.ids, wkI])
  have hw4 : (h'.push (YObj.map [])).get 4 = some (.arr ((wkI G).cells sl s.parts) true) := by rw [Heap.get_push, if_neg (by omega)]; exact p.r.w
  have hw3 : (h'.push (YObj.map [])).get 3 = some (.arr (nums s.part) true) := by rw [Heap.get_push, if_neg (by omega)]; exact p.r.p
  have hpl : s.part.length = G.length := p.r.pl
  have hpat : ∀ u v, u < G.length → v < G.length → (s.part.getD u 0 = s.part.getD v 0 ↔ Mut (sucI G) u v) := fun u v hu hv => p.b.p2 u v (hmet u hu) (hmet v hv)
  have hren := parts_of hpl hpat
  have hrl : (renum [] s.part).length = G.length := by rw [renum_length]; exact hpl
  refine ⟨_, _, _, _, hcells_at hw4 c5, ⟨rfl, loop2 [4, 7, 50, 51, 52] [4, 7, 50, 51, 52] rfl (by kernel_rfl) (J10 G s.part h'.nx) G.length mk_len ⟨0, rfl, ⟨⟨_, _, hw4⟩, by simpa using hw3, by rw [Heap.get_push, if_pos rfl]; rfl, by omega, by omega⟩, by omega, by omega⟩ ?_⟩⟩
  rintro m2 vs h2 ⟨i2, rfl, q, hi2, rfl⟩
  refine all_rule Try.Yok (loc := Try.Y.loc 10) 100 [4, 7, 50, 51, 52] ?_
  refine Eq.mpr (f10_3 4 G.length (some G.length) (G.length : Nat) h'.nx 3 (i2 : Nat) h2 _) ?_
  obtain ⟨⟨sl2, parts2, qw⟩, qp, qm, qn4, qn3⟩ := q
  obtain ⟨d0, d1, d2, d3, d4, d5, d6⟩ := (wkI G).cell sl2 parts2
  replace d5 : ((wkI G).cells sl2 parts2)[5]? = some (V.sl (some (3, 0)) G.length (some G.length) 1) := d5
  refine if_lt_nat (fun hlt => ?_) (fun hge => ?_)
  · obtain ⟨x, hx⟩ : ∃ x, s.part[i2]? = some x := ⟨_, List.getElem?_eq_getElem (by omega)⟩
    obtain ⟨hy, hcame⟩ := renum_step hx
    obtain ⟨t1, t2⟩ := at_take hx hy
    have hib : (0 : Int) ≤ (i2 : Nat) ∧ ((i2 : Nat) : Int) < (G.length : Nat) := ⟨by omega, by omega⟩
    have hnl : i2 < (nums (List.take i2 (renum [] s.part) ++ List.drop i2 s.part)).length := by simp [nums]; omega
    have hnx : (nums (List.take i2 (renum [] s.part) ++ List.drop i2 s.part))[i2]? = some (.i .i64 ((x : Nat) : Int)) := by
      simp only [nums, List.getElem?_map, t1]; rfl
    refine ⟨hib, rfl, (x : Nat), by rw [at1]; exact hcells_at qp hnx, ?_⟩
    by_cases hin : x ∈ cameK [] (s.part.take i2)
    · rw [if_pos hin] at hcame
      refine ⟨_, _, by rw [lookM_ks qm, if_pos hin], if_mk (fun hc => by simp at hc) (fun _ => ?_)⟩
      refine ⟨_, _, _, _, hcells_at qw d5, _, _, by rw [lookM_ks qm, if_pos hin], hib, rfl, _, by rw [at1]; exact hstore_at qp _ hnl, ?_⟩
      refine ⟨rfl, G.length - (i2 + 1), by omega, i2 + 1, by rw [wrap_succ (by omega)]; rfl, ⟨⟨sl2, parts2, by rw [Heap.get_set, if_neg (by decide)]; exact qw⟩, ?_, by rw [Heap.get_set, if_neg qn3, hcame]; exact qm, qn4, qn3⟩, by omega, rfl⟩
      rw [Heap.get_set, if_pos rfl, nums_set, ← hcame, t2]
    · rw [if_neg hin] at hcame
      refine ⟨_, _, by rw [lookM_ks qm, if_neg hin], if_mk (fun _ => ?_) (fun hc => by simp at hc)⟩
      have hg2 : (h2.set h'.nx (some (.map (mapKs 0 (cameK [] (s.part.take i2) ++ [x]))))).get h'.nx = some (.map (mapKs 0 (cameK [] (s.part.take i2) ++ [x]))) := by rw [Heap.get_set, if_pos rfl]
      refine ⟨_, lenM_ks qm, _, updM_ks qm hin, _, _, _, _, hcells_at (by rw [Heap.get_set, if_neg (Ne.symm qn4)]; exact qw) d5, _, _, by rw [lookM_ks hg2, if_pos (by simp)], hib, rfl, _, by rw [at1]; exact hstore_at (by rw [Heap.get_set, if_neg (Ne.symm qn3)]; exact qp) _ hnl, ?_⟩
      refine ⟨rfl, G.length - (i2 + 1), by omega, i2 + 1, by rw [wrap_succ (by omega)]; rfl, ⟨⟨sl2, parts2, by rw [Heap.get_set, if_neg (by decide), Heap.get_set, if_neg (Ne.symm qn4)]; exact qw⟩, ?_, by rw [Heap.get_set, if_neg qn3, Heap.get_set, if_pos rfl, hcame], qn4, qn3⟩, by omega, rfl⟩
      rw [Heap.get_set, if_pos rfl, nums_set, ← hcame, t2]
  · have hi : i2 = G.length := by omega
    subst hi
    rw [List.take_of_length_le (by omega), List.drop_eq_nil_of_le (by omega), List.append_nil] at qp
    refine roundW_exit [4] (by kernel_rfl) rfl rfl ?_
    refine end_rule Try.Yok (loc := Try.Y.loc 10) 100 [2] ?_
    refine Eq.mpr (f10_4 4 h2 _) ?_
    refine ⟨_, _, _, _, hcells_at qw d5, ?_⟩
    refine finV1 (.inr rfl) rfl (frz_nums hrl qp) ?_
    rw [hren]; simp [partsG, hm]
end Go.Y
