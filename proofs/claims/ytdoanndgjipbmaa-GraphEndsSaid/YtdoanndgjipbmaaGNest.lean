/- Lists of lists that are being built; the loops of a graph. -/
import Derived.Test.YtdoanndgjipbmaaGPartsR
import Derived.Test.YtdoanndgjipbmaaGMayR
import Derived.Test.YtdoanndgjipbmaaYTryP
import Derived.Test.YtdoanndgjipbmaaYFun
namespace Go.Y
open Go.Proofs Tar
set_option maxRecDepth 100000

/-- Cells that are lists of their own. -/
def Nest (h : Heap) (cells : List V) (L : List (List Nat)) : Prop :=
  cells.length = L.length ∧ ∀ (p : Nat) (l : List Nat), L[p]? = some l → ∃ j, cells[p]? = some (.sl (some (j, 0)) l.length none 1) ∧ h.get j = some (.arr (nums l) true) ∧ j < h.nx

theorem Nest.fr {h h' : Heap} {cells : List V} {L : List (List Nat)} (n : Nest h cells L) (hn : h.nx ≤ h'.nx) (hs : ∀ (p : Nat) (l : List Nat) (j : Nat), L[p]? = some l → cells[p]? = some (V.sl (some (j, 0)) l.length none 1) → j < h.nx → h'.get j = h.get j) : Nest h' cells L :=
  ⟨n.1, fun p l hp => by
    obtain ⟨j, h1, h2, h3⟩ := n.2 p l hp
    exact ⟨j, h1, by rw [hs p l j hp h1 h3, h2], by omega⟩⟩
theorem Nest.nil (h : Heap) : Nest h [] [] := ⟨rfl, fun p l hp => by simp at hp⟩
theorem Nest.snoc {h : Heap} {cells : List V} {L : List (List Nat)} (n : Nest h cells L) {j : Nat} {l : List Nat} (hg : h.get j = some (.arr (nums l) true)) (hj : j < h.nx) : Nest h (cells ++ [.sl (some (j, 0)) l.length none 1]) (L ++ [l]) := by
  refine ⟨by simp [n.1], fun p l' hp => ?_⟩
  have hlen := n.1
  by_cases hlt : p < L.length
  · rw [List.getElem?_append_left hlt] at hp
    obtain ⟨j', h1, h2, h3⟩ := n.2 p l' hp
    exact ⟨j', by rw [List.getElem?_append_left (by omega)]; exact h1, h2, h3⟩
  · rw [List.getElem?_append_right (by omega)] at hp
    have hp0 : p - L.length = 0 := by
      rcases Nat.eq_zero_or_pos (p - L.length) with h0 | h0
      · exact h0
      · rw [List.getElem?_eq_none (by simp; omega)] at hp; cases hp
    rw [hp0] at hp; simp at hp; subst hp
    exact ⟨j, by rw [List.getElem?_append_right (by omega), show p - cells.length = 0 by omega]; rfl, hg, hj⟩

def natI (l : List Nat) : List Int := l.map Int.ofNat
theorem nums_ints (l : List Nat) : nums l = ints (natI l) := by simp [nums, ints, natI]

theorem Nest.frz : ∀ {cells : List V} {L : List (List Nat)} {h : Heap}, Nest h cells L → FrzL h cells (rowsV (L.map natI))
  | [], [], _, _ => .nil
  | [], _ :: _, _, n => by have := n.1; simp at this
  | _ :: _, [], _, n => by have := n.1; simp at this
  | v :: cells, l :: L, h, n => by
    obtain ⟨j, h1, h2, _⟩ := n.2 0 l rfl
    simp at h1; subst h1
    refine .cons _ _ _ _ ?_ (Nest.frz ⟨by have := n.1; simp at this; exact this, fun p l' hp => ?_⟩)
    · have hcl : colds1 (nums l) = true := by rw [nums_ints]; exact colds_ints _
      rw [nums_ints] at h2 hcl
      show Frz h _ (encR (natI l))
      unfold encR
      have hll : (natI l).length = l.length := by simp [natI]
      rw [hll]
      exact .sl _ _ _ _ _ _ true _ _ _ h2 (by rw [List.drop_zero]; exact takeX_len (by simp [ints, natI])) (fun x hx => by cases hx) (by decide) (colds1_ok _ hcl)
    · obtain ⟨j', g1, g2, g3⟩ := n.2 (p + 1) l' (by simpa using hp)
      exact ⟨j', by simpa using g1, g2, g3⟩

/-- The nodes of a part. -/
def groupN (N : List Nat) (p : Nat) : List Nat := (List.range N.length).filter fun i => N.getD i 0 == p
def selfG (G : List (List Int)) (i : Nat) : Bool := (G.getD i []).contains (i : Int)
def keepG (G : List (List Int)) (l : List Nat) : Bool := decide (1 < l.length) || l.any (selfG G)
noncomputable def loopsN (G : List (List Int)) : List (List Nat) := if mayG G then ((List.range (partsN G).length).map (groupN (partsN G))).filter (keepG G) else []

def groupTo (N : List Nat) (p i : Nat) : List Nat := (List.range i).filter fun i => N.getD i 0 == p
theorem groupTo_succ (N : List Nat) (p i : Nat) : groupTo N p (i + 1) = if N.getD i 0 = p then groupTo N p i ++ [i] else groupTo N p i := by
  unfold groupTo
  rw [List.range_succ, List.filter_append, List.filter_cons, List.filter_nil]
  by_cases e : N.getD i 0 = p
  · rw [if_pos e, if_pos (by simpa using e)]
  · rw [if_neg e, if_neg (by simpa using e), List.append_nil]
theorem groupTo_len (N : List Nat) (p i : Nat) : (groupTo N p i).length ≤ i := by
  unfold groupTo
  exact Nat.le_trans (List.length_filter_le _ _) (by simp)
theorem group_all (N : List Nat) (p : Nat) : groupTo N p N.length = groupN N p := rfl

/-- A list that a round builds: nothing old is turned. -/
structure NewL (h0 h : Heap) (a : Option (Nat × Nat)) (l : Nat) (c : Option Nat) (k : Nat) (out : List Nat) : Prop where
  o : IsL h 1 a l c k (nums out)
  nw : ∀ j, a = some (j, 0) → h0.nx ≤ j
  nx : h0.nx ≤ h.nx
  old : ∀ j, j < h0.nx → h.get j = h0.get j
theorem NewL.nil (h : Heap) (c : Option Nat) (k : Nat) : NewL h h none 0 c k [] := ⟨by simp [IsL, nums], fun j e => (by cases e), Nat.le_refl _, fun _ _ => rfl⟩
theorem NewL.app {h0 h : Heap} {a : Option (Nat × Nat)} {l : Nat} {c : Option Nat} {k : Nat} {out : List Nat} (n : NewL h0 h a l c k out) (x : Nat) (hb : out.length < 2 ^ 29) :
    ∃ a' l' c' k' h', appendH Try.Y h 26 26 (.sl a l c k) (.ts [.i .i64 (x : Nat)] 1 (some 1)) = some (.sl a' l' c' k', h') ∧ NewL h0 h' a' l' c' k' (out ++ [x]) := by
  obtain ⟨a', l', c', k', h', q1, q2, q3, q4, j, q5, q6⟩ := num_app x n.o hb
  refine ⟨a', l', c', k', h', q1, q2, fun j' e => ?_, Nat.le_trans n.nx q3.1, fun j' hj' => ?_⟩
  · rw [q5] at e; cases e; have := n.nx; omega
  · rw [q3.2 j' (Nat.lt_of_lt_of_le hj' n.nx) fun o' e => ?_, n.old j' hj']
    have ho : o' = 0 := by
      rcases n.o.2 with hx | ⟨id2, hx, _⟩
      · rw [hx.1] at e; cases e
      · rw [hx] at e; cases e; rfl
    subst ho
    have := n.nw _ e; omega
end Go.Y

/- slices.Contains. -/
namespace Go.Y
open Go.Proofs
set_option maxRecDepth 100000

def idxI : Nat → List Int → Int → Int
  | _, [], _ => -1
  | i, y :: r, x => if x == y then (i : Int) else idxI (i + 1) r x
theorem idxI_has : ∀ (i : Nat) (l : List Int) (x : Int), leI 0 (idxI i l x) = l.contains x
  | _, [], _ => rfl
  | i, y :: r, x => by
    simp only [idxI, List.contains_cons]
    cases hc : x == y with
    | true => simp [leI]
    | false => simpa using idxI_has (i + 1) r x

def I30 (l : List Int) (x : Int) (m : Nat) (vs : List V) (_ : Heap) : Prop :=
  ∃ i : Nat, vs = [encR l, .i .i64 x, .i .i64 (l.length : Nat), .i .i64 (i : Nat)] ∧ m = l.length - i ∧ i ≤ l.length ∧ idxI i (l.drop i) x = idxI 0 l x

theorem index_con {l : List Int} {x : Int} (hl : l.length < 2 ^ 30) : PCon Try.Y 30 [encR l, .i .i64 x] (· = .i .i64 (idxI 0 l x)) := by
  refine pcon_of Try.Yok (fn := Try.f30) (by kernel_rfl) (by kernel_rfl) rfl ?_
  refine pre_rule Try.Yok (n := 19) (loc := Try.Y.loc 30) 100 [0, 1, 7, 8] (by kernel_rfl) ?_
  refine Eq.mpr (f30_0 (ints l) l.length x .empty _) ?_
  refine ⟨rfl, loop2 [0, 1, 7, 8] [0, 1, 4, 7, 8] rfl (by kernel_rfl) (I30 l x) l.length mk_len ⟨0, rfl, by omega, by omega, rfl⟩ ?_⟩
  rintro m vs h ⟨i, rfl, rfl, hi, hI⟩
  refine all_rule Try.Yok (loc := Try.Y.loc 30) 100 [0, 1, 4, 7, 8] ?_
  refine Eq.mpr (f30_1 (ints l) l.length x (i : Nat) h _) ?_
  refine if_lt_nat (fun hlt => ?_) (fun hge => ?_)
  · obtain ⟨y, hy⟩ : ∃ y, l[i]? = some y := ⟨_, List.getElem?_eq_getElem hlt⟩
    rw [drop_at hy] at hI
    simp only [idxI] at hI
    refine ⟨⟨by omega, by omega⟩, y, ints_at hy, if_mk (fun hc => ?_) (fun hc => ?_)⟩
    · rw [if_pos hc] at hI
      refine fin_at (.inr rfl) rfl ⟨_, .i _ _, ?_⟩
      rw [hI]
    · rw [hc] at hI
      exact ⟨rfl, l.length - (i + 1), by omega, i + 1, by rw [wrap_succ (by omega)]; rfl, rfl, by omega, by simpa using hI⟩
  · refine roundW_exit [] (by kernel_rfl) rfl rfl ?_
    refine end_rule Try.Yok (loc := Try.Y.loc 30) 100 [4] ?_
    refine Eq.mpr (f30_2 h _) ?_
    refine finV1 (.inr rfl) rfl (.i _ _) ?_
    have : i = l.length := by omega
    rw [← hI, this, List.drop_length]; rfl

theorem contains_con {l : List Int} {x : Int} (hl : l.length < 2 ^ 30) : PCon Try.Y 25 [encR l, .i .i64 x] (· = .b (l.contains x)) := by
  refine pcon_of Try.Yok (fn := Try.f25) (by kernel_rfl) (by kernel_rfl) rfl ?_
  refine end_rule Try.Yok (loc := Try.Y.loc 25) 100 [4] ?_
  refine Eq.mpr (f25_0 (ints l) l.length x .empty _) ?_
  refine ⟨_, index_con hl, finV1 (.inr rfl) rfl (.b _) ?_⟩
  rw [idxI_has]
end Go.Y

/- What the pieces of functions come to: printed by program. -/
namespace Go.Y
open Go.Proofs
set_option maxRecDepth 100000
set_option maxHeartbeats 0
theorem f23n_0 (id1 : Nat) (h : Heap) (K : Out → Nat → List V → Heap → Prop) : (codeP Try.Y (Try.Y.loc 23) 100 (pre (flat (bodyOf Try.f23))) ⟨(V.sl none 0 (some 0) 0 :: V.fn (Fn.func 24) [] [V.p (some (id1, 0))] :: List.replicate 40 .undef), [], h⟩ (VQ [0, 1, 4, 5, 6] K)) =
  (Con Try.Y (27 : Nat)
  [V.sl none 0 (some 0) 0, V.fn (Fn.func 24) [] [V.p (some (id1, 0))]]
  h fun (v : V) (h' : Heap) =>
  ∃ (n : Int),
 v = V.i IntKind.i64 n ∧
 If (n == (-1 : Int))
 (K Out.ret 42
 [V.sl none 0 (some 0) 0,
 V.fn (Fn.func 24) [] [V.p (some (id1, 0))],
 V.sl none 0 (some 0) 0, V.i IntKind.i64 n, V.undef]
 h')
 (K Out.normal 42
 [V.sl none 0 (some 0) 0,
 V.fn (Fn.func 24) [] [V.p (some (id1, 0))],
 V.sl none 0 (some 0) 0, V.i IntKind.i64 n,
 V.i IntKind.i64 (IntKind.i64.wrap (n + (1 : Int)))]
 h')) := by kernel_rfl
theorem f23n_1 (id1 : Nat) (x5 : Int) (x6 : Int) (h : Heap) (K : Out → Nat → List V → Heap → Prop) : (codeP Try.Y (Try.Y.loc 23) 100 ((flat (loopB (post (flat (bodyOf Try.f23)))))) ⟨mk 42 (([0, 1, 5, 6] : List Nat).zip [V.sl none 0 (some 0) 0, V.fn (Fn.func 24) [] [V.p (some (id1, 0))], V.i IntKind.i64 x5, V.i IntKind.i64 x6]), [], h⟩ (VQ [0, 1, 5, 6] K)) =
  (If (ltI x6 (↑(0 : Nat) : Int)) False
  (K (Out.exit 0) 42
 [V.sl none 0 (some 0) 0,
 V.fn (Fn.func 24) [] [V.p (some (id1, 0))], V.i IntKind.i64 x5, V.i IntKind.i64 x6]
 h)) := by kernel_rfl
theorem f23n_2 (x5 : Int) (h : Heap) (K : Out → Nat → List V → Heap → Prop) : (codeP Try.Y (Try.Y.loc 23) 100 (((post (flat (bodyOf Try.f23))).drop 1)) ⟨mk 42 (([0, 5] : List Nat).zip [V.sl none 0 (some 0) 0, V.i IntKind.i64 x5]), [], h⟩ (VQ [4] K)) =
  (∃ (a' : Option (Nat × Nat)),
  ∃ (n' : Nat),
 ∃ (c' : Option Nat),
 ∃ (k' : Nat),
 sliceY Try.Y 22 (V.sl none 0 (some 0) 0) (some (V.i IntKind.i64 x5))
 none none =
 some (V.sl a' n' c' k') ∧
 ∃ (h_1 : Heap),
 clearM Try.Y h 26 (V.sl a' n' c' k') = some h_1 ∧
 ∃ (a' : Option (Nat × Nat)),
 ∃ (n' : Nat),
 ∃ (c' : Option Nat),
 ∃ (k' : Nat),
 sliceY Try.Y 22 (V.sl none 0 (some 0) 0) none
 (some (V.i IntKind.i64 x5)) none =
 some (V.sl a' n' c' k') ∧
 K Out.ret 42 [V.sl a' n' c' k'] h_1) := by kernel_rfl
theorem f27n_0 (id1 : Nat) (h : Heap) (K : Out → Nat → List V → Heap → Prop) : (codeP Try.Y (Try.Y.loc 27) 100 (pre (flat (bodyOf Try.f27))) ⟨(V.sl none 0 (some 0) 0 :: V.fn (Fn.func 24) [] [V.p (some (id1, 0))] :: List.replicate 17 .undef), [], h⟩ (VQ [0, 1, 7, 8] K)) =
  (K Out.normal 19
  [V.sl none 0 (some 0) 0, V.fn (Fn.func 24) [] [V.p (some (id1, 0))],
 V.i IntKind.i64 (↑(0 : Nat) : Int), V.i IntKind.i64 (0 : Int)]
  h) := by kernel_rfl
theorem f27n_1 (id1 : Nat) (h : Heap) (K : Out → Nat → List V → Heap → Prop) : (codeP Try.Y (Try.Y.loc 27) 100 ((flat (loopB (post (flat (bodyOf Try.f27)))))) ⟨mk 19 (([0, 1, 7, 8] : List Nat).zip [V.sl none 0 (some 0) 0, V.fn (Fn.func 24) [] [V.p (some (id1, 0))], V.i IntKind.i64 (↑0 : Int), V.i IntKind.i64 0]), [], h⟩ (VQ [0, 1, 4, 7, 8] K)) =
  (K (Out.exit 0) 19
  [V.sl none 0 (some 0) 0, V.fn (Fn.func 24) [] [V.p (some (id1, 0))],
 V.undef, V.i IntKind.i64 (0 : Int), V.i IntKind.i64 (0 : Int)]
  h) := by kernel_rfl
theorem f27n_2  (h : Heap) (K : Out → Nat → List V → Heap → Prop) : (codeP Try.Y (Try.Y.loc 27) 100 (((post (flat (bodyOf Try.f27))).drop 1)) ⟨mk 19 (([] : List Nat).zip []), [], h⟩ (VQ [4] K)) =
  (K Out.ret 19 [V.i IntKind.i64 (-1 : Int)] h) := by kernel_rfl
end Go.Y

/- slices.DeleteFunc of the loops: its contract. -/
namespace Go.Y
open Go.Proofs Tar
set_option maxRecDepth 100000

/-- Lists of their own, each with what it holds. -/
def ZOk (h : Heap) (id0 : Nat) (Z : List (V × List Nat)) : Prop := ∀ z ∈ Z, ∃ j, z.1 = .sl (some (j, 0)) z.2.length none 1 ∧ h.get j = some (.arr (nums z.2) true) ∧ j ≠ id0 ∧ z.2 ≠ []
def objV : V → Option Nat
  | .sl (some (j, _)) _ _ _ => some j
  | _ => none

theorem zfrz : ∀ {Z : List (V × List Nat)} {h : Heap}, (∀ z ∈ Z, ∃ j, z.1 = .sl (some (j, 0)) z.2.length none 1 ∧ h.get j = some (.arr (nums z.2) true)) → FrzL h (Z.map (·.1)) (rowsV (Z.map fun z => natI z.2))
  | [], _, _ => .nil
  | z :: Z, h, n => by
    obtain ⟨j, h1, h2⟩ := n z (by simp)
    refine .cons _ _ _ _ ?_ (zfrz fun z' hz => n z' (by simp [hz]))
    have hcl : colds1 (nums z.2) = true := by rw [nums_ints]; exact colds_ints _
    rw [nums_ints] at h2 hcl
    show Frz h z.1 (encR (natI z.2))
    rw [h1]
    unfold encR
    have hll : (natI z.2).length = z.2.length := by simp [natI]
    rw [hll]
    exact .sl _ _ _ _ _ _ true _ _ _ h2 (by rw [List.drop_zero]; exact takeX_len (by simp [ints, natI])) (fun x hx => by cases hx) (by decide) (colds1_ok _ hcl)

theorem del24_con {G : List (List Int)} {l : List Nat} {j id1 : Nat} {wr : Bool} {h : Heap} (hl : ∀ r ∈ G, r.length < 2 ^ 28) (h0 : l ≠ []) (hr : ∀ x ∈ l, x < G.length) (hj : h.get j = some (.arr (nums l) true)) (hg : h.get id1 = some (.arr [.ts (rowsV G) G.length none] wr)) :
    Con Try.Y 24 [.sl (some (j, 0)) l.length none 1, .p (some (id1, 0))] h fun v k => v = .b (!keepG G l) ∧ k = h := by
  refine con_of Try.Yok (fn := Try.f24) (by kernel_rfl) (by kernel_rfl) (show TriL Try.Y _ _ (FinS Try.Y Try.f24 fun v k => v = .b (!keepG G l) ∧ k = h) from ?_)
  refine end_rule Try.Yok (loc := Try.Y.loc 24) 100 [3] ?_
  refine Eq.mpr (f24_0 j l.length none id1 h _) ?_
  obtain ⟨x, r, rfl⟩ : ∃ x r, l = x :: r := by cases l with
    | nil => exact absurd rfl h0
    | cons x r => exact ⟨x, r, rfl⟩
  refine if_mk (fun hc => ?_) (fun hc => ?_)
  · have hrl : r = [] := by
      have : (((x :: r).length : Nat) : Int) = 1 := by simpa using hc
      simp at this
      cases r with
      | nil => rfl
      | cons _ _ => simp at this; omega
    subst hrl
    have hx := hr x (by simp)
    obtain ⟨row, hrow⟩ : ∃ row, G[x]? = some row := ⟨_, List.getElem?_eq_getElem hx⟩
    have hn0 : hcells h j 0 1 = some [.i .i64 ((x : Nat) : Int)] := hcells_at hj rfl
    refine ⟨_, _, _, hcells_one hg, ⟨by decide, by simp⟩, rfl, _, hn0, ⟨by omega, by omega⟩, _, _, _, rowsV_at hrow, ⟨by decide, by simp⟩, rfl, _, hn0, _, contains_con (Nat.lt_trans (hl row (List.mem_of_getElem? hrow)) (by decide)), ?_⟩
    have e : keepG G [x] = row.contains (x : Int) := by simp [keepG, selfG, List.getD_eq_getElem?_getD, hrow]
    refine ⟨.inr rfl, _, rfl, ?_, rfl⟩
    rw [e]; rfl
  · refine ⟨.inr rfl, _, rfl, ?_, rfl⟩
    have h1 : 1 < (x :: r).length := by
      cases r with
      | nil => simp at hc
      | cons _ _ => simp
    unfold keepG
    rw [decide_eq_true h1]; rfl

/-- The first that is to go. -/
def firstZ (G : List (List Int)) : Nat → List (V × List Nat) → Int
  | _, [] => -1
  | i, z :: r => if keepG G z.2 then firstZ G (i + 1) r else (i : Int)
def I27d (G : List (List Int)) (Z : List (V × List Nat)) (id0 id1 : Nat) (h : Heap) (m : Nat) (vs : List V) (h' : Heap) : Prop :=
  ∃ i : Nat, vs = [.sl (some (id0, 0)) Z.length none 1, .fn (.func 24) [] [.p (some (id1, 0))], .i .i64 (Z.length : Nat), .i .i64 (i : Nat)] ∧ h' = h ∧ m = Z.length - i ∧ i ≤ Z.length ∧ firstZ G i (Z.drop i) = firstZ G 0 Z

theorem zcell {Z : List (V × List Nat)} {i : Nat} {z : V × List Nat} (hz : Z[i]? = some z) : (Z.map (·.1))[i]? = some z.1 := by simp [hz]

theorem idx24_con {G : List (List Int)} {Z : List (V × List Nat)} {id0 id1 : Nat} {wr : Bool} {h : Heap} (hl : ∀ r ∈ G, r.length < 2 ^ 28) (hZ : Z.length < 2 ^ 28) (hz : ZOk h id0 Z) (hr : ∀ z ∈ Z, ∀ x ∈ z.2, x < G.length) (h0 : h.get id0 = some (.arr (Z.map (·.1)) true))
    (hg : h.get id1 = some (.arr [.ts (rowsV G) G.length none] wr)) :
    Con Try.Y 27 [.sl (some (id0, 0)) Z.length none 1, .fn (.func 24) [] [.p (some (id1, 0))]] h fun v k => v = .i .i64 (firstZ G 0 Z) ∧ k = h := by
  refine con_of Try.Yok (fn := Try.f27) (by kernel_rfl) (by kernel_rfl) (show TriL Try.Y _ _ (FinS Try.Y Try.f27 fun v k => v = .i .i64 (firstZ G 0 Z) ∧ k = h) from ?_)
  refine pre_rule Try.Yok (n := 19) (loc := Try.Y.loc 27) 100 [0, 1, 7, 8] (by kernel_rfl) ?_
  refine Eq.mpr (f27d_0 id0 Z.length none id1 h _) ?_
  refine ⟨rfl, loop2 [0, 1, 7, 8] [0, 1, 4, 7, 8] rfl (by kernel_rfl) (I27d G Z id0 id1 h) Z.length mk_len ⟨0, rfl, rfl, by omega, by omega, rfl⟩ ?_⟩
  rintro m vs h' ⟨i, rfl, rfl, rfl, hi, hI⟩
  refine all_rule Try.Yok (loc := Try.Y.loc 27) 100 [0, 1, 4, 7, 8] ?_
  refine Eq.mpr (f27d_1 id0 Z.length none id1 (i : Nat) h' _) ?_
  refine if_lt_nat (fun hlt => ?_) (fun hge => ?_)
  · obtain ⟨z, hzi⟩ : ∃ z, Z[i]? = some z := ⟨_, List.getElem?_eq_getElem hlt⟩
    rw [drop_at hzi] at hI
    simp only [firstZ] at hI
    have hm := List.mem_of_getElem? hzi
    obtain ⟨j, e1, e2, e3, e4⟩ := hz z hm
    have hc := zcell hzi
    rw [e1] at hc
    refine ⟨⟨by omega, by omega⟩, rfl, _, _, _, _, by rw [at1]; exact hcells_at h0 hc, (del24_con hl e4 (hr z hm) e2 hg).mono fun v k ⟨hv, hk⟩ => ⟨_, hv, if_mk (fun hb => ?_) (fun hb => ?_)⟩⟩
    · have hk2 : keepG G z.2 = false := by simpa using hb
      rw [hk2] at hI
      refine fin_at (.inr rfl) rfl ⟨?_, hk⟩
      rw [← hI]; rfl
    · have hk2 : keepG G z.2 = true := by simpa using hb
      rw [hk2, if_pos rfl] at hI
      subst hk
      exact ⟨rfl, Z.length - (i + 1), by omega, i + 1, by rw [wrap_succ (by omega)]; rfl, rfl, rfl, by omega, hI⟩
  · refine roundW_exit [] (by kernel_rfl) rfl rfl ?_
    refine end_rule Try.Yok (loc := Try.Y.loc 27) 100 [4] ?_
    refine Eq.mpr (f27d_2 h' _) ?_
    refine ⟨.inr rfl, _, rfl, ?_, rfl⟩
    have : i = Z.length := by omega
    rw [← hI, this, List.drop_length]; rfl

theorem firstZ_cases (G : List (List Int)) : ∀ (Z : List (V × List Nat)) (i : Nat), (firstZ G i Z = -1 ∧ ∀ z ∈ Z, keepG G z.2 = true) ∨ ∃ n, n < Z.length ∧ firstZ G i Z = ((i + n : Nat) : Int) ∧ (∀ z ∈ Z.take n, keepG G z.2 = true) ∧ ∃ z, Z[n]? = some z ∧ keepG G z.2 = false
  | [], i => .inl ⟨rfl, fun z hz => by cases hz⟩
  | z :: Z, i => by
    simp only [firstZ]
    cases hk : keepG G z.2 with
    | false => exact .inr ⟨0, by simp, by simp, fun z hz => (by simp at hz), z, rfl, hk⟩
    | true =>
      rw [if_pos rfl]
      rcases firstZ_cases G Z (i + 1) with ⟨h1, h2⟩ | ⟨n, h1, h2, h3, z', h4, h5⟩
      · refine .inl ⟨h1, fun z' hz => ?_⟩
        rcases List.mem_cons.1 hz with rfl | hz
        · exact hk
        · exact h2 z' hz
      · refine .inr ⟨n + 1, by simpa using h1, by rw [h2]; congr 1; omega, fun z' hz => ?_, z', by simpa using h4, h5⟩
        rw [List.take_succ_cons] at hz
        rcases List.mem_cons.1 hz with rfl | hz
        · exact hk
        · exact h3 z' hz

def I23 (G : List (List Int)) (Z : List (V × List Nat)) (id0 id1 : Nat) (h : Heap) (m : Nat) (vs : List V) (h' : Heap) : Prop :=
  ∃ (i w : Nat) (A : List V), vs = [.sl (some (id0, 0)) Z.length none 1, .fn (.func 24) [] [.p (some (id1, 0))], .i .i64 (w : Nat), .i .i64 (i : Nat)] ∧ w = ((Z.take i).filter fun z => keepG G z.2).length ∧ m = Z.length - i ∧ i ≤ Z.length ∧ h'.get id0 = some (.arr A true) ∧ (∀ j, j ≠ id0 → h'.get j = h.get j) ∧
    A.length = Z.length ∧ A.take ((Z.take i).filter fun z => keepG G z.2).length = ((Z.take i).filter fun z => keepG G z.2).map (·.1) ∧ A.drop i = (Z.drop i).map (·.1)

theorem takeD_has {h : Heap} {D : List Nat} {j : Nat} (hj : j ∈ D) : (takeD h D).get j = h.get j := by rw [takeD_get, if_pos hj]

theorem splice_take : ∀ (l : List V) (i : Nat) (x : List V), (splice l i x).take i = l.take i
  | l, 0, x => by simp
  | [], _ + 1, _ => by simp [splice]
  | v :: l, i + 1, x => by simp [splice, splice_take l i x]

theorem zobj {Z : List (V × List Nat)} {h : Heap} {id0 : Nat} (hz : ZOk h id0 Z) {D : List Nat} (hD : D = id0 :: Z.filterMap fun z => objV z.1) {h' : Heap} (hs : ∀ j, j ≠ id0 → h'.get j = h.get j) {Z' : List (V × List Nat)} (hsub : ∀ z ∈ Z', z ∈ Z) :
    ∀ z ∈ Z', ∃ j, z.1 = .sl (some (j, 0)) z.2.length none 1 ∧ (takeD h' D).get j = some (.arr (nums z.2) true) := fun z hm => by
  obtain ⟨j, e1, e2, e3, _⟩ := hz z (hsub z hm)
  refine ⟨j, e1, ?_⟩
  rw [takeD_has, hs j e3, e2]
  rw [hD]
  refine List.mem_cons_of_mem _ (List.mem_filterMap.2 ⟨z, hsub z hm, ?_⟩)
  rw [e1]; rfl

theorem rowsV_len (L : List (List Nat)) : (rowsV (L.map natI)).length = L.length := by simp [rowsV]

theorem del_con {G : List (List Int)} {Z : List (V × List Nat)} {id0 id1 : Nat} {wr : Bool} {h : Heap} (hl : ∀ r ∈ G, r.length < 2 ^ 28) (hZ : Z.length < 2 ^ 28) (hz : ZOk h id0 Z) (hr : ∀ z ∈ Z, ∀ x ∈ z.2, x < G.length) (h0 : h.get id0 = some (.arr (Z.map (·.1)) true))
    (hne : id1 ≠ id0) (hg : h.get id1 = some (.arr [.ts (rowsV G) G.length none] wr)) :
    Con Try.Y 23 [.sl (some (id0, 0)) Z.length none 1, .fn (.func 24) [] [.p (some (id1, 0))]] h fun v _ => v = .ts (rowsV (((Z.map (·.2)).filter (keepG G)).map natI)) ((Z.map (·.2)).filter (keepG G)).length none := by
  have hkeep : (Z.map (·.2)).filter (keepG G) = (Z.filter fun z => keepG G z.2).map (·.2) := by rw [List.filter_map]; rfl
  refine conz_of Try.Yok (fn := Try.f23) (by kernel_rfl) (by kernel_rfl) ?_
  refine pre_rule Try.Yok (n := 42) (loc := Try.Y.loc 23) 100 [0, 1, 4, 5, 6] (by kernel_rfl) ?_
  refine Eq.mpr (f23_0 id0 Z.length none id1 h _) ?_
  refine (idx24_con hl hZ hz hr h0 hg).mono fun v k ⟨hv, hk⟩ => ?_
  subst hk
  refine ⟨_, hv, ?_⟩
  rcases firstZ_cases G Z 0 with ⟨e1, e2⟩ | ⟨n, e1, e2, e3, z, e4, e5⟩
  · -- none is to go
    refine if_mk (fun _ => ?_) (fun hc => by rw [e1] at hc; simp at hc)
    have hall : (Z.filter fun z => keepG G z.2) = Z := List.filter_eq_self.2 e2
    refine fin_at (.inr rfl) rfl ⟨id0 :: Z.filterMap fun z => objV z.1, _, .inl (.frz _ _ (.sl _ _ _ _ _ (Z.map (·.1)) true (Z.map (·.1)) (rowsV (Z.map fun z => natI z.2)) none ?_ (by rw [List.drop_zero]; exact takeX_len (by simp)) (fun x hx => by cases hx) (by decide) (zfrz (zobj hz rfl (fun _ _ => rfl) fun _ h => h)))), ?_⟩
    · rw [takeD_has (by simp), h0]
    · rw [hkeep, hall]
      simp [List.map_map, Function.comp_def]
  · rw [e2]
    refine if_mk (fun hc => by simp at hc) (fun _ => ?_)
    have hzt : (Z.take (n + 1)).filter (fun z => keepG G z.2) = Z.take n := by
      rw [List.take_succ_eq_append_getElem e1, List.filter_append, List.filter_eq_self.2 e3]
      have : Z[n] = z := (List.getElem?_eq_some_iff.1 e4).2
      simp [this, e5]
    have hzl : ((Z.take (n + 1)).filter (fun z => keepG G z.2)).length = n := by rw [hzt]; simp; omega
    refine ⟨rfl, loop2 [0, 1, 5, 6] [0, 1, 5, 6] rfl (by kernel_rfl) (I23 G Z id0 id1 k) (Z.length - (n + 1)) mk_len ⟨n + 1, n, Z.map (·.1), ?_, hzl.symm, rfl, by omega, h0, fun _ _ => rfl, by simp, by rw [hzl, hzt, List.map_take], by rw [List.map_drop]⟩ ?_⟩
    · show [V.sl (some (id0, 0)) Z.length none 1, .fn (.func 24) [] [.p (some (id1, 0))], .i .i64 ((0 + n : Nat) : Int), .i .i64 (IntKind.i64.wrap (((0 + n : Nat) : Int) + 1))] = _
      rw [Nat.zero_add, wrap_succ (by omega)]
    rintro m vs h' ⟨i, w, A, rfl, hwe, rfl, hi, q0, qs, ql, qt, qd⟩
    have hzt' : ∀ {z}, z ∈ Z → ∃ j, z.1 = .sl (some (j, 0)) z.2.length none 1 ∧ h'.get j = some (.arr (nums z.2) true) ∧ z.2 ≠ [] := fun {z} hm => by
      obtain ⟨j, e1, e2, e3, e4⟩ := hz z hm
      exact ⟨j, e1, by rw [qs j e3, e2], e4⟩
    have hwl : w ≤ i := by rw [hwe]; exact Nat.le_trans (List.length_filter_le _ _) (by simp; omega)
    rw [← hwe] at qt
    refine all_rule Try.Yok (loc := Try.Y.loc 23) 100 [0, 1, 5, 6] ?_
    refine Eq.mpr (f23_1 id0 Z.length none id1 (w : Nat) (i : Nat) h' _) ?_
    refine if_lt_nat (fun hlt => ?_) (fun hge => ?_)
    · obtain ⟨z, hzi⟩ : ∃ z, Z[i]? = some z := ⟨_, List.getElem?_eq_getElem hlt⟩
      have hm := List.mem_of_getElem? hzi
      obtain ⟨j, g1, g2, g4⟩ := hzt' hm
      have hc : A[i]? = some z.1 := by
        have h5 : (A.drop i)[0]? = ((Z.drop i).map (·.1))[0]? := by rw [qd]
        rw [List.getElem?_drop, List.getElem?_map, List.getElem?_drop, Nat.add_zero, hzi] at h5
        exact h5
      have hc2 := hc
      rw [g1] at hc
      have hti : (Z.take (i + 1)).filter (fun z => keepG G z.2) = if keepG G z.2 then (Z.take i).filter (fun z => keepG G z.2) ++ [z] else (Z.take i).filter (fun z => keepG G z.2) := by
        rw [List.take_succ_eq_append_getElem hlt, List.filter_append]
        have : Z[i] = z := (List.getElem?_eq_some_iff.1 hzi).2
        rw [this]
        simp only [List.filter_cons, List.filter_nil]
        split
        · rfl
        · rw [List.append_nil]
      refine ⟨⟨by omega, by omega⟩, rfl, _, _, _, _, by rw [at1]; exact hcells_at q0 hc, (del24_con hl g4 (hr z hm) g2 (by rw [qs id1 hne]; exact hg)).mono fun v k' ⟨hv, hk⟩ => ?_⟩
      subst hk
      refine ⟨_, hv, if_mk (fun hb => ?_) (fun hb => ?_)⟩
      · have hkz : keepG G z.2 = true := by simpa using hb
        rw [hkz, if_pos rfl] at hti
        refine ⟨⟨by omega, by omega⟩, rfl, _, by rw [at1]; exact hstore_at q0 _ (by omega), rfl, Z.length - (i + 1), by omega, i + 1, w + 1, _, ?_, by rw [hti, List.length_append, ← hwe]; rfl, rfl, by omega, by rw [Heap.get_set, if_pos rfl], fun j' hj' => by rw [Heap.get_set, if_neg hj']; exact qs j' hj', by simpa using ql, ?_, ?_⟩
        · rw [wrap_succ (by omega), wrap_succ (by omega)]; rfl
        · rw [hti, List.length_append, List.map_append, ← hwe, ← qt]
          have hlt2 : w < A.length := by omega
          rw [show [z].length = 1 from rfl, List.take_succ_eq_append_getElem (by simpa using hlt2), List.take_set_of_le (Nat.le_refl _)]
          congr 1
          simp [g1]
        · rw [List.drop_set_of_lt (by omega)]
          have h6 : A.drop (i + 1) = (A.drop i).drop 1 := by rw [List.drop_drop]
          rw [h6, qd, ← List.map_drop, List.drop_drop]
      · have hkz : keepG G z.2 = false := by simpa using hb
        rw [hkz] at hti
        simp only [Bool.false_eq_true, if_false] at hti
        refine ⟨rfl, Z.length - (i + 1), by omega, i + 1, w, A, ?_, by rw [hti]; exact hwe, rfl, by omega, q0, qs, ql, by rw [hti, ← hwe]; exact qt, ?_⟩
        · rw [wrap_succ (by omega)]; rfl
        · have h6 : A.drop (i + 1) = (A.drop i).drop 1 := by rw [List.drop_drop]
          rw [h6, qd, ← List.map_drop, List.drop_drop]
    · have hi2 : i = Z.length := by omega
      subst hi2
      rw [List.take_length] at qt hwe
      refine roundW_exit [0, 5] (by kernel_rfl) rfl rfl ?_
      refine end_rule Try.Yok (loc := Try.Y.loc 23) 100 [4] ?_
      refine Eq.mpr (f23_2 id0 Z.length none (w : Nat) h' _) ?_
      have hty : Try.Y.ty 26 = some ⟨1, 24, .slice 3, [.sl none 0 (some 0) 0]⟩ := by kernel_rfl
      have hclear : ∃ h1 : Heap, clearM Try.Y h' 26 (.sl (some (id0, 0 + ((w : Nat) : Int).toNat)) (Z.length - ((w : Nat) : Int).toNat) (Option.map (fun x => x - ((w : Nat) : Int).toNat) none) 1) = some h1 ∧
          (∃ A', h1.get id0 = some (.arr A' true) ∧ A'.take w = (Z.filter fun z => keepG G z.2).map (·.1)) ∧ ∀ j, j ≠ id0 → h1.get j = h'.get j := by
        rw [Int.toNat_natCast, Nat.zero_add]
        by_cases hlen : Z.length - w = 0
        · exact ⟨h', by simp only [clearM, hty, hlen, if_true], ⟨A, q0, qt⟩, fun _ _ => rfl⟩
        · refine ⟨_, by simp only [clearM, hty]; rw [if_neg hlen, if_pos trivial]; simp only [q0]; rw [if_pos (by simp; omega)], ⟨_, by rw [Heap.get_set, if_pos rfl], by rw [splice_take]; exact qt⟩, fun j hj => by rw [Heap.get_set, if_neg hj]⟩
      obtain ⟨h1, c1, ⟨A', c2, c3⟩, c4⟩ := hclear
      refine ⟨rfl, ⟨by omega, by omega⟩, h1, by rw [Nat.mul_one]; exact c1, rfl, ⟨by omega, by simp only [Option.getD_none]; omega⟩, ?_⟩
      have hA' : w ≤ A'.length := by
        have := congrArg List.length c3
        simp at this; omega
      refine finC (.inr rfl) rfl ⟨id0 :: Z.filterMap fun z => objV z.1, _, .inl (.frz _ _ (.sl _ _ _ _ _ A' true ((Z.filter fun z => keepG G z.2).map (·.1)) (rowsV ((Z.filter fun z => keepG G z.2).map fun z => natI z.2)) none ?_ ?_ (fun x hx => by cases hx) (by decide) (zfrz (zobj hz rfl (fun j hj => by rw [c4 j hj, qs j hj]) fun z hz => (List.mem_filter.1 hz).1)))), ?_⟩
      · rw [takeD_has (by simp), c2]
      · rw [List.drop_zero, ← c3]
        have e : (((w : Nat) : Int).toNat - 0) * 1 = w := by simp
        rw [e]
        exact takeX_eq_take hA'
      · rw [hkeep]
        simp [List.map_map, Function.comp_def, hwe]
end Go.Y
