/- The reference's May; lists of numbers that are the same; a number in a list. -/
import Derived.Test.YtdoanndgjipbmaaGX2
namespace Go.Y
open Go.Proofs
set_option maxRecDepth 100000

def prevOK (p : Option Int) (x : Int) : Bool := match p with | none => true | some y => decide (y < x)
theorem rowOK_at {n : Nat} {l : List Int} {i : Nat} {x : Int} (h : l[i]? = some x) : rowOK n (prevI l i) (l.drop i) = (decide (0 ≤ x) && decide (x < (n : Nat)) && prevOK (prevI l i) x && rowOK n (prevI l (i + 1)) (l.drop (i + 1))) := rowOK_step h

def gBox (G : List (List Int)) : V := .lb [.ts (rowsV G) G.length none]

def I8 (G : List (List Int)) (m : Nat) (vs : List V) (_ : Heap) : Prop :=
  ∃ (i : Nat) (v12 : V), vs = [gBox G, .b false, .i .i64 (i : Nat), v12] ∧ m = G.length - i ∧ i ≤ G.length ∧ (G.drop i).all (rowOK G.length none) = mayG G
def J8 (G : List (List Int)) (l : List Int) (i : Nat) (v12 : V) (m : Nat) (vs : List V) (_ : Heap) : Prop :=
  ∃ k : Nat, vs = [gBox G, .b false, .i .i64 (i : Nat), .i .i64 (k : Nat), .i .i64 (G.length : Nat), v12] ∧ m = l.length - k ∧ k ≤ l.length ∧ rowOK G.length (prevI l k) (l.drop k) = rowOK G.length none l

theorem wrap_ok63 {n : Int} (h0 : -2 ^ 63 ≤ n) (h1 : n < 2 ^ 63) : IntKind.i64.wrap n = n := by
  have e : (2 : Int) ^ IntKind.i64.bits = 18446744073709551616 := by decide
  have e2 : (2 : Int) ^ (IntKind.i64.bits - 1) = 9223372036854775808 := by decide
  unfold IntKind.wrap
  simp only [e, e2, IntKind.signed, Bool.true_and]
  by_cases h : 0 ≤ n
  · have : n % 18446744073709551616 = n := Int.emod_eq_of_lt h (by omega)
    rw [this]
    simp; omega
  · have : n % 18446744073709551616 = n + 18446744073709551616 := by omega
    rw [this]
    simp; omega
theorem wrap_succ63 {i : Nat} (h : i < 2 ^ 63 - 1) : IntKind.i64.wrap ((i : Int) + 1) = ((i + 1 : Nat) : Int) := by
  rw [wrap_ok63 (by omega) (by omega)]; omega

theorem rmay63 {G : List (List Int)} (hG : G.length < 2 ^ 30) (hl : ∀ l ∈ G, l.length ≤ 2 ^ 63 - 1) : PCon Try.Y 8 [encG G] (· = .b (mayG G)) := by
  refine pcon_of Try.Yok (fn := Try.f8) (by kernel_rfl) (by kernel_rfl) rfl ?_
  refine pre_rule Try.Yok (n := 57) (loc := Try.Y.loc 8) 100 [1, 2, 3, 12] (by kernel_rfl) ?_
  refine Eq.mpr (f8_0 (rowsV G) G.length .empty _) ?_
  refine ⟨rfl, loop2 [1, 2, 3, 12] [1, 2, 3, 12] rfl (by kernel_rfl) (I8 G) G.length mk_len ⟨0, _, rfl, by omega, by omega, rfl⟩ ?_⟩
  rintro m vs h ⟨i, v12, rfl, rfl, hi, hI⟩
  refine pre_rule Try.Yok (n := 57) (loc := Try.Y.loc 8) 100 [1, 2, 3, 9, 12] (by kernel_rfl) ?_
  refine Eq.mpr (f8_1 (rowsV G) G.length (i : Nat) v12 h _) ?_
  refine if_lt_nat (fun hlt => ?_) (fun hge => ?_)
  · obtain ⟨r, hr⟩ : ∃ r, G[i]? = some r := ⟨_, List.getElem?_eq_getElem hlt⟩
    have hd : G.drop i = r :: G.drop (i + 1) := by
      rw [List.drop_eq_getElem_cons hlt, (List.getElem?_eq_some_iff.1 hr).2]
    rw [hd, List.all_cons] at hI
    have hrl := hl r (List.mem_of_getElem? hr)
    refine ⟨rfl, block2 (n := 57) [1, 2, 3, 12] (by kernel_rfl) ?_⟩
    refine pre_rule Try.Yok (n := 57) (loc := Try.Y.loc 8) 100 [1, 2, 3, 4, 9, 12] (by kernel_rfl) ?_
    refine Eq.mpr (f8_2 (rowsV G) G.length (i : Nat) v12 h _) ?_
    refine ⟨rfl, loopE [1, 2, 3, 4, 9, 12] [1, 2, 3, 4, 9, 12] rfl (by kernel_rfl) (J8 G r i v12) r.length mk_len ⟨0, rfl, by omega, by omega, rfl⟩ ?_⟩
    rintro m vs h' ⟨k, rfl, rfl, hk, hJ⟩
    refine all_rule Try.Yok (loc := Try.Y.loc 8) 100 [1, 2, 3, 4, 9, 12] ?_
    refine Eq.mpr (f8_3 (rowsV G) G.length (i : Nat) v12 (k : Nat) h' _) ?_
    have hb : (0 : Int) ≤ (i : Nat) ∧ ((i : Nat) : Int) < (G.length : Nat) := ⟨by omega, by omega⟩
    refine ⟨hb, _, _, _, rowsV_at hr, ?_⟩
    have bad : rowOK G.length (prevI r k) (r.drop k) = false → RoundE 57 [1, 2, 3, 4, 9, 12] [1, 2, 3, 4, 9, 12] (J8 G r i v12) (r.length - k) (loopId (post (flat (blockB (post (flat (loopB (post (flat (bodyOf Try.f8)))))))))) (VQ [1, 2, 3, 12] (ContW Try.Y 57 [1, 2, 3, 12] (blockId (post (flat (loopB (post (flat (bodyOf Try.f8))))))) ((post (flat (loopB (post (flat (bodyOf Try.f8)))))).drop 1) (VQ [1, 2, 3, 12] (RoundW Try.Y 57 [1, 2, 3, 12] [1, 2, 3, 12] (I8 G) (G.length - i) (loopId (post (flat (bodyOf Try.f8)))) ((post (flat (bodyOf Try.f8))).drop 1) (FinS Try.Y Try.f8 fun v h => ∃ r, Frz h v r ∧ r = .b (mayG G)))))) .ret 57 [gBox G, .b false, .i .i64 (i : Nat), .i .i64 (k : Nat), .i .i64 (G.length : Nat), v12] h' := fun hbad => by
      refine at_pick rfl ?_
      refine at_pick rfl ?_
      refine fin_at (.inr rfl) rfl ⟨_, .b _, ?_⟩
      rw [← hI, ← hJ, hbad]; rfl
    refine if_lt_nat (fun hkl => ?_) (fun hkg => ?_)
    · obtain ⟨x, hx⟩ : ∃ x, r[k]? = some x := ⟨_, List.getElem?_eq_getElem hkl⟩
      have hst := rowOK_at (n := G.length) hx
      have next : 0 ≤ x → x < (G.length : Nat) → prevOK (prevI r k) x = true → rowOK G.length (prevI r (k + 1)) (r.drop (k + 1)) = rowOK G.length none r := fun a0 a1 hp => by
        rw [hst, decide_eq_true a0, decide_eq_true a1, hp] at hJ
        simpa using hJ
      refine ⟨hb, _, _, _, rowsV_at hr, ⟨by omega, by omega⟩, x, ints_at hx, if_lt (fun h0 => bad ?_) (fun h0 => if_le (fun h1 => bad ?_) (fun h1 => if_pos_nat (fun hpos => ?_) (fun hz => ?_)))⟩
      · rw [hst, decide_eq_false (by omega)]; rfl
      · rw [hst, decide_eq_false (show ¬ x < (G.length : Nat) by omega)]; simp
      · obtain ⟨j, rfl⟩ : ∃ j, k = j + 1 := ⟨k - 1, by omega⟩
        obtain ⟨y, hy⟩ : ∃ y, r[j]? = some y := ⟨_, List.getElem?_eq_getElem (by omega)⟩
        have hw : IntKind.i64.wrap (((j + 1 : Nat) : Int) - (1 : Int)) = ((j : Nat) : Int) := by rw [wrap_ok63 (by omega) (by omega)]; omega
        have hp : prevI r (j + 1) = some y := hy
        rw [hw]
        refine ⟨hb, _, _, _, rowsV_at hr, ⟨by omega, by omega⟩, y, ints_at hy, if_le (fun h2 => bad ?_) (fun h2 => ?_)⟩
        · rw [hst, hp]; simp [prevOK]; omega
        · exact ⟨rfl, r.length - (j + 1 + 1), by omega, j + 1 + 1, by rw [wrap_succ63 (by omega)]; rfl, rfl, by omega, next h0 h1 (by rw [hp]; simpa [prevOK] using h2)⟩
      · subst hz
        exact ⟨rfl, r.length - (0 + 1), by omega, 0 + 1, by rw [wrap_succ63 (by omega)]; rfl, rfl, by omega, next h0 h1 rfl⟩
    · have hke : k = r.length := by omega
      have hrow : rowOK G.length none r = true := by rw [← hJ, hke, List.drop_length]; rfl
      rw [hrow, Bool.true_and] at hI
      simp only [RoundE]
      rw [if_pos (by kernel_rfl)]
      refine at_pick rfl ⟨rfl, [1, 2, 3], rfl, ?_⟩
      refine all_rule Try.Yok (loc := Try.Y.loc 8) 100 [1, 2, 3, 12] ?_
      refine Eq.mpr (f8_4 (rowsV G) G.length (i : Nat) h' _) ?_
      exact ⟨rfl, G.length - (i + 1), by omega, i + 1, _, by rw [wrap_succ63 (by omega)]; rfl, rfl, by omega, hI⟩
  · refine at_pick rfl (roundW_exit [] (by kernel_rfl) rfl rfl ?_)
    refine end_rule Try.Yok (loc := Try.Y.loc 8) 100 [2] ?_
    refine Eq.mpr (f8_5 h _) ?_
    refine finV1 (.inr rfl) rfl (.b _) ?_
    have : i = G.length := by omega
    rw [← hI, this, List.drop_length]; rfl
theorem rmay_con {G : List (List Int)} (hG : G.length < 2 ^ 30) (hl : ∀ l ∈ G, l.length < 2 ^ 30) : PCon Try.Y 8 [encG G] (· = .b (mayG G)) := rmay63 hG fun l hm => by have := hl l hm; omega
end Go.Y

/- Lists that are the same; a number in a list. -/
namespace Go.Y
open Go.Proofs
set_option maxRecDepth 100000

theorem drop_at {α : Type} {l : List α} {i : Nat} {x : α} (h : l[i]? = some x) : l.drop i = x :: l.drop (i + 1) := by
  have hlt := (List.getElem?_eq_some_iff.1 h).1
  rw [List.drop_eq_getElem_cons hlt, (List.getElem?_eq_some_iff.1 h).2]

def I22 (l : List Int) (x : Int) (m : Nat) (vs : List V) (_ : Heap) : Prop :=
  ∃ i : Nat, vs = [encR l, .i .i64 x, .i .i64 (i : Nat)] ∧ m = l.length - i ∧ i ≤ l.length ∧ (l.drop i).contains x = l.contains x

theorem has_con {l : List Int} {x : Int} (hl : l.length < 2 ^ 30) : PCon Try.Y 22 [encR l, .i .i64 x] (· = .b (l.contains x)) := by
  refine pcon_of Try.Yok (fn := Try.f22) (by kernel_rfl) (by kernel_rfl) rfl ?_
  refine pre_rule Try.Yok (n := 18) (loc := Try.Y.loc 22) 100 [0, 1, 5] (by kernel_rfl) ?_
  refine Eq.mpr (f22_0 (ints l) l.length x .empty _) ?_
  refine ⟨rfl, loop2 [0, 1, 5] [0, 1, 4, 5] rfl (by kernel_rfl) (I22 l x) l.length mk_len ⟨0, rfl, by omega, by omega, rfl⟩ ?_⟩
  rintro m vs h ⟨i, rfl, rfl, hi, hI⟩
  refine all_rule Try.Yok (loc := Try.Y.loc 22) 100 [0, 1, 4, 5] ?_
  refine Eq.mpr (f22_1 (ints l) l.length x (i : Nat) h _) ?_
  refine if_lt_nat (fun hlt => ?_) (fun hge => ?_)
  · obtain ⟨y, hy⟩ : ∃ y, l[i]? = some y := ⟨_, List.getElem?_eq_getElem hlt⟩
    rw [drop_at hy, List.contains_cons] at hI
    refine ⟨⟨by omega, by omega⟩, y, ints_at hy, if_mk (fun hc => ?_) (fun hc => ?_)⟩
    · have hxy : y = x := by simpa using hc
      refine fin_at (.inr rfl) rfl ⟨_, .b _, ?_⟩
      rw [← hI, hxy]; simp
    · have hxy : ¬ y = x := by simpa using hc
      have hxy2 : (x == y) = false := by simpa using fun e => hxy e.symm
      rw [hxy2, Bool.false_or] at hI
      exact ⟨rfl, l.length - (i + 1), by omega, i + 1, by rw [wrap_succ (by omega)]; rfl, rfl, by omega, hI⟩
  · refine roundW_exit [] (by kernel_rfl) rfl rfl ?_
    refine end_rule Try.Yok (loc := Try.Y.loc 22) 100 [4] ?_
    refine Eq.mpr (f22_2 h _) ?_
    refine finV1 (.inr rfl) rfl (.b _) ?_
    have : i = l.length := by omega
    rw [← hI, this, List.drop_length]; rfl

def I9 (l k : List Int) (m : Nat) (vs : List V) (_ : Heap) : Prop :=
  ∃ i : Nat, vs = [encR l, encR k, .i .i64 (i : Nat)] ∧ m = l.length - i ∧ i ≤ l.length ∧ (decide (l.drop i = k.drop i)) = decide (l = k)

theorem same_con {l k : List Int} (hl : l.length < 2 ^ 30) : PCon Try.Y 9 [encR l, encR k] (· = .b (decide (l = k))) := by
  refine pcon_of Try.Yok (fn := Try.f9) (by kernel_rfl) (by kernel_rfl) rfl ?_
  refine pre_rule Try.Yok (n := 26) (loc := Try.Y.loc 9) 100 [0, 1, 4, 5] (by kernel_rfl) ?_
  refine Eq.mpr (f9_0 (ints l) l.length (ints k) k.length .empty _) ?_
  refine if_mk (fun hc => ?_) (fun hc => ?_)
  · have hne : l.length ≠ k.length := fun e => by rw [e] at hc; simp at hc
    refine fin_at (.inr rfl) rfl ⟨_, .b _, ?_⟩
    rw [decide_eq_false fun e => hne (by rw [e])]
  · have hlen : l.length = k.length := by
      have : ((l.length : Nat) : Int) = (k.length : Nat) := by simpa using hc
      omega
    refine ⟨rfl, loop2 [0, 1, 5] [0, 1, 4, 5] rfl (by kernel_rfl) (I9 l k) l.length mk_len ⟨0, rfl, by omega, by omega, rfl⟩ ?_⟩
    rintro m vs h ⟨i, rfl, rfl, hi, hI⟩
    refine all_rule Try.Yok (loc := Try.Y.loc 9) 100 [0, 1, 4, 5] ?_
    refine Eq.mpr (f9_1 (ints l) l.length (ints k) k.length (i : Nat) h _) ?_
    refine if_lt_nat (fun hlt => ?_) (fun hge => ?_)
    · obtain ⟨x, hx⟩ : ∃ x, l[i]? = some x := ⟨_, List.getElem?_eq_getElem hlt⟩
      obtain ⟨y, hy⟩ : ∃ y, k[i]? = some y := ⟨_, List.getElem?_eq_getElem (by omega)⟩
      rw [drop_at hx, drop_at hy] at hI
      refine ⟨⟨by omega, by omega⟩, x, ints_at hx, ⟨by omega, by omega⟩, y, ints_at hy, if_mk (fun hc => ?_) (fun hc => ?_)⟩
      · have hxy : x ≠ y := by simpa using hc
        refine fin_at (.inr rfl) rfl ⟨_, .b _, ?_⟩
        rw [← hI, decide_eq_false fun e => hxy (List.cons.inj e).1]
      · have hxy : x = y := by simpa using hc
        subst hxy
        refine ⟨rfl, l.length - (i + 1), by omega, i + 1, by rw [wrap_succ (by omega)]; rfl, rfl, by omega, ?_⟩
        rw [← hI]; simp
    · refine roundW_exit [] (by kernel_rfl) rfl rfl ?_
      refine end_rule Try.Yok (loc := Try.Y.loc 9) 100 [4] ?_
      refine Eq.mpr (f9_2 h _) ?_
      refine finV1 (.inr rfl) rfl (.b _) ?_
      have : i = l.length := by omega
      rw [← hI, this, List.drop_length, hlen, List.drop_length]; rfl

def I12 (G K : List (List Int)) (m : Nat) (vs : List V) (_ : Heap) : Prop :=
  ∃ i : Nat, vs = [.ts (rowsV G) G.length none, .ts (rowsV K) K.length none, .i .i64 (G.length : Nat), .i .i64 (i : Nat)] ∧ m = G.length - i ∧ i ≤ G.length ∧ (decide (G.drop i = K.drop i)) = decide (G = K)

theorem sames_con {G K : List (List Int)} (hG : G.length < 2 ^ 30) (hl : ∀ l ∈ G, l.length < 2 ^ 30) : PCon Try.Y 12 [.ts (rowsV G) G.length none, .ts (rowsV K) K.length none] (· = .b (decide (G = K))) := by
  refine pcon_of Try.Yok (fn := Try.f12) (by kernel_rfl) (by kernel_rfl) rfl ?_
  refine pre_rule Try.Yok (n := 27) (loc := Try.Y.loc 12) 100 [0, 1, 4, 12, 13] (by kernel_rfl) ?_
  refine Eq.mpr (f12_0 (rowsV G) G.length (rowsV K) K.length .empty _) ?_
  refine if_mk (fun hc => ?_) (fun hc => ?_)
  · have hne : G.length ≠ K.length := fun e => by rw [e] at hc; simp at hc
    refine fin_at (.inr rfl) rfl ⟨_, .b _, ?_⟩
    rw [decide_eq_false fun e => hne (by rw [e])]
  · have hlen : G.length = K.length := by
      have : ((G.length : Nat) : Int) = (K.length : Nat) := by simpa using hc
      omega
    refine ⟨rfl, loop2 [0, 1, 12, 13] [0, 1, 4, 12, 13] rfl (by kernel_rfl) (I12 G K) G.length mk_len ⟨0, rfl, by omega, by omega, rfl⟩ ?_⟩
    rintro m vs h ⟨i, rfl, rfl, hi, hI⟩
    refine all_rule Try.Yok (loc := Try.Y.loc 12) 100 [0, 1, 4, 12, 13] ?_
    refine Eq.mpr (f12_1 (rowsV G) G.length (rowsV K) K.length (i : Nat) h _) ?_
    refine if_lt_nat (fun hlt => ?_) (fun hge => ?_)
    · obtain ⟨x, hx⟩ : ∃ x, G[i]? = some x := ⟨_, List.getElem?_eq_getElem hlt⟩
      obtain ⟨y, hy⟩ : ∃ y, K[i]? = some y := ⟨_, List.getElem?_eq_getElem (by omega)⟩
      rw [drop_at hx, drop_at hy] at hI
      refine ⟨⟨by omega, by omega⟩, _, _, _, rowsV_at hx, ⟨by omega, by omega⟩, _, _, _, rowsV_at hy, _, same_con (hl x (List.mem_of_getElem? hx)), if_mk (fun hc => ?_) (fun hc => ?_)⟩
      · have hxy : x ≠ y := by simpa using hc
        refine fin_at (.inr rfl) rfl ⟨_, .b _, ?_⟩
        rw [← hI, decide_eq_false fun e => hxy (List.cons.inj e).1]
      · have hxy : x = y := by simpa using hc
        subst hxy
        refine ⟨rfl, G.length - (i + 1), by omega, i + 1, by rw [wrap_succ (by omega)]; rfl, rfl, by omega, ?_⟩
        rw [← hI]; simp
    · refine roundW_exit [] (by kernel_rfl) rfl rfl ?_
      refine end_rule Try.Yok (loc := Try.Y.loc 12) 100 [4] ?_
      refine Eq.mpr (f12_2 h _) ?_
      refine finV1 (.inr rfl) rfl (.b _) ?_
      have : i = G.length := by omega
      rw [← hI, this, List.drop_length, hlen, List.drop_length]; rfl
end Go.Y

/- Nodes that lead nowhere. -/
namespace Go.Y
open Go.Proofs
set_option maxRecDepth 100000

def encI (x : Int) : List V := [.i .i64 x]
theorem row_encI (l : List Int) : row encI l = ints l := by
  induction l with
  | nil => rfl
  | cons x l ih => simpa [row, ints, encI] using ih
theorem lst_encI (l : List Int) : lst encI l = encR l := by simp [lst, encR, row_encI]

theorem int_app {h : Heap} {a : Option (Nat × Nat)} {l : Nat} {c : Option Nat} {kk : Nat} {out : List Int} (x : Int) (hl : Lst encI 1 h a l c kk out) (hb : out.length < 2 ^ 29) :
    ∃ a' l' c' k' h', appendH Try.Y h 26 26 (.sl a l c kk) (.ts [.i .i64 x] 1 (some 1)) = some (.sl a' l' c' k', h') ∧ Lst encI 1 h' a' l' c' k' (out ++ [x]) ∧ Fr h a h' ∧ ∃ j, a' = some (j, 0) ∧ h.nx ≤ j :=
  Lst.app1 (Y := Try.Y) (e := 3) (te := ⟨1, 8, .int .i64, [.i .i64 0]⟩) x (by kernel_rfl) (by kernel_rfl) rfl (by decide) hl (colds1_ok _ rfl) rfl rfl rfl (by decide) hb

/-- The places of empty rows, from the i-th on. -/
def endsFrom : Nat → List (List Int) → List Int
  | _, [] => []
  | i, r :: G => if r.length = 0 then (i : Int) :: endsFrom (i + 1) G else endsFrom (i + 1) G
def endsG (G : List (List Int)) : List Int := if mayG G then endsFrom 0 G else []

def I15 (G : List (List Int)) (m : Nat) (vs : List V) (h : Heap) : Prop :=
  ∃ (i : Nat) (out : List Int) (a : Option (Nat × Nat)) (l : Nat) (c : Option Nat) (k : Nat), vs = [gBox G, .sl a l c k, .ts (rowsV G) G.length none, .i .i64 (G.length : Nat), .i .i64 (i : Nat)] ∧ m = G.length - i ∧ i ≤ G.length ∧
    Lst encI 1 h a l c k out ∧ out.length ≤ i ∧ out ++ endsFrom i (G.drop i) = endsFrom 0 G

theorem ends_con {G : List (List Int)} (hG : G.length < 2 ^ 29) (hl : ∀ l ∈ G, l.length < 2 ^ 30) : PCon Try.Y 15 [encG G] (· = encR (endsG G)) := by
  refine pcon_of Try.Yok (fn := Try.f15) (by kernel_rfl) (by kernel_rfl) rfl ?_
  refine pre_rule Try.Yok (n := 26) (loc := Try.Y.loc 15) 100 [1, 3, 7, 8, 9] (by kernel_rfl) ?_
  refine Eq.mpr (f15_0 (rowsV G) G.length .empty _) ?_
  refine ⟨rfl, loop2 [1, 3, 7, 8, 9] [1, 3, 7, 8, 9] rfl (by kernel_rfl) (I15 G) G.length mk_len ⟨0, [], none, 0, some 0, 0, rfl, by omega, by omega, Lst.nil _ _ _ _ _, by simp, rfl⟩ ?_⟩
  rintro m vs h ⟨i, out, a, l, c, k, rfl, rfl, hi, hL, hol, hI⟩
  refine all_rule Try.Yok (loc := Try.Y.loc 15) 100 [1, 3, 7, 8, 9] ?_
  refine Eq.mpr (f15_1 (rowsV G) G.length a l c k (i : Nat) h _) ?_
  refine if_lt_nat (fun hlt => ?_) (fun hge => ?_)
  · obtain ⟨r, hr⟩ : ∃ r, G[i]? = some r := ⟨_, List.getElem?_eq_getElem hlt⟩
    rw [drop_at hr] at hI
    simp only [endsFrom] at hI
    refine ⟨⟨by omega, by omega⟩, _, _, _, rowsV_at hr, if_mk (fun hc => ?_) (fun hc => ?_)⟩
    · have h0 : r.length = 0 := by
        have : ((r.length : Nat) : Int) = 0 := by simpa using hc
        omega
      rw [if_pos h0] at hI
      obtain ⟨a', l', c', k', h', q1, q2, _, _⟩ := int_app (i : Nat) hL (by omega)
      refine ⟨a', l', c', k', h', q1, rfl, G.length - (i + 1), by omega, i + 1, out ++ [(i : Int)], a', l', c', k', by rw [wrap_succ (by omega)]; rfl, rfl, by omega, q2, by simp; omega, ?_⟩
      rw [← hI]; simp
    · have h0 : ¬ r.length = 0 := fun e => by rw [e] at hc; simp at hc
      rw [if_neg h0] at hI
      exact ⟨rfl, G.length - (i + 1), by omega, i + 1, out, a, l, c, k, by rw [wrap_succ (by omega)]; rfl, rfl, by omega, hL, by omega, hI⟩
  · refine roundW_exit [1, 3] (by kernel_rfl) rfl rfl ?_
    refine end_rule Try.Yok (loc := Try.Y.loc 15) 100 [2] ?_
    refine Eq.mpr (f15_2 (rowsV G) G.length a l c k h _) ?_
    have hout : out = endsFrom 0 G := by
      have : i = G.length := by omega
      rw [← hI, this, List.drop_length]; simp [endsFrom]
    refine ⟨_, may_con (by omega) hl, if_mk (fun hc => ?_) (fun hc => ?_)⟩
    · have : mayG G = false := by simpa using hc
      refine finV1 (.inr rfl) rfl (frz_nil encI _ _ _) ?_
      rw [lst_encI]; simp [endsG, this]
    · have : mayG G = true := by simpa using hc
      refine finV1 (.inr rfl) rfl (hL.frz (k := 1) (by decide) fun _ => rfl) ?_
      rw [lst_encI, hout]; simp [endsG, this]

def I16 (G : List (List Int)) (m : Nat) (vs : List V) (h : Heap) : Prop :=
  ∃ (i : Nat) (out : List Int) (a : Option (Nat × Nat)) (l : Nat) (c : Option Nat) (k : Nat), vs = [gBox G, .sl none 0 (some 0) 0, .sl a l c k, .i .i64 (i : Nat)] ∧ m = G.length - i ∧ i ≤ G.length ∧
    Lst encI 1 h a l c k out ∧ out.length ≤ i ∧ (mayG G = true → out ++ endsFrom i (G.drop i) = endsFrom 0 G) ∧ (mayG G = false → out = [])

theorem rends_con {G : List (List Int)} (hG : G.length < 2 ^ 29) (hl : ∀ l ∈ G, l.length < 2 ^ 30) : PCon Try.Y 16 [encG G] (· = encR (endsG G)) := by
  refine pcon_of Try.Yok (fn := Try.f16) (by kernel_rfl) (by kernel_rfl) rfl ?_
  refine pre_rule Try.Yok (n := 28) (loc := Try.Y.loc 16) 100 [1, 2, 3, 4] (by kernel_rfl) ?_
  refine Eq.mpr (f16_0 (rowsV G) G.length .empty _) ?_
  refine ⟨rfl, loop2 [1, 2, 3, 4] [1, 2, 3, 4] rfl (by kernel_rfl) (I16 G) G.length mk_len ⟨0, [], none, 0, some 0, 0, rfl, by omega, by omega, Lst.nil _ _ _ _ _, by simp, fun _ => rfl, fun _ => rfl⟩ ?_⟩
  rintro m vs h ⟨i, out, a, l, c, k, rfl, rfl, hi, hL, hol, hI, hJ⟩
  refine all_rule Try.Yok (loc := Try.Y.loc 16) 100 [1, 2, 3, 4] ?_
  refine Eq.mpr (f16_1 (rowsV G) G.length a l c k (i : Nat) h _) ?_
  have fin : out = endsG G → RoundW Try.Y 28 [1, 2, 3, 4] [1, 2, 3, 4] (I16 G) (G.length - i) (loopId (post (flat (bodyOf Try.f16)))) ((post (flat (bodyOf Try.f16))).drop 1) (FinS Try.Y Try.f16 fun v h => ∃ r, Frz h v r ∧ r = encR (endsG G)) (.exit 0) 28 [gBox G, .sl none 0 (some 0) 0, .sl a l c k, .i .i64 (i : Nat)] h := fun ho => by
    refine roundW_exit [3] (by kernel_rfl) rfl rfl ?_
    refine end_rule Try.Yok (loc := Try.Y.loc 16) 100 [2] ?_
    refine Eq.mpr (f16_2 a l c k h _) ?_
    refine finV1 (.inr rfl) rfl (hL.frz (k := 1) (by decide) fun _ => rfl) ?_
    rw [lst_encI, ho]
  refine ⟨_, rmay_con (by omega) hl, if_mk (fun hm => if_lt_nat (fun hlt => ?_) (fun hge => fin ?_)) (fun hm => fin ?_)⟩
  · have hI := hI hm
    obtain ⟨r, hr⟩ : ∃ r, G[i]? = some r := ⟨_, List.getElem?_eq_getElem hlt⟩
    rw [drop_at hr] at hI
    simp only [endsFrom] at hI
    refine ⟨⟨by omega, by omega⟩, _, _, _, rowsV_at hr, if_mk (fun hc => ?_) (fun hc => ?_)⟩
    · have h0 : r.length = 0 := by
        have : ((r.length : Nat) : Int) = 0 := by simpa using hc
        omega
      rw [if_pos h0] at hI
      obtain ⟨a', l', c', k', h', q1, q2, _, _⟩ := int_app (i : Nat) hL (by omega)
      refine ⟨a', l', c', k', h', q1, rfl, G.length - (i + 1), by omega, i + 1, out ++ [(i : Int)], a', l', c', k', by rw [wrap_succ (by omega)]; rfl, rfl, by omega, q2, by simp; omega, fun _ => ?_, fun e => by rw [e] at hm; cases hm⟩
      rw [← hI]; simp
    · have h0 : ¬ r.length = 0 := fun e => by rw [e] at hc; simp at hc
      rw [if_neg h0] at hI
      exact ⟨rfl, G.length - (i + 1), by omega, i + 1, out, a, l, c, k, by rw [wrap_succ (by omega)]; rfl, rfl, by omega, hL, by omega, fun _ => hI, fun e => by rw [e] at hm; cases hm⟩
  · have hI := hI hm
    have : i = G.length := by omega
    rw [this, List.drop_length] at hI
    simp only [endsFrom, List.append_nil] at hI
    rw [hI]; simp [endsG, hm]
  · rw [hJ hm]; simp [endsG, hm]
end Go.Y
