/- souffleurref03.Parse and Same, by their contracts. -/
import Derived.Test.YtpddiafjmkjpmaaGParse
import Derived.Test.YtpddiafjmkjpmaaGC1
import Derived.Test.YtpddiafjmkjpmaaGRule
import Derived.Test.YtpddiafjmkjpmaaGClone
namespace Go.Y
open Go.Proofs
set_option maxRecDepth 100000

def RParseI (s : List UInt8) (R : Except Nat (List Glob)) (m : Nat) (vs : List V) (h : Heap) : Prop :=
  ∃ (i : Nat) (out : List Glob) (a : Option (Nat × Nat)) (l : Nat) (c : Option Nat) (k : Nat), vs = [.s s, .sl a l c k, .i .i64 (i : Nat)] ∧ Lst encG 3 h a l c k out ∧
    i ≤ s.length ∧ out.length ≤ i ∧ s.length - i < m ∧ parseS m s i out = R

theorem frzG0 (k b : Int) : FrzL .empty [.i .i64 k, .i .u8 b, .sl none 0 (some 0) 0] (encG ⟨k, b, []⟩) :=
  .cons _ _ _ _ (.i _ _) (.cons _ _ _ _ (.i _ _) (.cons _ _ _ _ (.sln _ _ none (fun x hx => by cases hx)) .nil))

theorem rparse_con (s : List UInt8) : PCon Try.Y 14 [.s s] (· = parseR s) := by
  refine pcon_of Try.Yok (fn := Try.f14) (by kernel_rfl) (by kernel_rfl) rfl ?_
  refine pre_rule Try.Yok (n := 71) (loc := Try.Y.loc 14) 100 [0, 2, 3, 4, 5, 6] (by kernel_rfl) ?_
  rw [show (⟨[.s s] ++ List.replicate (Try.f14.ntmps - [V.s s].length) .undef, [], .empty⟩ : St) = ⟨.s s :: List.replicate 70 .undef, [], .empty⟩ by rfl, f14_0]
  unfold parseR
  refine if_lt (fun hlt => ?_) (fun hge => ?_)
  · rw [if_pos (by omega)]
    exact fin3 (.inr rfl) rfl (frz_nil encG _ _ _) (.i _ _) (.i _ _) rfl
  have hs : s.length ≤ 200 := by omega
  rw [if_neg (by omega)]
  generalize hR : parseS (s.length + 1) s 0 [] = R
  refine ⟨rfl, loop2 [0, 5, 6] [0, 2, 3, 4, 5, 6] rfl (by kernel_rfl) (RParseI s R) (s.length + 1) mk_len
    ⟨0, [], none, 0, some 0, 0, rfl, Lst.nil _ _ _ _ _, by omega, by simp, by omega, hR⟩ ?_⟩
  rintro m vs h ⟨i, out, a, l, c, k, rfl, hL, hi, hol, hm, hg⟩
  refine all_rule Try.Yok (loc := Try.Y.loc 14) 100 [0, 2, 3, 4, 5, 6] ?_
  rw [f14_1]
  obtain ⟨m, rfl⟩ : ∃ m', m = m' + 1 := ⟨m - 1, by omega⟩
  have hll := hL.len
  refine if_lt_nat (fun hlt => ?_) (fun hge => ?_)
  · have hsi : s[i]? = some s[i] := by simp [hlt]
    simp only [parseS, hlt, if_true] at hg
    -- one more piece
    have more : ∀ (x : Glob) (j : Nat) (new : List V), pieceS s i = .ok (x, j) → new.length = 3 → allCells new = true → colds1 new = true → FrzL .empty new (encG x) → ∀ v6 : Int, v6 = (j : Nat) →
        ∃ (a' : Option (Nat × Nat)) (l' : Nat) (c' : Option Nat) (k' : Nat) (h_1 : Heap), appendH Try.Y h 23 23 (.sl a l c k) (.ts new 1 (some 1)) = some (.sl a' l' c' k', h_1) ∧
          RoundW Try.Y 71 [0, 2, 3, 4, 5, 6] [0, 5, 6] (RParseI s R) (m + 1) (loopId (post (flat (bodyOf Try.f14)))) ((post (flat (bodyOf Try.f14))).drop 1)
            (FinS Try.Y Try.f14 fun v h => ∃ r, Frz h v r ∧ r = match R with | .error e => .tup [lst encG [], .i .i64 (e : Nat), .i .i64 1] | .ok l => .tup [lst encG l, .i .i64 0, .i .i64 0])
            .normal 71 [.s s, .undef, .undef, .undef, .sl a' l' c' k', .i .i64 v6] h_1 := by
      rintro x j new hp h1 h2 h3 h4 v6 rfl
      have hj := pieceS_ok hp
      obtain ⟨a', l', c', k', h', q1, q2, _⟩ := glob_app x h1 h2 h3 h4 hL (by omega)
      rw [hp] at hg
      exact ⟨a', l', c', k', h', q1, rfl, m, by omega, j, out ++ [x], a', l', c', k', rfl, q2, hj.2, by simp; omega, by omega, hg⟩
    refine ⟨s[i], ⟨by omega, by simp [hlt]⟩, ?_⟩
    rw [show (42 : Int) = (((42 : UInt8).toNat : Nat) : Int) by decide, show (63 : Int) = (((63 : UInt8).toNat : Nat) : Int) by decide, show (91 : Int) = (((91 : UInt8).toNat : Nat) : Int) by decide, show (92 : Int) = (((92 : UInt8).toNat : Nat) : Int) by decide, u8_lit, u8_lit, u8_lit, u8_lit, wrap_succ (by omega)]
    refine if_dec (fun c1 => ?_) (fun c1 => ?_)
    · exact more ⟨2, 0, []⟩ (i + 1) _ (by unfold pieceS; rw [hsi]; simp only []; rw [if_pos c1]) rfl rfl rfl (frzG0 _ _) _ rfl
    refine if_dec (fun c2 => ?_) (fun c2 => ?_)
    · exact more ⟨1, 0, []⟩ (i + 1) _ (by unfold pieceS; rw [hsi]; simp only []; rw [if_neg c1, if_pos c2]) rfl rfl rfl (frzG0 _ _) _ rfl
    refine if_dec (fun c3 => ?_) (fun c3 => ?_)
    · have hc := spans_con s (i + 1) (by omega) (by omega)
      cases he : setS (s.length + 1) s (i + 1) [] with
      | error e =>
        have hp : pieceS s i = .error e := by unfold pieceS; rw [hsi]; simp only []; rw [if_neg c1, if_neg c2, if_pos c3, he]
        rw [he] at hc
        rw [hp] at hg
        refine ⟨_, _, _, _, _, hc, if_lt (fun _ => ?_) (fun h => by omega)⟩
        subst hg
        exact fin3 (.inr rfl) rfl (frz_nil encG _ _ _) (.i _ _) (.i _ _) rfl
      | ok y =>
        obtain ⟨l1, j⟩ := y
        have hp : pieceS s i = .ok (⟨3, 0, l1⟩, j) := by unfold pieceS; rw [hsi]; simp only []; rw [if_neg c1, if_neg c2, if_pos c3, he]
        rw [he] at hc
        exact ⟨_, _, _, _, _, hc, if_lt (fun h => by omega) (fun _ => more ⟨3, 0, l1⟩ j _ hp rfl rfl rfl (colds1_ok _ rfl) _ rfl)⟩
    refine if_dec (fun c4 => ?_) (fun c4 => ?_)
    · refine if_le (fun hle => ?_) (fun hl2 => ?_)
      · have hp : pieceS s i = .error (i + 1) := by unfold pieceS; rw [hsi]; simp only []; rw [if_neg c1, if_neg c2, if_neg c3, if_pos c4, List.getElem?_eq_none (by omega)]
        rw [hp] at hg
        subst hg
        exact fin3 (.inr rfl) rfl (frz_nil encG _ _ _) (.i _ _) (.i _ _) rfl
      · have hl : i + 1 < s.length := by omega
        refine ⟨s[i + 1], ⟨by omega, by rw [show (((i + 1 : Nat) : Int)).toNat = i + 1 by omega]; simp [hl]⟩, ?_⟩
        rw [wrap_succ (by omega)]
        exact more ⟨0, s[i + 1].toNat, []⟩ (i + 2) _ (by unfold pieceS; rw [hsi]; simp only []; rw [if_neg c1, if_neg c2, if_neg c3, if_pos c4]; simp [hl]) rfl rfl rfl (frzG0 _ _) _ rfl
    · exact more ⟨0, s[i].toNat, []⟩ (i + 1) _ (by unfold pieceS; rw [hsi]; simp only []; rw [if_neg c1, if_neg c2, if_neg c3, if_neg c4]) rfl rfl rfl (frzG0 _ _) _ rfl
  · refine roundW_exit [5] (by kernel_rfl) rfl rfl ?_
    refine end_rule Try.Yok (loc := Try.Y.loc 14) 100 [2, 3, 4] ?_
    rw [show pick [0, 2, 3, 4, 5, 6] [5] [V.s s, V.undef, V.undef, V.undef, V.sl a l c k, .i .i64 (i : Nat)] = [V.sl a l c k] by rfl, f14_2]
    simp only [parseS, Nat.not_lt.2 hge, if_false] at hg
    subst hg
    exact fin3Z (.inr rfl) rfl (hL.frz (by decide) encG_len) (.i _ _) (.i _ _) rfl
end Go.Y

/- souffleurref03.Same, by its contract. -/
namespace Go.Y
open Go.Proofs
set_option maxRecDepth 100000

def SameO (a b : List Glob) (m : Nat) (vs : List V) (_ : Heap) : Prop :=
  ∃ i : Nat, vs = [lst encG a, lst encG b, .i .i64 (i : Nat), .b false] ∧ i ≤ a.length ∧ m = a.length - i ∧ a.take i = b.take i
def SameN (a b : List Glob) (i : Nat) (x y : Glob) (m : Nat) (vs : List V) (_ : Heap) : Prop :=
  ∃ j : Nat, vs = [lst encG a, lst encG b, .i .i64 (i : Nat), .i .i64 (j : Nat), .b false] ∧ j ≤ x.sp.length ∧ m = x.sp.length - j ∧ x.sp.take j = y.sp.take j

theorem bnd_nat {i n : Nat} (h : i < n) : (0 : Int) ≤ (i : Nat) ∧ ((i : Nat) : Int) < (n : Nat) := ⟨by omega, by omega⟩

theorem rsame_con (a b : List Glob) (ha : a.length < 2 ^ 30) (hsp : ∀ x ∈ a, x.sp.length < 2 ^ 30) : PCon Try.Y 15 [lst encG a, lst encG b] (· = .b (decide (a = b))) := by
  refine pcon_of Try.Yok (fn := Try.f15) (by kernel_rfl) (by kernel_rfl) rfl ?_
  refine pre_rule Try.Yok (n := 84) (loc := Try.Y.loc 15) 100 [0, 1, 4, 5, 11] (by kernel_rfl) ?_
  rw [show (⟨[lst encG a, lst encG b] ++ List.replicate (Try.f15.ntmps - [lst encG a, lst encG b].length) .undef, [], .empty⟩ : St) = ⟨lst encG a :: lst encG b :: List.replicate 82 .undef, [], .empty⟩ by rfl, f15_0]
  have no : ∀ (o : Out) (vs : List V) (h : Heap) (so : List Nat), a ≠ b → resV Try.Y Try.f15 (so.zip vs) = some (.b false) → AtV so (FinS Try.Y Try.f15 fun v h => ∃ r, Frz h v r ∧ r = .b (decide (a = b))) .ret 84 vs h := fun o vs h so hne hv =>
    fin_at (.inr rfl) hv ⟨_, .b _, by simp [hne]⟩
  refine if_mk (fun hc => no .ret _ _ _ (fun e => by subst e; simp at hc) rfl) (fun hc => ?_)
  have hlen : a.length = b.length := by simp at hc; omega
  refine ⟨rfl, loop2 [0, 1, 5, 11] [0, 1, 4, 5, 11] rfl (by kernel_rfl) (SameO a b) a.length mk_len ⟨0, rfl, by omega, by omega, rfl⟩ ?_⟩
  rintro m vs h ⟨i, rfl, hi, rfl, hp⟩
  refine pre_rule Try.Yok (n := 84) (loc := Try.Y.loc 15) 100 [0, 1, 5, 11] (by kernel_rfl) ?_
  rw [f15_1]
  refine if_lt_nat (fun hlt => ?_) (fun hge => ?_)
  · have hlt' : i < b.length := by omega
    have ra := row_cons encG_len a hlt
    have rb := row_cons encG_len b hlt'
    refine ⟨rfl, block2 (n := 84) [0, 1, 4, 5, 6, 11] (by kernel_rfl) ?_⟩
    refine pre_rule Try.Yok (n := 84) (loc := Try.Y.loc 15) 100 [0, 1, 4, 5, 6, 11] (by kernel_rfl) ?_
    rw [f15_2, Int.toNat_natCast, ra, rb]
    -- different
    have diff : ∀ (v6 : V) (h : Heap), a[i] ≠ b[i] → AtV [0, 1, 4, 5, 6, 11] (VQ [0, 1, 4, 5, 11] (RoundW Try.Y 84 [0, 1, 4, 5, 11] [0, 1, 5, 11] (SameO a b) (a.length - i) (loopId (post (flat (bodyOf Try.f15)))) ((post (flat (bodyOf Try.f15))).drop 1)
        (FinS Try.Y Try.f15 fun v h => ∃ r, Frz h v r ∧ r = .b (decide (a = b))))) .ret 84 [lst encG a, lst encG b, .b false, .i .i64 (i : Nat), v6, .b false] h := by
      intro v6 h hne
      refine at_pick rfl ?_
      exact no .ret _ _ _ (fun e => hne (by subst e; rfl)) rfl
    refine ⟨bnd_nat hlt, a[i].k, rfl, bnd_nat hlt', b[i].k, rfl, if_mk (fun hk => at_pick rfl (diff _ _ (fun e => by rw [e] at hk; simp at hk))) (fun hk => ?_)⟩
    refine ⟨bnd_nat hlt, a[i].b, rfl, bnd_nat hlt', b[i].b, rfl, if_mk (fun hb => at_pick rfl (diff _ _ (fun e => by rw [e] at hb; simp at hb))) (fun hb => ?_)⟩
    refine ⟨bnd_nat hlt, _, _, _, rfl, bnd_nat hlt', _, _, _, rfl, if_mk (fun hl => at_pick rfl (diff _ _ (fun e => by rw [e] at hl; simp at hl))) (fun hl => ?_)⟩
    have hsl : a[i].sp.length = b[i].sp.length := by simp at hl; omega
    have hs30 := hsp a[i] (List.getElem_mem hlt)
    refine ⟨rfl, loopE [0, 1, 5, 6, 11] [0, 1, 4, 5, 6, 11] rfl (by kernel_rfl) (SameN a b i a[i] b[i]) a[i].sp.length mk_len ⟨0, rfl, by omega, by omega, rfl⟩ ?_⟩
    rintro m vs h2 ⟨j, rfl, hj, rfl, hq⟩
    refine all_rule Try.Yok (loc := Try.Y.loc 15) 100 [0, 1, 4, 5, 6, 11] ?_
    rw [f15_3, Int.toNat_natCast, ra, rb, Int.toNat_natCast]
    refine ⟨bnd_nat hlt, _, _, _, rfl, if_lt_nat (fun hjl => ?_) (fun hjg => ?_)⟩
    · have hjl' : j < b[i].sp.length := by omega
      refine ⟨bnd_nat hlt, _, _, _, rfl, bnd_nat hjl, _, _, row_get encS_len hjl, bnd_nat hlt', _, _, _, rfl, bnd_nat hjl', _, _, row_get encS_len hjl', if_mk (fun hd => ?_) (fun hd => ?_)⟩
      · refine at_pick rfl (diff _ _ (fun e => ?_))
        have : a[i].sp[j] = b[i].sp[j] := by simp only [e]
        rw [this] at hd
        simp at hd
      · have he : a[i].sp[j] = b[i].sp[j] := by
          simp only [Bool.and_true, Bool.not_eq_false', Bool.and_eq_true, beq_iff_eq] at hd
          cases h1 : a[i].sp[j]; cases h2 : b[i].sp[j]
          rw [h1, h2] at hd
          simp only at hd
          rw [hd.1, hd.2]
        refine ⟨rfl, a[i].sp.length - (j + 1), by omega, j + 1, ?_, by omega, rfl, take_more hq hjl hjl' he⟩
        rw [wrap_succ (by omega)]
        rfl
    · simp only [RoundE]
      rw [if_pos (by kernel_rfl)]
      refine at_pick rfl ?_
      refine ⟨rfl, [0, 1, 5, 11], rfl, ?_⟩
      have he : a[i] = b[i] := by
        have h1 := take_same hq hjg (by omega)
        simp only [bne_eq_false_iff_eq] at hk hb
        cases h3 : a[i]; cases h4 : b[i]
        rw [h3, h4] at h1 hk hb
        simp only at h1 hk hb
        rw [h1, hk, hb]
      refine all_two Try.Yok (loc := Try.Y.loc 15) 100 [0, 1, 5, 11] ?_
      refine Eq.mpr (f15_4 (row encG a) a.length (row encG b) b.length (i : Nat) _ _) ?_
      rw [wrap_succ (by omega)]
      exact fun vs2 ht => roundW_normal ht rfl rfl rfl (a.length - (i + 1)) (by omega) ⟨i + 1, rfl, by omega, rfl, take_more hp hlt hlt' he⟩
  · refine at_two fun vs2 ht => roundW_exit2 [] ht (by kernel_rfl) rfl rfl rfl ?_
    refine end_rule Try.Yok (loc := Try.Y.loc 15) 100 [4] ?_
    refine Eq.mpr (f15_5 _ _) ?_
    have := take_same hp hge (by omega)
    exact finV1 (.inr rfl) rfl (.b _) (by simp [this])
end Go.Y

/- Sides and pipes, by contracts. -/
namespace Go.Y
open Go.Proofs
set_option maxRecDepth 100000

structure Side where
  on : Bool
  shut : Bool
  eof : Bool
  place : Int
  clock : Int
  typed : List UInt8
  lines : List (List UInt8)
  fly : List UInt8
  ages : List Int
  ready : List UInt8
  buffer : List UInt8

abbrev encI (n : Int) : List V := [.i .i64 n]
abbrev encT (s : List UInt8) : List V := [.s s]
theorem encI_len (n : Int) : (encI n).length = 1 := rfl
theorem encT_len (s : List UInt8) : (encT s).length = 1 := rfl
abbrev sideL (s : Side) (lines ages : V) : List V := [.b s.on, .b s.shut, .b s.eof, .i .i64 s.place, .i .i64 s.clock, .s s.typed, lines, .s s.fly, ages, .s s.ready, .s s.buffer]
abbrev sideC (s : Side) : List V := sideL s (lst encT s.lines) (lst encI s.ages)
abbrev side0 : List V := [.b false, .b false, .b false, .i .i64 0, .i .i64 0, .s [], .sl none 0 (some 0) 0, .s [], .sl none 0 (some 0) 0, .s [], .s []]

theorem row_one {α : Type} (f : α → V) (l : List α) : row (fun a => [f a]) l = l.map f := by
  induction l with
  | nil => rfl
  | cons a l ih => simp only [row, List.map_cons, List.flatten_cons] at ih ⊢; rw [ih]; rfl
theorem rowI (l : List Int) : row encI l = l.map (.i .i64) := row_one _ l
theorem rowI_len (l : List Int) : (row encI l).length = l.length := by rw [rowI]; simp
theorem rowI_all (l : List Int) : allCells (row encI l) = true := by
  rw [rowI]
  induction l with
  | nil => rfl
  | cons a l ih => simp only [List.map_cons, allCells, ih, Bool.and_true]; rfl
theorem rowI_frz (l : List Int) (h : Heap) : FrzL h (row encI l) (row encI l) := by
  rw [rowI]
  induction l with
  | nil => exact .nil
  | cons a l ih => exact .cons _ _ _ _ (.i _ _) ih

/-- Clone of nothing. -/
theorem clone54e (c : Option Nat) : PCon Try.Y 54 [.ts [] 0 c] (· = .ts [] 0 (some 0)) := by
  have h := clone54 (args := [.ts [] 0 c]) (h := .empty) (v := .ts [] 0 (some 0)) (h' := .empty) rfl
  refine ⟨h.body, PTr.of (coldAll_cold rfl) h.tr fun v h' hq => ⟨_, ?_, rfl⟩⟩
  rw [hq.1]; exact .ts _ _ _ _ (fun x hx => hx)

/-- Clone of some. -/
theorem clone54n (l : List Int) (c : Option Nat) (h : Heap) (h0 : l ≠ []) (hl : l.length < 2 ^ 30) : Con Try.Y 54 [.ts (row encI l) l.length c] h fun v h' => v = .sl (some (h.nx, 0)) l.length none 1 ∧ h' = h.push (.arr (row encI l) true) := by
  refine clone54 ?_
  cases l with
  | nil => exact absurd rfl h0
  | cons a l =>
    have := rowI_len (a :: l)
    have ha := rowI_all (a :: l)
    simp only [List.length_cons] at this hl ⊢
    have ht : takeX ((l.length + 1) * 1) (row encI (a :: l)) = some (row encI (a :: l)) := takeX_len (by omega)
    simp only [cloneV, ht, ha]
    rw [if_pos ⟨trivial, by omega⟩]

/-! ### Tick -/
theorem splice_map (A B : List Int) (a b : Int) : splice ((A ++ a :: B).map (V.i .i64)) A.length [.i .i64 b] = (A ++ b :: B).map (V.i .i64) := by
  induction A with
  | nil => simp [splice]
  | cons x A ih => simpa [splice] using ih

def bump (a : Int) : Int := IntKind.i64.wrap (a + 1)
def tickS (s : Side) : Side := { s with ages := s.ages.map bump, clock := if s.on && !s.shut then IntKind.i64.wrap (s.clock + 1) else s.clock }

def TickI (s : Side) (m : Nat) (vs : List V) (h : Heap) : Prop :=
  ∃ (id i : Nat), vs = [.lb (sideL s (lst encT s.lines) (.sl (some (id, 0)) s.ages.length none 1)), .lb side0, .i .i64 s.ages.length, .i .i64 (i : Nat)] ∧ i ≤ s.ages.length ∧
    h.get id = some (.arr (((s.ages.take i).map bump ++ s.ages.drop i).map (.i .i64)) true) ∧ m = s.ages.length - i

theorem frz_sideL {s : Side} {h : Heap} {ln ln' ag ag' : V} (h1 : Frz h ln ln') (h2 : Frz h ag ag') : Frz h (.agg (sideL s ln ag)) (.agg (sideL s ln' ag')) :=
  .agg _ _ (.cons _ _ _ _ (.b _) (.cons _ _ _ _ (.b _) (.cons _ _ _ _ (.b _) (.cons _ _ _ _ (.i _ _) (.cons _ _ _ _ (.i _ _) (.cons _ _ _ _ (.s _) (.cons _ _ _ _ h1 (.cons _ _ _ _ (.s _) (.cons _ _ _ _ h2 (.cons _ _ _ _ (.s _) (.cons _ _ _ _ (.s _) .nil)))))))))))
theorem frz_ts (h : Heap) (cs : List V) (n : Nat) (c : Option Nat) : Frz h (.ts cs n c) (.ts cs n none) := .ts _ _ _ _ (fun x hx => by cases hx)
theorem frz_obj {h : Heap} {id : Nat} {l : List Int} {b : Bool} (hg : h.get id = some (.arr (row encI l) b)) : Frz h (.sl (some (id, 0)) l.length none 1) (lst encI l) :=
  .sl _ _ _ _ _ _ _ _ _ _ hg (by rw [List.drop_zero]; exact takeX_len (by rw [rowI_len]; omega)) (fun x hx => by cases hx) (by omega) (rowI_frz _ _)

theorem tick_con (s : Side) (hl : s.ages.length < 2 ^ 30) : PCon Try.Y 20 [.agg (sideC s)] (· = .agg (sideC (tickS s))) := by
  refine pcon_of Try.Yok (fn := Try.f20) (by kernel_rfl) (by kernel_rfl) rfl ?_
  refine pre_rule Try.Yok (n := 34) (loc := Try.Y.loc 20) 100 [1, 2, 10, 11] (by kernel_rfl) ?_
  refine Eq.mpr (f20_0 s.on s.shut s.eof s.place s.clock s.typed (row encT s.lines) s.lines.length s.fly (row encI s.ages) s.ages.length s.ready s.buffer .empty _) ?_
  by_cases h0 : s.ages = []
  · refine .inr ⟨[], 0, some 0, by rw [h0]; exact clone54e none, rfl, ?_⟩
    refine loop2 [1, 2, 10, 11] [1, 2, 10, 11] rfl (by kernel_rfl) (fun m vs _ => vs = [.lb (sideL s (lst encT s.lines) (.ts [] 0 (some 0))), .lb side0, .i .i64 0, .i .i64 0] ∧ m = 0) 0 mk_len ⟨rfl, rfl⟩ ?_
    rintro m vs h ⟨rfl, rfl⟩
    refine all_rule Try.Yok (loc := Try.Y.loc 20) 100 [1, 2, 10, 11] ?_
    refine Eq.mpr (f20e_1 s.on s.shut s.eof s.place s.clock s.typed (row encT s.lines) s.lines.length s.fly s.ready s.buffer h _) ?_
    refine roundW_exit [1, 2] (by kernel_rfl) rfl rfl ?_
    refine end_rule Try.Yok (loc := Try.Y.loc 20) 100 [2] ?_
    refine Eq.mpr (f20e_2 s.on s.shut s.eof s.place s.clock s.typed (row encT s.lines) s.lines.length s.fly s.ready s.buffer h _) ?_
    have hta : (tickS s).ages = [] := by simp [tickS, h0]
    have fin : ∀ x : Int, x = (tickS s).clock → Fin Try.Y Try.f20 [2] (fun v h => ∃ r, Frz h v r ∧ r = .agg (sideC (tickS s))) .ret 34 [.lb (sideL { s with clock := x } (lst encT s.lines) (.ts [] 0 (some 0)))] h := by
      rintro x rfl
      refine finV1 (.inr rfl) rfl (frz_sideL (frz_ts _ _ _ _) (frz_ts _ _ _ _)) ?_
      show V.agg (sideL _ (lst encT s.lines) (.ts [] 0 none)) = .agg (sideL _ (lst encT s.lines) (lst encI (tickS s).ages))
      rw [hta]; rfl
    exact if_mk (fun h1 => if_mk (fun h2 => fin (IntKind.i64.wrap (s.clock + 1)) (by simp [tickS, h1] at h2 ⊢; simp [h2])) (fun h2 => fin s.clock (by simp [tickS, h1] at h2 ⊢; simp [h2]))) (fun h1 => fin s.clock (by simp [tickS, h1]))
  · refine .inl ((clone54n s.ages none .empty h0 hl).mono fun v h' ⟨e1, e2⟩ => ⟨_, _, _, _, e1, rfl, ?_⟩)
    refine loop2 [1, 2, 10, 11] [1, 2, 10, 11] rfl (by kernel_rfl) (TickI s) s.ages.length mk_len ⟨_, 0, rfl, by omega, by rw [e2]; simp [rowI], by omega⟩ ?_
    rintro m vs h ⟨id, i, rfl, hi, hg, rfl⟩
    refine all_rule Try.Yok (loc := Try.Y.loc 20) 100 [1, 2, 10, 11] ?_
    refine Eq.mpr (f20_1 s.on s.shut s.eof s.place s.clock s.typed (row encT s.lines) s.lines.length s.fly s.ready s.buffer (s.ages.length : Nat) id s.ages.length (i : Nat) h _) ?_
    refine if_lt_nat (fun hlt => ?_) (fun hge => ?_)
    · have hlen : ((s.ages.take i).map bump).length = i := by simp; omega
      have hdr : s.ages.drop i = s.ages[i] :: s.ages.drop (i + 1) := List.drop_eq_getElem_cons hlt
      refine ⟨bnd_nat hlt, rfl, s.ages[i], ?_, bnd_nat hlt, rfl, h.set id (some (.arr (splice (((s.ages.take i).map bump ++ s.ages.drop i).map (V.i .i64)) i [.i .i64 (bump s.ages[i])]) true)), ?_, rfl, s.ages.length - (i + 1), by omega, id, i + 1, ?_, by omega, ?_, rfl⟩
      · simp only [hcells, hg]
        rw [Int.toNat_natCast, show 0 + i * 1 = i by omega, ← List.map_drop, List.drop_append_of_le_length (by omega), List.drop_of_length_le (by omega), List.nil_append, hdr]
        rfl
      · simp only [hstore, hg]
        rw [Int.toNat_natCast, show 0 + i * 1 = i by omega, if_pos (by simp; omega)]
        rfl
      · rw [wrap_succ (by omega)]; rfl
      · rw [Heap.get_set, if_pos rfl]
        have := splice_map ((s.ages.take i).map bump) (s.ages.drop (i + 1)) s.ages[i] (bump s.ages[i])
        rw [hlen] at this
        rw [hdr]
        refine congrArg (fun x => some (YObj.arr x true)) (this.trans ?_)
        rw [List.take_succ_eq_append_getElem hlt]; simp only [List.map_append, List.map_cons, List.map_nil, List.append_assoc, List.cons_append, List.nil_append]
    · refine roundW_exit [1, 2] (by kernel_rfl) rfl rfl ?_
      refine end_rule Try.Yok (loc := Try.Y.loc 20) 100 [2] ?_
      refine Eq.mpr (f20_2 s.on s.shut s.eof s.place s.clock s.typed (row encT s.lines) s.lines.length s.fly s.ready s.buffer id s.ages.length h _) ?_
      have hi' : i = s.ages.length := by omega
      subst hi'
      have hg2 : h.get id = some (.arr (row encI (tickS s).ages) true) := by
        rw [hg, rowI]; simp [tickS]
      have hta : (tickS s).ages.length = s.ages.length := by simp [tickS]
      have fin : ∀ x : Int, x = (tickS s).clock → Fin Try.Y Try.f20 [2] (fun v h => ∃ r, Frz h v r ∧ r = .agg (sideC (tickS s))) .ret 34 [.lb (sideL { s with clock := x } (lst encT s.lines) (.sl (some (id, 0)) s.ages.length none 1))] h := by
        rintro x rfl
        rw [← hta]
        exact finV1 (.inr rfl) rfl (frz_sideL (frz_ts _ _ _ _) (frz_obj hg2)) rfl
      exact if_mk (fun h1 => if_mk (fun h2 => fin (IntKind.i64.wrap (s.clock + 1)) (by simp [tickS, h1] at h2 ⊢; simp [h2])) (fun h2 => fin s.clock (by simp [tickS, h1] at h2 ⊢; simp [h2]))) (fun h1 => fin s.clock (by simp [tickS, h1]))
end Go.Y
