/- ere.set, ere.sign, ere.text: by contracts. -/
import Derived.Test.YteennilbmmlikaaGreatDoorGSpanE
import Derived.Test.YteennilbmmlikaaGreatDoorNJ4
import Derived.Test.YteennilbmmlikaaGreatDoorGGlush6
import Derived.Test.YteennilbmmlikaaGreatDoorGN4
namespace Go.Y
open Go.Proofs
set_option maxRecDepth 100000
set_option maxHeartbeats 1000000

def signS (x y : Int) : List UInt8 :=
  if x == 0 && y == -1 then [42] else if x == 1 && y == -1 then [43] else if x == 0 && y == 1 then [63] else if x == y then [123] ++ itoaS x.toNat ++ [125]
  else if y == -1 then [123] ++ itoaS x.toNat ++ [44, 125] else [123] ++ itoaS x.toNat ++ [44] ++ itoaS y.toNat ++ [125]
theorem signS_len (x y : Int) : (signS x y).length ≤ 5 := by
  unfold signS; repeat' split
  all_goals simp [itoaS]
theorem sign_con {x y : Int} (hx : 0 ≤ x ∧ x ≤ 8) (hy : y = -1 ∨ (x ≤ y ∧ y ≤ 8)) : PCon Tryz.Y 148 [.i .i64 x, .i .i64 y] (· = .s (signS x y)) := by
  have cx : PCon Tryz.Y 178 [.i .i64 x] (· = .s (itoaS x.toNat)) := by
    have := itoa_con x.toNat (by omega)
    rwa [Int.toNat_of_nonneg hx.1] at this
  have cy : (y == -1) = false → PCon Tryz.Y 178 [.i .i64 y] (· = .s (itoaS y.toNat)) := fun e => by
    have e : y ≠ -1 := by simpa using e
    have := itoa_con y.toNat (by omega)
    rwa [Int.toNat_of_nonneg (by omega)] at this
  refine tree_con Tryz.Yok (fn := Tryz.f148) (by kernel_rfl) (by kernel_rfl) rfl (fun K => f148_0 x y .empty K) rfl ?_
  unfold signS
  generalize (x == 0) = b0
  generalize (y == -1) = b1 at cy ⊢
  generalize (x == 1) = b2
  generalize (y == 1) = b3
  generalize (x == y) = b4
  cases b0 <;> cases b1 <;> cases b2 <;> cases b3 <;> cases b4 <;> first
    | exact finV1 (n := 49) (.inr rfl) rfl (.s _) rfl
    | exact ⟨_, cx, (by simp [itoaS]), (by simp [itoaS]), finV1 (n := 49) (.inr rfl) rfl (.s _) rfl⟩
    | exact ⟨_, cx, (by simp [itoaS]), (by simp [itoaS]), _, cy rfl, (by simp [itoaS]), (by simp [itoaS]), finV1 (n := 49) (.inr rfl) rfl (.s _) rfl⟩

abbrev endsB : List UInt8 := [93, 45, 92, 94]
abbrev specB : List UInt8 := [92, 124, 40, 41, 42, 43, 63, 123, 46, 91, 94, 36]
def pieceT (p : UInt8 × UInt8) : List UInt8 := if (((p.2.toNat : Nat) : Int) != ((p.1.toNat : Nat) : Int)) = true then toldS p.1 endsB ++ ([45] ++ toldS p.2 endsB) else toldS p.1 endsB
def setT (x : Set4) : List UInt8 :=
  match spansF (hasN x) with
  | [] => [91, 94, 0, 45, 255, 93]
  | p :: l => if (x.1 == maxU && (x.2.1 == maxU && (x.2.2.1 == maxU && (x.2.2.2 == maxU && true)))) = true then [46]
    else if l = [] ∧ (((p.1.toNat : Nat) : Int) == ((p.2.toNat : Nat) : Int)) = true then toldS p.1 specB else [91] ++ (p :: l).flatMap pieceT ++ [93]
theorem pieceT_len (p : UInt8 × UInt8) : (pieceT p).length ≤ 5 := by
  have h1 := toldS_len p.1 endsB
  have h2 := toldS_len p.2 endsB
  unfold pieceT; split
  · simp; omega
  · omega
theorem pieces_len : ∀ l : List (UInt8 × UInt8), (l.flatMap pieceT).length ≤ 5 * l.length
  | [] => by simp
  | p :: l => by
    have := pieces_len l
    have h1 := pieceT_len p
    simp only [List.flatMap_cons, List.length_append, List.length_cons]; omega
theorem goF_len (p : Nat → Bool) : ∀ (f c : Nat) (out : List (UInt8 × UInt8)), (goF p f c out).length ≤ out.length + f
  | 0, _, _ => Nat.le_refl _
  | f + 1, c, out => by
    rw [goF]
    split
    · refine Nat.le_trans (goF_len p f _ _) ?_
      split
      · simp; omega
      · omega
    · omega
theorem spansF_len (p : Nat → Bool) : (spansF p).length ≤ 257 := by have := goF_len p 257 0 []; simpa [spansF] using this
theorem setT_len (x : Set4) : (setT x).length ≤ 1300 := by
  have h := spansF_len (hasN x)
  unfold setT
  generalize spansF (hasN x) = l at h
  cases l with
  | nil => simp
  | cons p l =>
    simp only
    split
    · simp
    · split
      · have := toldS_len p.1 specB; omega
      · have := pieces_len (p :: l)
        simp only [List.length_append, List.length_cons, List.length_nil] at this h ⊢; omega
theorem getP (l : List (UInt8 × UInt8)) {i : Nat} (h : i < l.length) : takeX 2 (List.drop (((i : Nat) : Int).toNat * 2) (row encP l)) = some [.i .u8 (l[i].1.toNat : Nat), .i .u8 (l[i].2.toNat : Nat)] := by
  rw [Int.toNat_natCast]; exact row_get (f := encP) (k := 2) encP_len h

theorem setE_con (x : Set4) : PCon Tryz.Y 147 [.agg (setC x)] (· = .s (setT x)) := by
  have hlen := spansF_len (hasN x)
  have hsp := spansE_con x
  refine pcon_of Tryz.Yok (fn := Tryz.f147) (by kernel_rfl) (by kernel_rfl) rfl ?_
  refine pre_tree Tryz.Yok 63 (fun K => f147_0 x.1 x.2.1 x.2.2.1 x.2.2.2 .empty K) rfl (by kernel_rfl) ?_
  unfold setT
  generalize hL : spansF (hasN x) = L at hsp hlen
  refine ⟨_, _, _, hsp, ?_⟩
  cases L with
  | nil => exact if_mk (fun _ => fin_at (.inr rfl) rfl ⟨_, .s _, rfl⟩) (fun g => by simp at g)
  | cons p l =>
    refine if_mk (fun g => by simp at g; omega) (fun _ => ?_)
    refine ⟨_, _, _, _, not_con, ?_⟩
    simp only
    generalize (x.1 == maxU && (x.2.1 == maxU && (x.2.2.1 == maxU && (x.2.2.2 == maxU && true)))) = bz
    refine if_mk (fun hz => ?_) (fun hz => ?_)
    · rw [if_pos hz]
      exact fin_at (.inr rfl) rfl ⟨_, .s _, rfl⟩
    rw [if_neg (by simp [hz])]
    have go : ¬ (l = [] ∧ (((p.1.toNat : Nat) : Int) == ((p.2.toNat : Nat) : Int)) = true) → PreV Tryz.Y 63 [2, 4, 38, 39, 40] (post (flat (bodyOf Tryz.f147))) (FinS Tryz.Y Tryz.f147 fun v h => ∃ r, Frz h v r ∧ r = .s (if l = [] ∧ (((p.1.toNat : Nat) : Int) == ((p.2.toNat : Nat) : Int)) = true then toldS p.1 specB else [91] ++ (p :: l).flatMap pieceT ++ [93])) .normal 63 [.s [], .s [91], lst encP (p :: l), .i .i64 ((p :: l).length : Nat), .i .i64 0] .empty := by
      intro g
      rw [if_neg g]
      clear g hL hsp
      generalize p :: l = L at hlen
      refine ⟨rfl, loop2 [4, 38, 39, 40] [4, 38, 39, 40] rfl (by kernel_rfl) (fun m vs h => ∃ i : Nat, vs = [.s ([91] ++ (L.take i).flatMap pieceT), lst encP L, .i .i64 (L.length : Nat), .i .i64 (i : Nat)] ∧ i ≤ L.length ∧ m = L.length - i) L.length mk_len ⟨0, rfl, by omega, by omega⟩ ?_⟩
      rintro m vs h ⟨i, rfl, hi, rfl⟩
      refine all_tree Tryz.Yok (fun K => f147_1 ([91] ++ (L.take i).flatMap pieceT) none (row encP L) L.length (L.length : Nat) (i : Nat) h K) rfl ?_
      have hp := pieces_len (L.take i)
      rw [List.length_take] at hp
      refine if_lt_nat (fun hlt => ?_) (fun hge => ?_)
      · have hsn : (L.take (i + 1)).flatMap pieceT = (L.take i).flatMap pieceT ++ pieceT L[i] := by rw [List.take_succ_eq_append_getElem hlt, List.flatMap_append]; simp
        have t1 := toldS_len L[i].1 endsB
        have t2 := toldS_len L[i].2 endsB
        refine ⟨bnd_nat hlt, _, _, getP L hlt, _, told_con L[i].1 endsB, by simp only [List.length_append, List.length_cons, List.length_nil]; omega, if_mk (fun g => ?_) (fun g => ?_)⟩
        · refine ⟨_, told_con L[i].2 endsB, ?_, ?_, rfl, L.length - (i + 1), by omega, i + 1, ?_, by omega, rfl⟩
          · show 1 + (toldS L[i].2 endsB).length ≤ _; omega
          · simp only [List.length_append, List.length_cons, List.length_nil]; omega
          · rw [wrap_succ (by omega), hsn, pieceT, if_pos g]
            exact congrArg (fun t => [V.s t, lst encP L, V.i .i64 (L.length : Nat), V.i .i64 ((i + 1 : Nat))]) (by simp)
        · refine ⟨rfl, L.length - (i + 1), by omega, i + 1, ?_, by omega, rfl⟩
          rw [wrap_succ (by omega), hsn, pieceT, if_neg (by rw [g]; simp)]
          exact congrArg (fun t => [V.s t, lst encP L, V.i .i64 (L.length : Nat), V.i .i64 ((i + 1 : Nat))]) (by simp)
      · refine roundW_exit [4] (by kernel_rfl) rfl rfl ?_
        refine end_tree Tryz.Yok (fun K => f147_2 ([91] ++ (L.take i).flatMap pieceT) h K) rfl ?_
        refine ⟨by simp only [List.length_append, List.length_cons, List.length_nil]; omega, ?_⟩
        rw [List.take_of_length_le hge]
        exact finV1 (.inr rfl) rfl (.s _) rfl
    refine if_mk (fun g1 => ?_) (fun g1 => ?_)
    · have hl : l = [] := by
        cases l with
        | nil => rfl
        | cons a l => simp at g1; omega
      subst hl
      have hb : (0 : Int) ≤ 0 ∧ (0 : Int) < (([p].length : Nat) : Int) := ⟨Int.le_refl _, by simp⟩
      refine ⟨hb, _, rfl, hb, _, rfl, if_mk (fun g2 => ?_) (fun g2 => ?_)⟩
      · rw [if_pos ⟨rfl, g2⟩]
        exact ⟨hb, _, rfl, _, told_con p.1 specB, fin_at (.inr rfl) rfl ⟨_, .s _, rfl⟩⟩
      · exact go (fun e => by rw [g2] at e; cases e.2)
    · refine go (fun e => ?_)
      rw [e.1] at g1
      simp at g1
end Go.Y

/- How many parts an expression has that is read from a text: plain. -/
namespace Go.Y
open Gl

def cntN : Re → Nat
  | .mk _ _ kids _ _ _ => 1 + cntsN kids
where
  cntsN : List Re → Nat
    | [] => 0
    | r :: l => cntN r + cntsN l
theorem cnts_append : ∀ l m : List Re, cntN.cntsN (l ++ m) = cntN.cntsN l + cntN.cntsN m
  | [], m => by rw [List.nil_append, cntN.cntsN]; omega
  | r :: l, m => by rw [List.cons_append, cntN.cntsN, cntN.cntsN, cnts_append l m]; omega
theorem cnt_sev (k : Int) : ∀ l : List Re, cntN (sevS k l) ≤ cntN.cntsN l + 1
  | [] => by rw [sevS, cntN, cntN.cntsN]; omega
  | [r] => by rw [sevS, cntN.cntsN]; omega
  | a :: b :: l => by
    rw [sevS, cntN]
    · omega
    all_goals simp
theorem cnt_one {k : Int} {s : S4} {r : Re} {lo hi n : Int} : cntN (.mk k s [r] lo hi n) = 1 + cntN r := by rw [cntN, cntN.cntsN, cntN.cntsN]; omega
theorem cnt_leaf {k : Int} {s : S4} : cntN (.mk k s [] 0 0 0) = 1 := by rw [cntN, cntN.cntsN]
theorem cnt_set (x : S4) : cntN (setRe x) = 1 := cnt_leaf
theorem cnt_single (r : Re) : cntN.cntsN [r] = cntN r := by rw [cntN.cntsN, cntN.cntsN]; omega

theorem cnt_all (s : List UInt8) : ∀ n,
    (∀ {d i g r j g'}, altE n d s i g = .ok (r, j, g') → i ≤ s.length → g ≤ i → cntN r + 3 * i ≤ 3 * j + 2) ∧
    (∀ {d i g l r j g'}, altsE n d s i g l = .ok (r, j, g') → i ≤ s.length → g ≤ i → cntN r + 3 * i ≤ cntN.cntsN l + 1 + 3 * j) ∧
    (∀ {d i g l r j g'}, rowE n d s i g l = .ok (r, j, g') → i ≤ s.length → g ≤ i → cntN r + 3 * i ≤ cntN.cntsN l + 1 + 3 * j) ∧
    (∀ {d i g r j g'}, pieceE n d s i g = .ok (r, j, g') → i ≤ s.length → g ≤ i → cntN r + 3 * i + 2 ≤ 3 * j) ∧
    (∀ {d i g r j g'}, atomE n d s i g = .ok (r, j, g') → i ≤ s.length → g ≤ i → cntN r + 3 * i + 2 ≤ 3 * j)
  | 0 => ⟨fun h => by simp [altE] at h, fun h => by simp [altsE] at h, fun h => by simp [rowE] at h, fun h => by simp [pieceE] at h, fun h => by simp [atomE] at h⟩
  | n + 1 => by
    obtain ⟨w1, w2, w3, w4, w5⟩ := cnt_all s n
    obtain ⟨p1, p2, p3, p4, p5⟩ := prog_all s n
    have p6 := @(prog_all s (n + 1)).2.2.2.2
    have p7 := @(prog_all s (n + 1)).2.2.2.1
    refine ⟨fun {d i g r j g'} h hi hg => ?_, fun {d i g l r j g'} h hi hg => ?_, fun {d i g l r j g'} h hi hg => ?_, fun {d i g r j g'} h hi hg => ?_, fun {d i g r j g'} h hi hg => ?_⟩
    · rw [altE] at h
      split at h
      · cases h
      · rename_i r1 i1 g1 h1
        have a1 := p3 h1 hi hg
        have b1 := w3 h1 hi hg
        have b2 := w2 h a1.2.1 a1.2.2
        rw [cnt_single] at b2
        rw [cntN.cntsN] at b1
        omega
    · rw [altsE] at h
      split at h
      · rename_i h0
        have hlt := (List.getElem?_eq_some_iff.1 h0).1
        split at h
        · cases h
        · rename_i r1 i1 g1 h1
          have a1 := p3 h1 (by omega) (by omega)
          have b1 := w3 h1 (by omega) (by omega)
          have b2 := w2 h a1.2.1 a1.2.2
          rw [cnts_append, cnt_single] at b2
          rw [cntN.cntsN] at b1
          omega
      · cases h; have := cnt_sev 5 l; omega
    · rw [rowE] at h
      split at h
      · cases h; have := cnt_sev 4 l; omega
      · split at h
        · cases h; have := cnt_sev 4 l; omega
        · split at h
          · cases h
          · rename_i r1 i1 g1 h1
            have a1 := p4 h1 hi hg
            have b1 := w4 h1 hi hg
            have b2 := w3 h a1.2.1 a1.2.2
            rw [cnts_append, cnt_single] at b2
            omega
    · have q := p7 h hi hg
      rw [pieceE] at h
      split at h
      · cases h
      · rename_i r1 i1 g1 h1
        have a1 := p5 h1 hi hg
        have b1 := w5 h1 hi hg
        split at h
        · cases h; omega
        · split at h
          · split at h
            · cases h
            · split at h
              · cases h; rw [cnt_one]; omega
              · split at h
                · cases h; rw [cnt_one]; omega
                · split at h
                  · cases h; rw [cnt_one]; omega
                  · split at h
                    · cases h
                    · rename_i lo hi2 j2 h2
                      have := braces_le h2
                      cases h; rw [cnt_one]; omega
          · cases h; omega
    · have q := p6 h hi hg
      rw [atomE] at h
      split at h
      · cases h
      · rename_i c hc
        have hl := (List.getElem?_eq_some_iff.1 hc).1
        split at h
        · cases h
        · split at h
          · split at h
            · cases h
            · split at h
              · cases h
              · rename_i r1 i1 g1 h1
                have b1 := w1 h1 (by omega) (by omega)
                split at h
                · cases h; rw [cnt_one]; omega
                · cases h
          · split at h
            · split at h
              · cases h
              · cases h; first | (rw [cnt_leaf]; omega) | (rw [cnt_set]; omega)
            · split at h
              · cases h; first | (rw [cnt_leaf]; omega) | (rw [cnt_set]; omega)
              · split at h
                · cases h; first | (rw [cnt_leaf]; omega) | (rw [cnt_set]; omega)
                · split at h
                  · cases h; first | (rw [cnt_leaf]; omega) | (rw [cnt_set]; omega)
                  · split at h
                    · split at h
                      · cases h
                      · cases h; first | (rw [cnt_leaf]; omega) | (rw [cnt_set]; omega)
                    · cases h; first | (rw [cnt_leaf]; omega) | (rw [cnt_set]; omega)
theorem parse_cnt {s : List UInt8} {r : Re} (h : parseE s = .ok r) : cntN r ≤ 1000 := by
  unfold parseE at h
  split at h
  · cases h
  · split at h
    · cases h
    · rename_i r1 i1 g1 h1
      split at h
      · cases h
      · cases h
        have := (cnt_all s _).1 h1 (Nat.zero_le _) (Nat.zero_le _)
        have := (prog_all s _).1 h1 (Nat.zero_le _) (Nat.zero_le _)
        omega
end Go.Y

/- ere.text: by a contract over a Builder. -/
namespace Go.Y
open Go.Proofs
set_option maxRecDepth 100000
set_option maxHeartbeats 1000000

def preT (k : Int) (s : S4) : List UInt8 := if (k == 1) = true then setT s else if (k == 2) = true then [94] else if (k == 3) = true then [36] else if (k == 7) = true then [40] else []
def postT (k lo hi : Int) : List UInt8 := if (k == 6) = true then signS lo hi else if (k == 7) = true then [41] else []
def textF : Re → List UInt8
  | .mk k s kids lo hi _ => preT k s ++ textsF k false kids ++ postT k lo hi
where
  textsF (k : Int) : Bool → List Re → List UInt8
    | _, [] => []
    | b, r :: l => (if b = true ∧ (k == 5) = true then [124] else []) ++ textF r ++ textsF k true l
theorem preT_len (k : Int) (s : S4) : (preT k s).length ≤ 1300 := by
  have := setT_len s
  unfold preT; repeat' split
  all_goals first | assumption | simp
theorem postT_len (k lo hi : Int) : (postT k lo hi).length ≤ 5 := by
  have := signS_len lo hi
  unfold postT; repeat' split
  all_goals first | assumption | simp
mutual
theorem textF_len : ∀ r : Re, (textF r).length + 1 ≤ 1400 * cntN r
  | .mk k s kids lo hi n => by
    rw [textF, cntN]
    have h1 := preT_len k s
    have h2 := postT_len k lo hi
    have h3 := textsF_len k false kids
    simp only [List.length_append]; omega
theorem textsF_len (k : Int) : ∀ (b : Bool) (l : List Re), (textF.textsF k b l).length ≤ 1400 * cntN.cntsN l
  | _, [] => by rw [textF.textsF]; simp
  | b, r :: l => by
    rw [textF.textsF, cntN.cntsN]
    have h1 := textF_len r
    have h2 := textsF_len k true l
    have h3 : (if b = true ∧ (k == 5) = true then ([124] : List UInt8) else []).length ≤ 1 := by split <;> simp
    simp only [List.length_append]; omega
end

structure TX (r : Re) : Prop where
  c : ∀ (h : Heap) (id : Nat) (bs : List UInt8), Bd h id bs → bs.length + (textF r).length < 2 ^ 28 → Con Tryz.Y 114 [.p (some (id, 0)), .agg (encRe r)] h fun v h' => v = .tup [] ∧ Bd h' id (bs ++ textF r)

theorem wbyte' {h : Heap} {id : Nat} {bs : List UInt8} (b : Bd h id bs) (n : Int) (c : UInt8) (hn : n = (c.toNat : Nat)) (hl : bs.length < 2 ^ 29) : Con Tryz.Y 126 [.p (some (id, 0)), .i .u8 n] h fun v h' => v = .nilifc ∧ Bd h' id (bs ++ [c]) := by
  subst hn; exact wbyte_con b c hl

theorem textsF_app (k : Int) : ∀ (b : Bool) (l m : List Re), l ≠ [] → textF.textsF k b (l ++ m) = textF.textsF k b l ++ textF.textsF k true m
  | _, [], _, h => absurd rfl h
  | b, [r], m, _ => by rw [List.cons_append, List.nil_append, textF.textsF, textF.textsF, textF.textsF, List.append_nil]
  | b, r :: r2 :: l, m, _ => by
    rw [List.cons_append, textF.textsF, textsF_app k true (r2 :: l) m (by simp), textF.textsF.eq_2 k b r (r2 :: l)]
    simp only [List.append_assoc]
theorem textsF_snoc (k : Int) (l : List Re) {i : Nat} (hi : i < l.length) : textF.textsF k false (l.take (i + 1)) = textF.textsF k false (l.take i) ++ ((if 0 < i ∧ (k == 5) = true then [124] else []) ++ textF l[i]) := by
  rw [List.take_succ_eq_append_getElem hi]
  by_cases h0 : i = 0
  · subst h0
    rw [List.take_zero, List.nil_append, textF.textsF, textF.textsF, textF.textsF, if_neg (by simp), if_neg (by simp)]
    simp
  · rw [textsF_app k false _ _ (fun e => by have h1 : (l.take i).length = i := (by rw [List.length_take]; omega); rw [e] at h1; simp at h1; omega), textF.textsF, textF.textsF]
    by_cases h5 : (k == 5) = true
    · rw [if_pos ⟨rfl, h5⟩, if_pos ⟨by omega, h5⟩, List.append_nil]
    · rw [if_neg (fun e => h5 e.2), if_neg (fun e => h5 e.2), List.append_nil]
theorem textsF_pre (k : Int) (l : List Re) (i : Nat) : (textF.textsF k false (l.take i)).length ≤ (textF.textsF k false l).length := by
  by_cases h : l.take i = []
  · rw [h, textF.textsF]; simp
  · have := textsF_app k false (l.take i) (l.drop i) h
    rw [List.take_append_drop] at this
    rw [this]; simp

abbrev reL (k : Int) (s : S4) (kids : List Re) (lo hi n : Int) : List V := [.i .i64 k, .i .u64 s.1, .i .u64 s.2.1, .i .u64 s.2.2.1, .i .u64 s.2.2.2, lst encRe kids, .i .i64 lo, .i .i64 hi, .i .i64 n]
theorem text_one {B : Nat} (hB : B < 2 ^ 20) {k : Int} {s : S4} {kids : List Re} {lo hi n : Int} (hl : kids.length ≤ B) (h6 : k = 6 → 0 ≤ lo ∧ lo ≤ 8 ∧ (hi = -1 ∨ (lo ≤ hi ∧ hi ≤ 8))) (ih : ∀ x ∈ kids, TX x) : TX (.mk k s kids lo hi n) := by
  refine ⟨fun h id bs hb hlen => ?_⟩
  rw [textF] at hlen ⊢
  have hpl := preT_len k s
  have hql := postT_len k lo hi
  simp only [List.length_append] at hlen
  rw [encRe_mk]
  refine conz_of Tryz.Yok (fn := Tryz.f114) (by kernel_rfl) (by kernel_rfl) (pre_tree Tryz.Yok 63 (fun K => f114_0 id k s.1 s.2.1 s.2.2.1 s.2.2.2 (row encRe kids) kids.length lo hi n h K) rfl (by kernel_rfl) ?_)
  have go : ∀ {g : Heap}, Bd g id (bs ++ preT k s) → PreV Tryz.Y 63 [0, 2, 3, 28, 29, 30] (post (flat (bodyOf Tryz.f114))) (FinS Tryz.Y Tryz.f114 (AfterZ fun v h' => v = .tup [] ∧ Bd h' id (bs ++ (preT k s ++ textF.textsF k false kids ++ postT k lo hi)))) .normal 63 [.p (some (id, 0)), .undef, .lb (reL k s kids lo hi n), lst encRe kids, .i .i64 (kids.length : Nat), .i .i64 0] g := by
    intro g hg
    refine ⟨rfl, loop2 [0, 2, 3, 28, 29, 30] [0, 2, 3, 28, 29, 30] rfl (by kernel_rfl) (fun m vs g => ∃ i : Nat, vs = [.p (some (id, 0)), .undef, .lb (reL k s kids lo hi n), lst encRe kids, .i .i64 (kids.length : Nat), .i .i64 (i : Nat)] ∧ i ≤ kids.length ∧ m = kids.length - i ∧ Bd g id (bs ++ preT k s ++ textF.textsF k false (kids.take i))) kids.length mk_len ⟨0, rfl, by omega, by omega, by rw [List.take_zero, textF.textsF, List.append_nil]; exact hg⟩ ?_⟩
    rintro m vs g ⟨i, rfl, hii, rfl, hbd⟩
    refine all_tree Tryz.Yok (fun K => f114_1 id k s.1 s.2.1 s.2.2.1 s.2.2.2 (row encRe kids) kids.length lo hi n (i : Nat) g K) rfl ?_
    refine if_lt_nat (fun hlt => ?_) (fun hge => ?_)
    · have hc := (ih kids[i] (List.getElem_mem hlt)).c
      have hrow := re_row' hlt
      have hsn := textsF_snoc k kids hlt
      have hpre := textsF_pre k kids (i + 1)
      have hpre0 := textsF_pre k kids i
      rw [hsn] at hpre
      simp only [List.length_append] at hpre
      have next : ∀ {g2 : Heap} {sep : List UInt8}, sep = (if 0 < i ∧ (k == 5) = true then [124] else []) → Bd g2 id (bs ++ preT k s ++ textF.textsF k false (kids.take i) ++ sep ++ textF kids[i]) → Bd g2 id (bs ++ preT k s ++ textF.textsF k false (kids.take (i + 1))) := fun hs hb2 => by
        rw [hsn, ← hs]
        simpa only [List.append_assoc] using hb2
      generalize kids[i] = x at hc hrow hpre next
      obtain ⟨xk, xs, xl, xlo, xhi, xn⟩ := x
      rw [encRe_mk] at hrow
      simp only [encRe_mk] at hc
      refine ⟨bnd_nat hlt, _, _, _, _, _, _, _, _, _, _, _, hrow, ?_⟩
      refine if_mk (fun g1 => if_mk (fun g5 => ?_) (fun g5 => ?_)) (fun g1 => ?_)
      · have h0 : 0 < i := by simpa [ltI] using g1
        have hs : ([124] : List UInt8) = (if 0 < i ∧ (k == 5) = true then [124] else []) := by rw [if_pos ⟨h0, g5⟩]
        refine (wbyte' hbd 124 124 rfl (by simp only [List.length_append]; omega)).mono fun v g2 ⟨e1, b2⟩ => .inl ⟨e1, ?_⟩
        refine (hc g2 id _ b2 (by rw [← hs] at hpre; simp only [List.length_append, List.length_cons, List.length_nil] at hpre ⊢; omega)).mono fun v g3 ⟨e3, b3⟩ => ⟨e3, ?_⟩
        exact ⟨rfl, kids.length - (i + 1), by omega, i + 1, by rw [wrap_succ (by omega)]; rfl, by omega, rfl, next hs b3⟩
      · have hs : ([] : List UInt8) = (if 0 < i ∧ (k == 5) = true then [124] else []) := by rw [if_neg (by rw [g5]; simp)]
        refine (hc g id _ hbd (by simp only [List.length_append]; omega)).mono fun v g3 ⟨e3, b3⟩ => ⟨e3, ?_⟩
        exact ⟨rfl, kids.length - (i + 1), by omega, i + 1, by rw [wrap_succ (by omega)]; rfl, by omega, rfl, next hs (by rw [List.append_nil]; exact b3)⟩
      · have h0 : ¬ 0 < i := by simpa [ltI] using g1
        have hs : ([] : List UInt8) = (if 0 < i ∧ (k == 5) = true then [124] else []) := by rw [if_neg (fun e => h0 e.1)]
        refine (hc g id _ hbd (by simp only [List.length_append]; omega)).mono fun v g3 ⟨e3, b3⟩ => ⟨e3, ?_⟩
        exact ⟨rfl, kids.length - (i + 1), by omega, i + 1, by rw [wrap_succ (by omega)]; rfl, by omega, rfl, next hs (by rw [List.append_nil]; exact b3)⟩
    · have he : i = kids.length := by omega
      subst he
      rw [List.take_length] at hbd
      refine roundW_exit [0, 3] (by kernel_rfl) rfl rfl ?_
      refine end_tree Tryz.Yok (fun K => f114_2 id k s.1 s.2.1 s.2.2.1 s.2.2.2 (row encRe kids) kids.length lo hi n g K) rfl ?_
      have fin : ∀ {g2 : Heap} {t : List UInt8}, postT k lo hi = t → Bd g2 id (bs ++ preT k s ++ textF.textsF k false kids ++ t) → Fin Tryz.Y Tryz.f114 [] (AfterZ fun v h' => v = .tup [] ∧ Bd h' id (bs ++ (preT k s ++ textF.textsF k false kids ++ postT k lo hi))) .normal 63 [] g2 := fun ht hb2 => finC (.inl rfl) rfl (.now ⟨rfl, by rw [ht]; simpa only [List.append_assoc] using hb2⟩)
      refine if_mk (fun g6 => ?_) (fun g6 => if_mk (fun g7 => ?_) (fun g7 => ?_))
      · have e6 := h6 (by simpa using g6)
        refine ⟨_, sign_con ⟨e6.1, e6.2.1⟩ e6.2.2, (wstr_con hbd _ (by have := signS_len lo hi; simp only [List.length_append]; omega)).mono fun v g2 ⟨e1, b2⟩ => ⟨_, .inl ⟨e1, fin (by rw [postT, if_pos g6]) b2⟩⟩⟩
      · exact (wbyte' hbd 41 41 rfl (by simp only [List.length_append]; omega)).mono fun v g2 ⟨e1, b2⟩ => .inl ⟨e1, fin (by rw [postT, if_neg (by rw [g6]; simp), if_pos g7]) b2⟩
      · exact fin (t := []) (by rw [postT, if_neg (by rw [g6]; simp), if_neg (by rw [g7]; simp)]) (by rw [List.append_nil]; exact hbd)
  refine if_mk (fun g1 => ?_) (fun g1 => if_mk (fun g2 => ?_) (fun g2 => if_mk (fun g3 => ?_) (fun g3 => if_mk (fun g7 => ?_) (fun g7 => ?_))))
  · refine ⟨_, setE_con s, (wstr_con hb _ (by have := setT_len s; omega)).mono fun v g2 ⟨e1, b2⟩ => ⟨_, .inl ⟨e1, go (by rw [preT, if_pos g1]; exact b2)⟩⟩⟩
  · exact (wbyte' hb 94 94 rfl (by omega)).mono fun v g2' ⟨e1, b2⟩ => .inl ⟨e1, go (by rw [preT, if_neg (by rw [g1]; simp), if_pos g2]; exact b2)⟩
  · exact (wbyte' hb 36 36 rfl (by omega)).mono fun v g2' ⟨e1, b2⟩ => .inl ⟨e1, go (by rw [preT, if_neg (by rw [g1]; simp), if_neg (by rw [g2]; simp), if_pos g3]; exact b2)⟩
  · exact (wbyte' hb 40 40 rfl (by omega)).mono fun v g2' ⟨e1, b2⟩ => .inl ⟨e1, go (by rw [preT, if_neg (by rw [g1]; simp), if_neg (by rw [g2]; simp), if_neg (by rw [g3]; simp), if_pos g7]; exact b2)⟩
  · exact go (by rw [preT, if_neg (by rw [g1]; simp), if_neg (by rw [g2]; simp), if_neg (by rw [g3]; simp), if_neg (by rw [g7]; simp), List.append_nil]; exact hb)

mutual
theorem textX {B : Nat} (hB : B < 2 ^ 20) : ∀ r : Re, wfRe B r → TX r
  | .mk k s kids lo hi n, h => by
    rw [wfRe] at h
    exact text_one hB h.2.2.1 (fun e => ⟨(h.1 e).1, (h.1 e).2.1, (h.1 e).2.2.1⟩) (textsX hB kids h.2.2.2)
theorem textsX {B : Nat} (hB : B < 2 ^ 20) : ∀ l : List Re, wfRe.wfRes B l → ∀ x ∈ l, TX x
  | [], _, x, hx => by cases hx
  | r :: l, h, x, hx => by
    rw [wfRe.wfRes] at h
    have h1 := textX hB r h.1
    have h2 := textsX hB l h.2
    rcases List.mem_cons.1 hx with e | hx
    · exact e ▸ h1
    · exact h2 x hx
end
end Go.Y

/- ere.Print, ere.May: by value. -/
namespace Go.Y
open Go.Proofs
set_option maxRecDepth 100000
set_option maxHeartbeats 1000000

theorem len_con {h : Heap} {id : Nat} {bs : List UInt8} (b : Bd h id bs) : RCon Tryz.Y 115 [.p (some (id, 0))] h (.i .i64 (bs.length : Nat)) := by
  obtain ⟨a, s, n, c, k, hg, ha, hL, ht, hz⟩ := b.ex
  have hn := hL.1
  simp at hn
  have hc : hcells h id 1 1 = some [.sl s n c k] := by simp [hcells, hg, takeX]
  have hcon : Con Tryz.Y 115 [.p (some (id, 0))] h fun v h' => v = .i .i64 (bs.length : Nat) ∧ h' = h := by
    refine conz_of Tryz.Yok (fn := Tryz.f115) (by kernel_rfl) (by kernel_rfl) (end_tree Tryz.Yok (fun K => f115_0 id h K) rfl ?_)
    exact ⟨_, _, _, _, hc, finC (.inr rfl) rfl (.now ⟨by rw [← hn]; rfl, rfl⟩)⟩
  exact ⟨h, hcon, fun _ _ => rfl, fun _ hp => hp⟩

def printR (r : Re) : V := if rightF r 0 0 0 = none then .tup [.s [], .i .i64 5] else if 200 < (textF r).length then .tup [.s [], .i .i64 2] else .tup [.s (textF r), .i .i64 0]
def mayE (r : Re) : Bool := (rightF r 0 0 0).isSome && decide ((textF r).length ≤ 200)

set_option linter.unusedVariables false
theorem print_con {B : Nat} (hB : B < 2 ^ 20) {r : Re} (hwf : wfRe B r) (hlen : (textF r).length < 2 ^ 28) : PCon Tryz.Y 69 [.agg (encRe r)] (· = printR r) := by
  have hr := (rightX hB r hwf).c
  have ht := (textX hB r hwf).c
  unfold printR
  generalize rightF r = rf at hr
  generalize textF r = tx at ht hlen
  obtain ⟨k, s, kids, lo, hi, n⟩ := r
  rw [encRe_mk] at hr ht ⊢
  refine tree_con Tryz.Yok (fn := Tryz.f69) (by kernel_rfl) (by kernel_rfl) rfl (fun K => f69_0 k s.1 s.2.1 s.2.2.1 s.2.2.2 (row encRe kids) kids.length lo hi n .empty K) rfl ?_
  have h1 : JH ((Heap.empty).pushT (Tryz.Y.tag 178) (YObj.arr [.i .i64 0] true)) Heap.empty.nx 0 := by rw [JH, Heap.get_pushT, if_pos rfl]
  refine (hr 0 0 0 _ _ h1).mono fun v h' ⟨e1, e2⟩ => ⟨_, e1, if_mk (fun hb => ?_) (fun hb => ?_)⟩
  · have ho : rf 0 0 0 = none := by
      cases h : rf 0 0 0 with
      | none => rfl
      | some y => rw [h] at hb; cases hb
    rw [if_pos ho]
    exact finV2 (.inr rfl) rfl (.s _) (.i _ _) rfl
  · have ho : ¬ rf 0 0 0 = none := fun e => by rw [e] at hb; cases hb
    rw [if_neg ho]
    have htg : Tryz.Y.tag 182 = some 182 := by kernel_rfl
    rw [htg]
    have hbd : Bd (h'.pushT (some 182) (YObj.arr [.p none, .sl none 0 (some 0) 0] true)) h'.nx [] := by
      refine ⟨⟨none, none, 0, some 0, 0, by rw [Heap.get_pushT, if_pos rfl], .inl rfl, ⟨rfl, .inl ⟨rfl, rfl, rfl⟩⟩, (fun j o e => by cases e), fun _ => rfl⟩, ?_, by simp⟩
      show ((h'.push _).tagIf h'.nx (some 182)).tagOf h'.nx = some 182
      rw [tagOf_tagIf]; simp
    refine (ht _ _ _ hbd (by simpa using hlen)).mono fun v h2 ⟨e3, b2⟩ => ⟨e3, ?_⟩
    rw [List.nil_append] at b2
    refine ⟨_, len_con b2, if_mk (fun g => ?_) (fun g => ?_)⟩
    · have g : 200 < tx.length := by simp [ltI] at g; omega
      rw [if_pos g]
      exact finV2 (.inr rfl) rfl (.s _) (.i _ _) rfl
    · have g : ¬ 200 < tx.length := by simp [ltI] at g; omega
      rw [if_neg g]
      refine (bstr_con b2 (by omega)).mono fun v h3 e => ⟨_, e, ?_⟩
      exact finV2 (.inr rfl) rfl (.s _) (.i _ _) rfl

theorem may_con {B : Nat} (hB : B < 2 ^ 20) {r : Re} (hwf : wfRe B r) (hlen : (textF r).length < 2 ^ 28) : PCon Tryz.Y 29 [.agg (encRe r)] (· = .b (mayE r)) := by
  have hp := print_con hB hwf hlen
  unfold printR at hp
  unfold mayE
  generalize rightF r 0 0 0 = o at hp
  generalize textF r = tx at hp
  obtain ⟨k, s, kids, lo, hi, n⟩ := r
  rw [encRe_mk] at hp ⊢
  refine tree_con Tryz.Yok (fn := Tryz.f29) (by kernel_rfl) (by kernel_rfl) rfl (fun K => f29_0 k s.1 s.2.1 s.2.2.1 s.2.2.2 (row encRe kids) kids.length lo hi n .empty K) rfl ?_
  cases o with
  | none => exact ⟨_, _, hp, finV1 (.inr rfl) rfl (.b _) rfl⟩
  | some y =>
    rw [if_neg (by simp)] at hp
    by_cases g : 200 < tx.length
    · rw [if_pos g] at hp
      exact ⟨_, _, hp, finV1 (.inr rfl) rfl (.b _) (by simp; omega)⟩
    · rw [if_neg g] at hp
      exact ⟨_, _, hp, finV1 (.inr rfl) rfl (.b _) (by simp; omega)⟩
end Go.Y

/- Automata: Run, Begin, Step, Ends; the law. -/
namespace Go.Y
open Go.Proofs
set_option maxRecDepth 100000
set_option maxHeartbeats 1000000

theorem foldA_len {a : Au} (h : OkA a) : ∀ (r : List UInt8) (ps : List Int), ps.length ≤ 300 → (r.foldl (fun ps c => stepA a ps c.toNat) ps).length ≤ 300
  | [], _, hp => hp
  | c :: r, ps, _ => foldA_len h r _ (stepA_len h c.toNat ps)
theorem walkA_len {a : Au} (h : OkA a) (c : UInt8) (r : List UInt8) : (walkA a c r).length ≤ 300 :=
  foldA_len h r _ (Nat.le_trans (havL_len _ _ _) h.nfirst)
theorem walkA_snoc (a : Au) (c : UInt8) (r : List UInt8) {j : Nat} (hj : j < r.length) : walkA a c (r.take (j + 1)) = stepA a (walkA a c (r.take j)) r[j].toNat := by
  unfold walkA; rw [List.take_succ_eq_append_getElem hj, List.foldl_append]; rfl
theorem u8lt (c : UInt8) : c.toNat < 256 := c.toNat_lt


theorem run8 (hs : SortSays Tryz.Y.P 75) (hcm : CompactSays Tryz.Y.P 76) {a : Au} (ha : OkA a) (s : List UInt8) (hl : s.length ≤ 20) : PCon Tryz.Y 11 [.agg (auC a), .s s] (· = .b (runA a s)) := by
  refine pcon_of Tryz.Yok (fn := Tryz.f11) (by kernel_rfl) (by kernel_rfl) rfl ?_
  refine pre_rule Tryz.Yok (n := 37) (loc := Tryz.Y.loc 11) 100 [1, 2, 4, 5, 6] (by kernel_rfl) ?_
  refine Eq.mpr (f11_0 (row setC a.sets) a.sets.length (row encI a.first) a.first.length (row encI a.last) a.last.length (row encLI a.follow) a.follow.length a.empty s .empty _) ?_
  refine ⟨_, may7 a ha.small, if_mk (fun g => by rw [ha.may] at g; cases g) (fun _ => ?_)⟩
  match s, hl with
  | [], _ => exact if_mk (fun _ => fin_at (.inr rfl) rfl ⟨_, .b _, rfl⟩) (fun g => by cases g)
  | c :: r, hl =>
  refine if_mk (fun g => by cases g) (fun _ => ?_)
  refine ⟨c, ⟨by decide, rfl⟩, _, _, _, having23 a a.first c.toNat (u8lt c) ha.first (by have := ha.nfirst; omega), rfl, ?_⟩
  have hl : r.length ≤ 19 := by simp at hl; omega
  refine loop2 [1, 2, 5, 6] [1, 2, 5, 6] rfl (by kernel_rfl) (fun m vs _ => ∃ j : Nat, vs = [.s (c :: r), .lb (auC a), lst encI (walkA a c (r.take j)), .i .i64 ((j + 1 : Nat))] ∧ j ≤ r.length ∧ m = r.length - j) r.length mk_len ⟨0, rfl, by omega, by omega⟩ ?_
  rintro m vs h ⟨j, rfl, hj, rfl⟩
  refine all_rule Tryz.Yok (loc := Tryz.Y.loc 11) 100 [1, 2, 5, 6] ?_
  refine Eq.mpr (f11_1 (row setC a.sets) a.sets.length (row encI a.first) a.first.length (row encI a.last) a.last.length (row encLI a.follow) a.follow.length (c :: r) a.empty none (row encI (walkA a c (r.take j))) (walkA a c (r.take j)).length ((j + 1 : Nat)) h _) ?_
  refine if_lt_nat (fun hlt => ?_) (fun hge => ?_)
  · have hlt : j < r.length := by simp at hlt; omega
    refine ⟨r[j], ⟨by omega, by rw [Int.toNat_natCast]; simp [hlt]⟩, _, _, _, step24 hs hcm ha (walkA a c (r.take j)) r[j].toNat (u8lt _) (by have := walkA_len ha c (r.take j); omega), rfl, r.length - (j + 1), by omega, j + 1, ?_, by omega, rfl⟩
    rw [wrap_succ (by omega), walkA_snoc a c r hlt]
    rfl
  · have hge : r.length ≤ j := by simp at hge; omega
    refine roundW_exit [2, 5] (by kernel_rfl) rfl rfl ?_
    refine end_rule Tryz.Yok (loc := Tryz.Y.loc 11) 100 [4] ?_
    refine Eq.mpr (f11_2 (row setC a.sets) a.sets.length (row encI a.first) a.first.length (row encI a.last) a.last.length (row encLI a.follow) a.follow.length none (row encI (walkA a c (r.take j))) (walkA a c (r.take j)).length a.empty h _) ?_
    rw [List.take_of_length_le hge]
    exact ⟨_, ends25 ha.nlast (walkA a c r) (by have := walkA_len ha c r; omega), finV1 (.inr rfl) rfl (.b _) rfl⟩
end Go.Y
