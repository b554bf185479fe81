/- Texts, quoted: whole ones, both, by contracts. -/
import Derived.Test.YtfnpgefoikffdaaDoorGTell7
import Derived.Test.YtfnpgefoikffdaaDoorGRule
namespace Go.Y
open Go.Proofs Go.Lib
set_option maxRecDepth 100000
set_option linter.unusedVariables false
set_option linter.unusedSimpArgs false

def escS (s : List UInt8) : List UInt8 := s.flatMap byteS
theorem escS_snoc (s : List UInt8) (c : UInt8) : escS (s ++ [c]) = escS s ++ byteS c := by simp [escS]
theorem escS_len (s : List UInt8) : (escS s).length ≤ 4 * s.length := by
  induction s with
  | nil => simp [escS]
  | cons c s ih =>
    have : escS (c :: s) = byteS c ++ escS s := by simp [escS]
    have := byteS_len c
    rw [‹escS (c :: s) = _›, List.length_append, List.length_cons]; omega
def quoteS (s : List UInt8) : List UInt8 := [34] ++ escS s ++ [34]
theorem quoteS_len (s : List UInt8) : (quoteS s).length ≤ 4 * s.length + 2 := by
  have := escS_len s
  simp [quoteS]; omega

/-- A part that is a text. -/
abbrev encX (s : List UInt8) : List V := [.s [], .s s]
theorem encX_len (s : List UInt8) : (encX s).length = 2 := rfl
theorem getX (l : List (List UInt8)) {i : Nat} (h : i < l.length) : takeX 2 (List.drop (((i : Nat) : Int).toNat * 2) (row encX l)) = some (encX l[i]) := by
  rw [Int.toNat_natCast]; exact row_get (f := encX) (k := 2) encX_len h
theorem getX0 (l : List (List UInt8)) {i : Nat} (h : i < l.length) : takeX 1 (List.drop 0 (List.drop (((i : Nat) : Int).toNat * 2) (row encX l))) = some [.s []] := by
  rw [Int.toNat_natCast, row_drop encX_len, List.drop_eq_getElem_cons h]; rfl
theorem getX1 (l : List (List UInt8)) {i : Nat} (h : i < l.length) : takeX 1 (List.drop 1 (List.drop (((i : Nat) : Int).toNat * 2) (row encX l))) = some [.s l[i]] := by
  rw [Int.toNat_natCast, row_drop encX_len, List.drop_eq_getElem_cons h]; rfl

/-- Texts that may be: one at most. -/
structure oneX (l : List (List UInt8)) : Prop where
  len : l.length ≤ 1
  ne : ∀ s ∈ l, s ≠ []
  big : ∀ s ∈ l, s.length ≤ 2 ^ 20

theorem qmay_con {l : List (List UInt8)} (hl : oneX l) : PCon Tryd.Y 40 [lst encX l] (· = .b true) := by
  refine pcon_of Tryd.Yok (fn := Tryd.f40) (by kernel_rfl) (by kernel_rfl) rfl ?_
  refine pre_rule Tryd.Yok (n := 33) (loc := Tryd.Y.loc 40) 100 [3, 6, 7, 8] (by kernel_rfl) ?_
  refine Eq.mpr (f40_0 (row encX l) l.length .empty _) ?_
  have h1 := hl.len
  refine ⟨rfl, loop2 [3, 6, 7, 8] [2, 3, 6, 7, 8] rfl (by kernel_rfl) (fun m vs _ => ∃ (i : Nat) (b : Bool), vs = [.b b, lst encX l, .i .i64 l.length, .i .i64 (i : Nat)] ∧ i ≤ l.length ∧ m = l.length - i ∧ (i = 0 → b = false)) l.length mk_len ⟨0, false, rfl, by omega, by omega, fun _ => rfl⟩ ?_⟩
  rintro m vs h ⟨i, b, rfl, hi, rfl, hb⟩
  refine all_rule Tryd.Yok (loc := Tryd.Y.loc 40) 100 [2, 3, 6, 7, 8] ?_
  refine Eq.mpr (f40_1 (row encX l) l.length b (i : Nat) h _) ?_
  refine if_lt_nat (fun hlt => ?_) (fun hge => ?_)
  · have hne := hl.ne _ (List.getElem_mem hlt)
    have hb := hb (by omega)
    subst hb
    refine ⟨bnd_nat hlt, _, _, getX l hlt, if_mk (fun _ => if_mk (fun h2 => absurd (by simpa using h2) hne) (fun _ => if_mk (fun h3 => by cases h3) (fun _ => ?_))) (fun h2 => by simp at h2)⟩
    exact ⟨rfl, l.length - (i + 1), by omega, i + 1, true, by rw [wrap_succ (by omega)]; rfl, by omega, rfl, fun h => by omega⟩
  · refine roundW_exit [] (by kernel_rfl) rfl rfl ?_
    refine end_rule Tryd.Yok (loc := Tryd.Y.loc 40) 100 [2] ?_
    exact Eq.mpr (f40_2 h _) (finV1 (.inr rfl) rfl (.b _) rfl)

def allX (l : List (List UInt8)) : List UInt8 := l.flatMap escS
theorem allX_snoc (l : List (List UInt8)) (s : List UInt8) : allX (l ++ [s]) = allX l ++ escS s := by simp [allX]
theorem allX_len {l : List (List UInt8)} (hl : oneX l) (i : Nat) : (allX (l.take i)).length ≤ 2 ^ 22 := by
  have h1 := hl.len
  match l, h1 with
  | [], _ => simp [allX]
  | [s], _ =>
    have := escS_len s
    have := hl.big s (by simp)
    cases i with
    | zero => simp [allX]
    | succ i => simp [allX]; omega

def PrI (l : List (List UInt8)) (m : Nat) (vs : List V) (h : Heap) : Prop :=
  ∃ (id i : Nat), vs = [.p (some (id, 0)), lst encX l, .i .i64 l.length, .i .i64 (i : Nat)] ∧ i ≤ l.length ∧ m = l.length - i ∧ Bd h id ([34] ++ allX (l.take i))
def PrJ (l : List (List UInt8)) (id i : Nat) (s : List UInt8) (m : Nat) (vs : List V) (h : Heap) : Prop :=
  ∃ j : Nat, vs = [.p (some (id, 0)), .lb (encX s), lst encX l, .i .i64 l.length, .i .i64 (i : Nat), .i .i64 s.length, .i .i64 (j : Nat)] ∧ j ≤ s.length ∧ m = s.length - j ∧ Bd h id ([34] ++ allX (l.take i) ++ escS (s.take j))

theorem qprint_con {l : List (List UInt8)} (hl : oneX l) : PCon Tryd.Y 29 [lst encX l] (· = .tup [.s ([34] ++ allX l ++ [34]), .i .i64 0]) := by
  refine pcon_of Tryd.Yok (fn := Tryd.f29) (by kernel_rfl) (by kernel_rfl) rfl ?_
  refine pre_rule Tryd.Yok (n := 42) (loc := Tryd.Y.loc 29) 100 [2, 3, 4, 12, 13, 14] (by kernel_rfl) ?_
  refine Eq.mpr (f29_0 (row encX l) l.length .empty _) ?_
  have h1 := hl.len
  refine ⟨_, qmay_con hl, if_mk (fun h => by simp at h) (fun _ => ?_)⟩
  refine (wbyte_con (Bd.new _) 34 (by simp)).mono fun v h' ⟨e, b⟩ => .inl ⟨e, ?_⟩
  refine ⟨rfl, loop2 [4, 12, 13, 14] [4, 12, 13, 14] rfl (by kernel_rfl) (PrI l) l.length mk_len ⟨_, 0, rfl, by omega, by omega, by simpa [allX] using b⟩ ?_⟩
  rintro m vs h ⟨id, i, rfl, hi, rfl, hb⟩
  refine pre_rule Tryd.Yok (n := 42) (loc := Tryd.Y.loc 29) 100 [4, 12, 13, 14] (by kernel_rfl) ?_
  refine Eq.mpr (f29_1 (row encX l) l.length id (i : Nat) h _) ?_
  have hax := allX_len hl i
  refine if_lt_nat (fun hlt => ?_) (fun hge => ?_)
  · have hbig := hl.big _ (List.getElem_mem hlt)
    refine ⟨rfl, block2 (n := 42) [4, 6, 12, 13, 14, 28, 29] (by kernel_rfl) ?_⟩
    refine pre_rule Tryd.Yok (n := 42) (loc := Tryd.Y.loc 29) 100 [4, 6, 12, 13, 14, 28, 29] (by kernel_rfl) ?_
    refine Eq.mpr (f29_2 (row encX l) l.length id (i : Nat) h _) ?_
    refine ⟨bnd_nat hlt, _, _, getX l hlt, if_mk (fun h2 => by simp at h2) (fun _ => ?_)⟩
    refine ⟨rfl, loopE [4, 6, 12, 13, 14, 28, 29] [4, 6, 12, 13, 14, 28, 29] rfl (by kernel_rfl) (PrJ l id i l[i]) l[i].length mk_len ⟨0, rfl, by omega, by omega, by simpa [escS] using hb⟩ ?_⟩
    rintro m vs h ⟨j, rfl, hj, rfl, hb⟩
    refine all_rule Tryd.Yok (loc := Tryd.Y.loc 29) 100 [4, 6, 12, 13, 14, 28, 29] ?_
    refine Eq.mpr (f29_3 (row encX l) l.length id (i : Nat) [] l[i] (l[i].length : Nat) (j : Nat) h _) ?_
    have hes := escS_len (l[i].take j)
    have hjl : (l[i].take j).length ≤ l[i].length := by simp; omega
    refine if_lt_nat (fun hjt => ?_) (fun hjg => ?_)
    · have hbl := byteS_len l[i][j]
      refine ⟨l[i][j], ⟨by omega, by rw [Int.toNat_natCast]; exact List.getElem?_eq_getElem hjt⟩, _, byte_con _, ?_⟩
      refine (wstr_con hb _ (by simp only [List.length_append, List.length_cons, List.length_nil]; omega)).mono fun v h' ⟨e, b⟩ => ⟨_, .inl ⟨e, rfl, l[i].length - (j + 1), by omega, j + 1, ?_, by omega, rfl, ?_⟩⟩
      · rw [wrap_succ (by omega)]; rfl
      · rw [List.take_succ_eq_append_getElem hjt, escS_snoc, ← List.append_assoc]; exact b
    · simp only [RoundE]
      rw [if_pos (by kernel_rfl)]
      refine at_pick rfl ?_
      refine ⟨rfl, [4, 12, 13, 14], rfl, ?_⟩
      refine all_rule Tryd.Yok (loc := Tryd.Y.loc 29) 100 [4, 12, 13, 14] ?_
      refine Eq.mpr (f29_4 (row encX l) l.length id (i : Nat) h _) ?_
      rw [List.take_of_length_le hjg] at hb
      refine ⟨rfl, l.length - (i + 1), by omega, id, i + 1, by rw [wrap_succ (by omega)]; rfl, by omega, rfl, ?_⟩
      rw [List.take_succ_eq_append_getElem hlt, allX_snoc, ← List.append_assoc]; exact hb
  · refine at_pick rfl (roundW_exit [4] (by kernel_rfl) rfl rfl ?_)
    refine end_rule Tryd.Yok (loc := Tryd.Y.loc 29) 100 [2, 3] ?_
    refine Eq.mpr (f29_5 id h _) ?_
    rw [List.take_of_length_le hge] at hb hax
    refine (wbyte_con hb 34 (by simp; omega)).mono fun v h' ⟨e, b⟩ => .inl ⟨e, ?_⟩
    exact (bstr_con b (by simp; omega)).mono fun v h' e => ⟨_, e, finV2 (.inr rfl) rfl (.s _) (.i _ _) rfl⟩

theorem rqprint_con {l : List (List UInt8)} (hl : oneX l) : PCon Tryd.Y 30 [lst encX l] (· = .s ([34] ++ allX l ++ [34])) := by
  refine pcon_of Tryd.Yok (fn := Tryd.f30) (by kernel_rfl) (by kernel_rfl) rfl ?_
  refine pre_rule Tryd.Yok (n := 49) (loc := Tryd.Y.loc 30) 100 [0, 3, 4] (by kernel_rfl) ?_
  refine Eq.mpr (f30_0 (row encX l) l.length .empty _) ?_
  have h1 := hl.len
  refine ⟨rfl, loop2 [0, 3, 4] [0, 3, 4] rfl (by kernel_rfl) (fun m vs _ => ∃ i : Nat, vs = [lst encX l, .s ([34] ++ allX (l.take i)), .i .i64 (i : Nat)] ∧ i ≤ l.length ∧ m = l.length - i) l.length mk_len ⟨0, by rw [show allX (l.take 0) = [] from rfl, List.append_nil]; rfl, by omega, by omega⟩ ?_⟩
  rintro m vs h ⟨i, rfl, hi, rfl⟩
  refine pre_rule Tryd.Yok (n := 49) (loc := Tryd.Y.loc 30) 100 [0, 3, 4] (by kernel_rfl) ?_
  refine Eq.mpr (f30_1 (row encX l) l.length _ (i : Nat) h _) ?_
  have hax := allX_len hl i
  refine if_lt_nat (fun hlt => ?_) (fun hge => ?_)
  · have hbig := hl.big _ (List.getElem_mem hlt)
    refine ⟨rfl, block2 (n := 49) [0, 3, 4, 5] (by kernel_rfl) ?_⟩
    refine pre_rule Tryd.Yok (n := 49) (loc := Tryd.Y.loc 30) 100 [0, 3, 4, 5] (by kernel_rfl) ?_
    refine Eq.mpr (f30_2 (row encX l) l.length _ (i : Nat) h _) ?_
    refine ⟨bnd_nat hlt, _, getX0 l hlt, if_mk (fun h2 => by simp at h2) (fun _ => ?_)⟩
    refine ⟨rfl, loopE [0, 3, 4, 5] [0, 3, 4, 5] rfl (by kernel_rfl) (fun m vs _ => ∃ j : Nat, vs = [lst encX l, .s ([34] ++ allX (l.take i) ++ escS (l[i].take j)), .i .i64 (i : Nat), .i .i64 (j : Nat)] ∧ j ≤ l[i].length ∧ m = l[i].length - j) l[i].length mk_len ⟨0, by rw [show escS (l[i].take 0) = [] from rfl, List.append_nil]; rfl, by omega, by omega⟩ ?_⟩
    rintro m vs h ⟨j, rfl, hj, rfl⟩
    refine all_rule Tryd.Yok (loc := Tryd.Y.loc 30) 100 [0, 3, 4, 5] ?_
    refine Eq.mpr (f30_3 (row encX l) l.length (i : Nat) _ (j : Nat) h _) ?_
    have hes := escS_len (l[i].take j)
    have hjl : (l[i].take j).length ≤ l[i].length := by simp; omega
    refine ⟨bnd_nat hlt, _, getX1 l hlt, if_lt_nat (fun hjt => ?_) (fun hjg => ?_)⟩
    · have hbl := byteS_len l[i][j]
      refine ⟨bnd_nat hlt, _, getX1 l hlt, l[i][j], ⟨by omega, by rw [Int.toNat_natCast]; exact List.getElem?_eq_getElem hjt⟩, _, rbyte_con _, by simp only [List.length_append, List.length_cons, List.length_nil]; omega, rfl, l[i].length - (j + 1), by omega, j + 1, ?_, by omega, rfl⟩
      rw [wrap_succ (by omega), List.take_succ_eq_append_getElem hjt, escS_snoc, ← List.append_assoc]; rfl
    · simp only [RoundE]
      rw [if_pos (by kernel_rfl)]
      refine at_pick rfl ?_
      refine ⟨rfl, [0, 3, 4], rfl, ?_⟩
      refine all_rule Tryd.Yok (loc := Tryd.Y.loc 30) 100 [0, 3, 4] ?_
      refine Eq.mpr (f30_4 (row encX l) l.length (i : Nat) _ h _) ?_
      rw [List.take_of_length_le hjg]
      refine ⟨rfl, l.length - (i + 1), by omega, i + 1, ?_, by omega, rfl⟩
      rw [wrap_succ (by omega), List.take_succ_eq_append_getElem hlt, allX_snoc, ← List.append_assoc]; rfl
  · refine at_pick rfl (roundW_exit [3] (by kernel_rfl) rfl rfl ?_)
    refine end_rule Tryd.Yok (loc := Tryd.Y.loc 30) 100 [2] ?_
    refine Eq.mpr (f30_5 _ h _) ?_
    rw [List.take_of_length_le hge] at hax ⊢
    exact ⟨by simp; omega, finV1 (.inr rfl) rfl (.s _) rfl⟩

/-! ### Text -/
theorem one_nil : oneX [] := ⟨by simp, by simp, by simp⟩
theorem one_of {s : List UInt8} (h : s ≠ []) (hs : s.length ≤ 2 ^ 20) : oneX [s] := ⟨by simp, by simpa using h, by simpa using hs⟩
theorem quote_nil : [34] ++ allX [] ++ [34] = quoteS [] := rfl
theorem quote_one (s : List UInt8) : [34] ++ allX [s] ++ [34] = quoteS s := by simp [allX, quoteS]
theorem nilW : WkA [.sl none 0 (some 0) 0] [lst encX []] := .one _ _ _ _ (.inr (.inl ⟨_, _, none, rfl, rfl, fun x hx => by cases hx⟩)) .nil
theorem oneW' (s : List UInt8) : WkA [.ts [.s [], .s s] 1 (some 1)] [lst encX [s]] := .one _ _ _ _ (.inr (.inr ⟨_, _, _, rfl, rfl⟩)) .nil
theorem text_con {s : List UInt8} (hs : s.length ≤ 2 ^ 20) : PCon Tryd.Y 11 [.s s] (· = .s (quoteS s)) := by
  refine tree_con Tryd.Yok (fn := Tryd.f11) (by kernel_rfl) (by kernel_rfl) rfl (fun K => f11_0 s .empty K) rfl ?_
  refine if_mk (fun h => ⟨_, _, (qprint_con (one_of (by simpa using h) hs)).wk (oneW' s), finV1 (.inr rfl) rfl (.s _) (by rw [quote_one])⟩) (fun h => ⟨_, _, (qprint_con one_nil).wk nilW, finV1 (.inr rfl) rfl (.s _) ?_⟩)
  have : s = [] := by simpa using h
  rw [this]; rfl
theorem rtext_con {s : List UInt8} (hs : s.length ≤ 2 ^ 20) : PCon Tryd.Y 12 [.s s] (· = .s (quoteS s)) := by
  refine tree_con Tryd.Yok (fn := Tryd.f12) (by kernel_rfl) (by kernel_rfl) rfl (fun K => f12_0 s .empty K) rfl ?_
  refine if_mk (fun h => ⟨_, (rqprint_con one_nil).wk nilW, finV1 (.inr rfl) rfl (.s _) ?_⟩) (fun h => ⟨_, (rqprint_con (one_of (by simpa using h) hs)).wk (oneW' s), finV1 (.inr rfl) rfl (.s _) (by rw [quote_one])⟩)
  have : s = [] := by simpa using h
  rw [this]; rfl
end Go.Y

/- Rules by printed trees: the goal over code is never shown to the elaborator. -/
namespace Go.Y

theorem pre_tree {Y : YP} (hY : YOK Y) {loc : Nat → Bool} {fuel : Nat} (n : Nat) {slots : List Nat} {σ : St} {env' : List V} {h : Heap} {l : List Code} {Q : Out → St → Prop} {T : (Out → Nat → List V → Heap → Prop) → Prop}
    (tree : ∀ K, codeP Y loc fuel (pre l) ⟨env', [], h⟩ (VQ slots K) = T K) (hσ : σ = ⟨env', [], h⟩) (hc : (post l).isEmpty = false) (hT : T (PreV Y n slots (post l) Q)) : TriL Y l σ Q := by
  refine pre_rule hY (n := n) (loc := loc) fuel slots hc ?_
  rw [hσ, tree]
  exact hT
theorem all_tree {Y : YP} (hY : YOK Y) {loc : Nat → Bool} {fuel : Nat} {slots : List Nat} {σ : St} {env' : List V} {h : Heap} {l : List Code} {K : Out → Nat → List V → Heap → Prop} {T : (Out → Nat → List V → Heap → Prop) → Prop}
    (tree : ∀ K, codeP Y loc fuel l ⟨env', [], h⟩ (VQ slots K) = T K) (hσ : σ = ⟨env', [], h⟩) (hT : T K) : TriL Y l σ (VQ slots K) := by
  refine all_rule hY (loc := loc) fuel slots ?_
  rw [hσ, tree]
  exact hT
theorem end_tree {Y : YP} (hY : YOK Y) {loc : Nat → Bool} {fuel : Nat} {slots : List Nat} {σ : St} {env' : List V} {h : Heap} {l : List Code} {fn : Func} {P : V → Heap → Prop} {T : (Out → Nat → List V → Heap → Prop) → Prop}
    (tree : ∀ K, codeP Y loc fuel l ⟨env', [], h⟩ (VQ slots K) = T K) (hσ : σ = ⟨env', [], h⟩) (hT : T (Fin Y fn slots P)) : TriL Y l σ (FinS Y fn P) := by
  refine end_rule hY (loc := loc) fuel slots ?_
  rw [hσ, tree]
  exact hT
theorem two_tree {Y : YP} (hY : YOK Y) {loc : Nat → Bool} {fuel : Nat} {so1 so2 : List Nat} {σ : St} {env' : List V} {h : Heap} {l : List Code} {K : Out → Nat → List V → Heap → Prop} {T : (Out → Nat → List V → Heap → Prop) → Prop}
    (tree : ∀ K, codeP Y loc fuel l ⟨env', [], h⟩ (VQ so1 K) = T K) (hσ : σ = ⟨env', [], h⟩) (hT : T fun o n vs h => ∀ vs2, Two so1 vs so2 vs2 → K o n vs2 h) : TriL Y l σ (VQ so2 K) := by
  refine all_two hY (loc := loc) fuel so1 ?_
  rw [hσ, tree]
  exact hT
/-- A block's end, by fewer slots. -/
theorem contW_two {Y : YP} {n : Nat} {so1 so sl' : List Nat} {id : Nat} {r : List Code} {Q : Out → St → Prop} {len : Nat} {vs vs2 : List V} {h : Heap} (ht : Two so1 vs so vs2) (hn : len = n) (h1 : sl'.all so1.contains = true) (h2 : sl'.all so.contains = true)
    (hr : TriL Y r ⟨mk n (sl'.zip (pick so1 sl' vs)), [], h⟩ Q) : ContW Y n so id r Q .normal len vs2 h := ⟨hn, sl', h2, by rw [two_pick ht h1 h2]; exact hr⟩
end Go.Y
