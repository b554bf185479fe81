/- Verdicts as lines: both, by contracts; they are the same. -/
import Derived.Test.YtfnpgefoikffdaaDoorGTell6
namespace Go.Y
open Go.Proofs Go.Lib
set_option maxRecDepth 100000
set_option linter.unusedVariables false
set_option linter.unusedSimpArgs false

def wreject : List UInt8 := [114, 101, 106, 101, 99, 116]
def wguilty : List UInt8 := [103, 117, 105, 108, 116, 121]
def wunsure : List UInt8 := [117, 110, 115, 117, 114, 101]
def verS (v : Ver) : List UInt8 :=
  if v.kind == 1 then lnS [wreject, itoa v.whr, itoa v.plc, itoa v.err] else if v.kind == 2 then lnS [wguilty, nameS v.flt, itoa v.nodes] ++ linesS v.tr else if v.kind == 3 then passS v else
  if v.kind == 4 then lnS [wunsure, itoa v.nodes] else []

/-- A literal of one word, and more behind it. -/
theorem lit_app (h : Heap) (w : List UInt8) (ys : List (List UInt8)) (hy : ys.length ≤ 2 ^ 18) :
    ∃ a l c k h', appendH Tryd.Y (h.push (.arr [.s w] true)) 51 51 (.sl (some (h.nx, 0)) 1 (some 1) 1) (lst encT ys) = some (.sl a l c k, h') ∧ StrL h' a l c k (w :: ys) ∧ h.nx ≤ h'.nx ∧ (∀ j, j < h.nx → h'.get j = h.get j) ∧ ∀ i, i < h.nx → h'.tagOf i = h.tagOf i := by
  have hL : StrL (h.push (.arr [.s w] true)) (some (h.nx, 0)) 1 (some 1) 1 [w] := ⟨rfl, .inr ⟨h.nx, rfl, rfl, by simp, by simp, .inr rfl⟩⟩
  obtain ⟨a2, l2, c2, k2, h2, q1, q2, q3, q4, q5, q6⟩ := hL.app ys none (by simp; omega)
  rw [← row_strs] at q1
  exact ⟨a2, l2, c2, k2, h2, q1, q2, by simp at q3; omega, fun j hj => by rw [q5 j (by simp; omega) (fun o e => by cases e; omega), Heap.get_push, if_neg (by omega)], fun i hi => by rw [q4 i (by simp; omega)]; rfl⟩

theorem verdict_con {v : Ver} (hv : okVer v) : PCon Tryd.Y 6 [.agg (verC v)] (· = .s (verS v)) := by
  refine tree_con Tryd.Yok (fn := Tryd.f6) (by kernel_rfl) (by kernel_rfl) rfl (fun K => f6_0 v.kind v.whr v.plc v.err v.flt v.tr.k v.tr.n (row encCh v.tr.cs) v.tr.cs.length (row encI v.unused) v.unused.length (row trC v.wit) v.wit.length v.nodes .empty K) rfl ?_
  have l0 := itoa_len hv.nodes
  have l1 := itoa_len hv.whr
  have l2 := itoa_len hv.plc
  have l3 := itoa_len hv.err
  have l4 := nameS_len v.flt
  have l5 := linesS_len hv.tr
  have s1 : sumL [wreject, itoa v.whr, itoa v.plc, itoa v.err] ≤ 100 := by simp [sumL, wreject]; omega
  have s2 : sumL [wguilty, nameS v.flt, itoa v.nodes] ≤ 100 := by simp [sumL, wguilty]; omega
  have s3 : sumL [wunsure, itoa v.nodes] ≤ 100 := by simp [sumL, wunsure]; omega
  have n2 := lnS_len [wguilty, nameS v.flt, itoa v.nodes]
  refine if_mk (fun h1 => ?_) (fun h1 => if_mk (fun h2 => ?_) (fun h2 => if_mk (fun h3 => ?_) (fun h3 => if_mk (fun h4 => ?_) (fun h4 => ?_))))
  · have hn : PCon Tryd.Y 14 [.ts [.i .i64 v.whr, .i .i64 v.plc, .i .i64 v.err] 3 (some 3)] (· = lst encT [itoa v.whr, itoa v.plc, itoa v.err]) :=
      (nums_con [v.whr, v.plc, v.err] (by simp) (by simp; exact ⟨hv.whr, hv.plc, hv.err⟩)).wk (.one _ _ _ _ (.inr (.inr ⟨_, _, _, rfl, rfl⟩)) .nil)
    obtain ⟨a, l, c, k, h', q1, q2, -⟩ := lit_app .empty wreject [itoa v.whr, itoa v.plc, itoa v.err] (by simp)
    exact ⟨_, _, _, hn, a, l, c, k, h', q1, _, line_f q2 (by simp) (by omega), finV1 (.inr rfl) rfl (.s _) (by simp [verS, h1])⟩
  · exact ⟨_, name_con v.flt, _, itoa_con hv.nodes.1 hv.nodes.2, _, line_t _ [wguilty, nameS v.flt, itoa v.nodes] _ (by simp) (by omega), _, lines_con hv.tr, by omega, finV1 (.inr rfl) rfl (.s _) (by simp [verS, h1, h2])⟩
  · exact ⟨_, pass_con hv, finV1 (.inr rfl) rfl (.s _) (by simp [verS, h1, h2, h3])⟩
  · exact ⟨_, itoa_con hv.nodes.1 hv.nodes.2, _, line_t _ [wunsure, itoa v.nodes] _ (by simp) (by omega), finV1 (.inr rfl) rfl (.s _) (by simp [verS, h1, h2, h3, h4])⟩
  · exact finV1 (.inr rfl) rfl (.s _) (by simp [verS, h1, h2, h3, h4])

/-! ### the document's -/
theorem lnS_cons (x : List UInt8) (r : List (List UInt8)) : lnS (x :: r) = x ++ (r.map ([32] ++ ·)).flatten ++ [10] := by rw [lnS, Lib.join_cons]; rfl
def numsS (l : List Int) : List UInt8 := l.flatMap numS
theorem numsS_snoc (l : List Int) (n : Int) : numsS (l ++ [n]) = numsS l ++ numS n := by simp [numsS]
theorem numsS_len : ∀ {l : List Int}, (∀ x ∈ l, okI x) → (numsS l).length ≤ 21 * l.length
  | [], _ => by simp [numsS]
  | a :: l, h => by
    have h1 := numS_len (h a (by simp))
    have h2 := numsS_len (l := l) fun x hx => h x (List.mem_cons_of_mem _ hx)
    have : numsS (a :: l) = numS a ++ numsS l := by simp [numsS]
    rw [this, List.length_append, List.length_cons]; omega
theorem lnS_nums (x : List UInt8) (l : List Int) : lnS (x :: l.map itoa) = x ++ numsS l ++ [10] := by
  rw [lnS_cons, List.map_map, numsS, List.flatMap_def]; rfl
def passR (v : Ver) : List UInt8 := wpass ++ numS v.nodes ++ ([10] ++ wunused) ++ numsS v.unused ++ [10] ++ witS v.wit
theorem passR_eq (v : Ver) : passR v = passS v := by
  rw [passR, passS, lnS_nums, lnS_cons]
  simp [numS]

theorem rverdict_con {v : Ver} (hv : okVer v) : PCon Tryd.Y 7 [.agg (verC v)] (· = .s (verS v)) := by
  refine pcon_of Tryd.Yok (fn := Tryd.f7) (by kernel_rfl) (by kernel_rfl) rfl ?_
  refine pre_rule Tryd.Yok (n := 103) (loc := Tryd.Y.loc 7) 100 [1, 2, 3, 4, 8] (by kernel_rfl) ?_
  refine Eq.mpr (f7_0 v.kind v.whr v.plc v.err v.flt v.tr.k v.tr.n (row encCh v.tr.cs) v.tr.cs.length (row encI v.unused) v.unused.length (row trC v.wit) v.wit.length v.nodes .empty _) ?_
  have l0 := numS_len hv.nodes
  have l1 := numS_len hv.whr
  have l2 := numS_len hv.plc
  have l3 := numS_len hv.err
  have l4 := nameS_len v.flt
  have l5 := linesS_len hv.tr
  have fin : ∀ (s : List UInt8) (h : Heap), s = verS v → ∃ r, Frz h (.s s) r ∧ r = .s (verS v) := fun s h e => ⟨_, .s _, by rw [e]⟩
  refine if_mk (fun h1 => ?_) (fun h1 => if_mk (fun h2 => ?_) (fun h2 => if_mk (fun h4 => ?_) (fun h4 => if_mk (fun h3 => ?_) (fun h3 => ?_))))
  · refine ⟨_, rnum_con hv.whr, by simp; omega, _, rnum_con hv.plc, by simp; omega, _, rnum_con hv.err, by simp; omega, by simp; omega, fin_at (.inr rfl) rfl (fin _ _ ?_)⟩
    simp [verS, h1, lnS_cons, numS, wreject]
  · refine ⟨_, rname_con v.flt, by simp; omega, _, rnum_con hv.nodes, by simp; omega, by simp; omega, _, rlines_con hv.tr, by simp; omega, fin_at (.inr rfl) rfl (fin _ _ ?_)⟩
    simp [verS, h1, h2, lnS_cons, numS, wguilty]
  · refine ⟨_, rnum_con hv.nodes, by simp; omega, by simp; omega, fin_at (.inr rfl) rfl (fin _ _ ?_)⟩
    have h3 : (v.kind == 3) = false := by simp at h4 ⊢; omega
    simp [verS, h1, h2, h3, h4, lnS_cons, numS, wunsure]
  · refine fin_at (.inr rfl) rfl (fin _ _ ?_)
    have h3 : (v.kind == 3) = false := by simpa using h3
    simp [verS, h1, h2, h3, h4]
  have h3 : (v.kind == 3) = true := by simpa using h3
  have hver : verS v = passR v := by simp only [verS, h1, h2, h3, if_true, Bool.false_eq_true, if_false]; rw [passR_eq]
  rw [hver]
  have hul := hv.unl
  have hwl := hv.witl
  refine ⟨_, rnum_con hv.nodes, by simp; omega, by simp; omega, ?_⟩
  refine ⟨rfl, loop2 [1, 3, 4, 8] [1, 3, 4, 8] rfl (by kernel_rfl) (fun m vs _ => ∃ i : Nat, vs = [.lb (verC v), .s (wpass ++ numS v.nodes ++ ([10] ++ wunused) ++ numsS (v.unused.take i)), .i .i64 (i : Nat), .i .i64 v.kind] ∧ i ≤ v.unused.length ∧ m = v.unused.length - i) v.unused.length mk_len ⟨0, by rw [show numsS (v.unused.take 0) = [] from rfl, List.append_nil]; rfl, by omega, by omega⟩ ?_⟩
  rintro m vs h ⟨i, rfl, hi, rfl⟩
  have hun : (numsS (v.unused.take i)).length ≤ 420 := by
    have := numsS_len (l := v.unused.take i) fun x hx => hv.un x (List.mem_of_mem_take hx)
    have : (v.unused.take i).length ≤ 20 := by simp; omega
    omega
  refine all_rule Tryd.Yok (loc := Tryd.Y.loc 7) 100 [1, 3, 4, 8] ?_
  refine Eq.mpr (f7_1 v.kind v.whr v.plc v.err v.flt v.tr.k v.tr.n (row encCh v.tr.cs) v.tr.cs.length (row encI v.unused) v.unused.length (row trC v.wit) v.wit.length v.nodes _ (i : Nat) h _) ?_
  refine if_lt_nat (fun hlt => ?_) (fun hge => ?_)
  · have ok := hv.un _ (List.getElem_mem hlt)
    have l6 := numS_len ok
    refine ⟨bnd_nat hlt, _, getI v.unused hlt, _, rnum_con ok, by simp [wpass, wunused]; omega, rfl, v.unused.length - (i + 1), by omega, i + 1, ?_, by omega, rfl⟩
    rw [wrap_succ (by omega), List.take_succ_eq_append_getElem hlt, numsS_snoc, List.append_assoc _ (numsS _) _]; rfl
  refine roundW_exit [1, 3, 8] (by kernel_rfl) rfl rfl ?_
  rw [List.take_of_length_le hge] at hun ⊢
  refine pre_rule Tryd.Yok (n := 103) (loc := Tryd.Y.loc 7) 100 [1, 3, 5, 8] (by kernel_rfl) ?_
  refine Eq.mpr (f7_2 v.kind v.whr v.plc v.err v.flt v.tr.k v.tr.n (row encCh v.tr.cs) v.tr.cs.length (row encI v.unused) v.unused.length (row trC v.wit) v.wit.length v.nodes _ h _) ?_
  refine ⟨by simp [wpass, wunused]; omega, ?_⟩
  refine ⟨rfl, loop2 [1, 3, 5, 8] [1, 3, 5, 8] rfl (by kernel_rfl) (fun m vs _ => ∃ i : Nat, vs = [.lb (verC v), .s (wpass ++ numS v.nodes ++ ([10] ++ wunused) ++ numsS v.unused ++ [10] ++ witS (v.wit.take i)), .i .i64 (i : Nat), .i .i64 v.kind] ∧ i ≤ v.wit.length ∧ m = v.wit.length - i) v.wit.length mk_len ⟨0, by rw [show witS (v.wit.take 0) = [] from rfl, List.append_nil]; rfl, by omega, by omega⟩ ?_⟩
  rintro m vs h ⟨j, rfl, hj, rfl⟩
  have hwt : (witS (v.wit.take j)).length ≤ 300000 * 12 := by
    have := witS_len (l := v.wit.take j) fun t ht => hv.wit t (List.mem_of_mem_take ht)
    have : (v.wit.take j).length ≤ 12 := by simp; omega
    omega
  refine all_rule Tryd.Yok (loc := Tryd.Y.loc 7) 100 [1, 3, 5, 8] ?_
  refine Eq.mpr (f7_3 v.kind v.whr v.plc v.err v.flt v.tr.k v.tr.n (row encCh v.tr.cs) v.tr.cs.length (row encI v.unused) v.unused.length (row trC v.wit) v.wit.length v.nodes _ (j : Nat) h _) ?_
  refine if_lt_nat (fun hlt => ?_) (fun hge => ?_)
  · have ok := hv.wit _ (List.getElem_mem hlt)
    have l6 := linesS_len ok
    generalize hK : RoundW Tryd.Y 103 [1, 3, 5, 8] [1, 3, 5, 8] _ _ _ _ _ = K
    have next : ∀ (s : List UInt8) h', s = wpass ++ numS v.nodes ++ ([10] ++ wunused) ++ numsS v.unused ++ [10] ++ witS (v.wit.take j) ++ oneW v.wit[j] → K .normal 103 [.lb (verC v), .s s, .i .i64 (IntKind.i64.wrap ((j : Nat) + 1)), .i .i64 v.kind] h' := by
      intro s h' e
      subst hK e
      refine ⟨rfl, v.wit.length - (j + 1), by omega, j + 1, ?_, by omega, rfl⟩
      rw [wrap_succ (by omega), List.take_succ_eq_append_getElem hlt, witS_snoc, List.append_assoc _ (witS _) _]; rfl
    have write : nzT v.wit[j] = true → oneW v.wit[j] = linesS v.wit[j] := fun hz => by rw [oneW, if_pos hz]
    have big : (wpass ++ numS v.nodes ++ ([10] ++ wunused) ++ numsS v.unused ++ [10] ++ witS (v.wit.take j)).length + (linesS v.wit[j]).length ≤ 1152921504606846976 := by simp [wpass, wunused]; omega
    refine ⟨bnd_nat hlt, _, _, _, _, _, getTr v.wit hlt, if_mk (fun g1 => ?_) (fun g1 => if_mk (fun g2 => ?_) (fun g2 => if_pos_nat (fun g3 => ?_) (fun g3 => next _ h ?_)))⟩
    · exact ⟨_, rlines_con ok, big, next _ h (by rw [write (by simp [nzT, g1])])⟩
    · exact ⟨_, rlines_con ok, big, next _ h (by rw [write (by simp [nzT, g2])])⟩
    · exact ⟨_, rlines_con ok, big, next _ h (by rw [write (by simp [nzT, g3])])⟩
    · have : nzT v.wit[j] = false := by simp only [nzT, g1, g2, g3]; simp
      rw [oneW, this]; simp
  refine roundW_exit [3] (by kernel_rfl) rfl rfl ?_
  refine end_rule Tryd.Yok (loc := Tryd.Y.loc 7) 100 [2] ?_
  refine Eq.mpr (f7_4 _ h _) ?_
  rw [List.take_of_length_le hge]
  exact finV1 (.inr rfl) rfl (.s _) rfl
end Go.Y

/- Texts, quoted: both, by contracts. -/
namespace Go.Y
open Go.Proofs Go.Lib
set_option maxRecDepth 100000
set_option linter.unusedVariables false
set_option linter.unusedSimpArgs false

/-! ### bytes -/
def hexL : List UInt8 := [48, 49, 50, 51, 52, 53, 54, 55, 56, 57, 97, 98, 99, 100, 101, 102]
def hexD (k : Nat) : UInt8 := hexL.getD k 0
theorem hexL_get {k : Nat} (h : k < 16) : hexL[k]? = some (hexD k) := by
  have : k < hexL.length := h
  simp [hexD, List.getD, List.getElem?_eq_getElem this]
def byteS (c : UInt8) : List UInt8 :=
  if c = 10 then [92, 110] else if c = 13 then [92, 114] else if c = 9 then [92, 116] else if c = 34 ∨ c = 92 ∨ c = 36 then [92, c] else
  if c < 32 ∨ 126 < c then [92, 120, hexD (c.toNat / 16), hexD (c.toNat % 16)] else [c]
theorem byteS_len (c : UInt8) : (byteS c).length ≤ 4 := by
  unfold byteS
  repeat' split
  all_goals simp
theorem u8_lit (c : UInt8) (n : Nat) (hn : n < 256) : (((c.toNat : Nat) : Int) == (n : Int)) = decide (c = UInt8.ofNat n) := by
  have h : c = UInt8.ofNat n ↔ c.toNat = n := by
    constructor
    · intro e; rw [e]; simp; omega
    · intro e; rw [← e]; simp
  by_cases g : c.toNat = n
  · rw [decide_eq_true (h.2 g)]; simp [g]
  · have g2 : ¬ c = UInt8.ofNat n := fun e => g (h.1 e)
    simp [g2]; omega
theorem and15 : ∀ n : _root_.Fin 256, (BitVec.ofInt 8 ((n.val : Nat) : Int) &&& BitVec.ofInt 8 15).toNat = n.val % 16 := by decide +kernel
theorem index57 (s : List UInt8) (c : UInt8) : PCon Tryd.Y 57 [.s s, .i .u8 (c.toNat : Nat)] (· = .i .i64 (idxFrom s c 0)) := by
  refine tree_con Tryd.Yok (fn := Tryd.f57) (by kernel_rfl) (by kernel_rfl) rfl (fun K => f57_0 s (c.toNat : Nat) .empty K) rfl ?_
  have e : ((c.toNat : Nat) : Int).toNat.toUInt8 = c := by simp
  refine ⟨_, ?_, finV1 (.inr rfl) rfl (.i _ _) rfl⟩
  refine tree_con Tryd.Yok (fn := Tryd.f71) (by kernel_rfl) (by kernel_rfl) rfl (fun K => f71_0 s (c.toNat : Nat) .empty K) rfl ?_
  exact finV1 (.inr rfl) rfl (.i _ _) (by rw [e])
theorem idx3 (c : UInt8) : leI 0 (idxFrom [34, 92, 36] c 0) = decide (c = 34 ∨ c = 92 ∨ c = 36) := by
  unfold idxFrom
  by_cases h1 : c = 34
  · subst h1; rfl
  · have g1 : ((34 : UInt8) == c) = false := by simp; exact fun e => h1 e.symm
    rw [if_neg (by simp [g1])]
    unfold idxFrom
    by_cases h2 : c = 92
    · subst h2; rfl
    · have g2 : ((92 : UInt8) == c) = false := by simp; exact fun e => h2 e.symm
      rw [if_neg (by simp [g2])]
      unfold idxFrom
      by_cases h3 : c = 36
      · subst h3; rfl
      · have g3 : ((36 : UInt8) == c) = false := by simp; exact fun e => h3 e.symm
        rw [if_neg (by simp [g3])]
        simp [idxFrom, h1, h2, h3, leI]

theorem b_self (c : UInt8) : UInt8.ofNat ((c.toNat : Nat) : Int).toNat = c := by simp
theorem byte_lt (c : UInt8) : c.toNat < 256 := c.toNat_lt

theorem rhex_con (k : Nat) (hk : k < 16) : PCon Tryd.Y 58 [.i .u8 (k : Nat)] (· = .s [hexD k]) := by
  refine tree_con Tryd.Yok (fn := Tryd.f58) (by kernel_rfl) (by kernel_rfl) rfl (fun K => f58_0 (k : Nat) .empty K) rfl ?_
  exact ⟨hexD k, ⟨by omega, by rw [Int.toNat_natCast]; exact hexL_get hk⟩, _, rfl, finV1 (.inr rfl) rfl (.s _) (by simp)⟩

theorem rbyte_con (c : UInt8) : PCon Tryd.Y 43 [.i .u8 (c.toNat : Nat)] (· = .s (byteS c)) := by
  refine tree_con Tryd.Yok (fn := Tryd.f43) (by kernel_rfl) (by kernel_rfl) rfl (fun K => f43_0 (c.toNat : Nat) .empty K) rfl ?_
  have hc := byte_lt c
  have e : ∀ n : Nat, n < 256 → (((c.toNat : Nat) : Int) == (n : Int)) = decide (c = UInt8.ofNat n) := fun n hn => u8_lit c n hn
  have e10 := e 10 (by omega); have e13 := e 13 (by omega); have e9 := e 9 (by omega); have e34 := e 34 (by omega); have e92 := e 92 (by omega); have e36 := e 36 (by omega)
  have hdiv : IntKind.u8.wrap (((c.toNat : Nat) : Int).tdiv 16) = ((c.toNat / 16 : Nat) : Int) := by
    have : ((c.toNat : Nat) : Int).tdiv 16 = ((c.toNat / 16 : Nat) : Int) := rfl
    rw [this]; show _ % 256 = _; omega
  have hmod : ((c.toNat : Nat) : Int).tmod 16 = ((c.toNat % 16 : Nat) : Int) := rfl
  have hlt : c < 32 ↔ c.toNat < 32 := by rw [UInt8.lt_iff_toNat_lt]; rfl
  have hgt : 126 < c ↔ 126 < c.toNat := by rw [UInt8.lt_iff_toNat_lt]; rfl
  have esc : (c < 32 ∨ 126 < c) → c ≠ 10 → c ≠ 13 → c ≠ 9 → c ≠ 34 → c ≠ 92 → c ≠ 36 → byteS c = [92, 120] ++ [hexD (c.toNat / 16)] ++ [hexD (c.toNat % 16)] := by
    intro h h1 h2 h3 h4 h5 h6
    rw [byteS, if_neg h1, if_neg h2, if_neg h3, if_neg (by simp [h4, h5, h6]), if_pos h]; rfl
  have e10 : (((c.toNat : Nat) : Int) == 10) = decide (c = 10) := e10
  have e13 : (((c.toNat : Nat) : Int) == 13) = decide (c = 13) := e13
  have e9 : (((c.toNat : Nat) : Int) == 9) = decide (c = 9) := e9
  have e34 : (((c.toNat : Nat) : Int) == 34) = decide (c = 34) := e34
  have e92 : (((c.toNat : Nat) : Int) == 92) = decide (c = 92) := e92
  have e36 : (((c.toNat : Nat) : Int) == 36) = decide (c = 36) := e36
  rw [e10, e13, e9, e34, e92, e36]
  refine if_dec (fun h1 => finV1 (.inr rfl) rfl (.s _) (by subst h1; rfl)) (fun h1 => if_dec (fun h2 => finV1 (.inr rfl) rfl (.s _) (by subst h2; rfl)) (fun h2 => if_dec (fun h3 => finV1 (.inr rfl) rfl (.s _) (by subst h3; rfl)) (fun h3 => ?_)))
  have st : c = 34 ∨ c = 92 ∨ c = 36 → byteS c = [92] ++ [c] := fun h => by rw [byteS, if_neg h1, if_neg h2, if_neg h3, if_pos h]; rfl
  refine if_dec (fun h4 => ⟨_, rfl, by simp, finV1 (.inr rfl) rfl (.s _) (by rw [b_self, st (.inl h4)])⟩) (fun h4 => if_dec (fun h5 => ⟨_, rfl, by simp, finV1 (.inr rfl) rfl (.s _) (by rw [b_self, st (.inr (.inl h5))])⟩) (fun h5 => if_dec (fun h6 => ⟨_, rfl, by simp, finV1 (.inr rfl) rfl (.s _) (by rw [b_self, st (.inr (.inr h6))])⟩) (fun h6 => ?_)))
  rw [hdiv, hmod]
  refine if_lt (fun h7 => ⟨by omega, _, rhex_con _ (by omega), by simp, by omega, _, rhex_con _ (by omega), by simp, finV1 (.inr rfl) rfl (.s _) (by rw [esc (.inl (hlt.2 (by omega))) h1 h2 h3 h4 h5 h6])⟩) (fun h7 => ?_)
  refine if_lt (fun h8 => ⟨by omega, _, rhex_con _ (by omega), by simp, by omega, _, rhex_con _ (by omega), by simp, finV1 (.inr rfl) rfl (.s _) (by rw [esc (.inr (hgt.2 (by omega))) h1 h2 h3 h4 h5 h6])⟩) (fun h8 => ⟨_, rfl, finV1 (.inr rfl) rfl (.s _) ?_⟩)
  rw [b_self, byteS, if_neg h1, if_neg h2, if_neg h3, if_neg (by simp [h4, h5, h6]), if_neg (by rw [hlt, hgt]; omega)]

theorem byte_con (c : UInt8) : PCon Tryd.Y 42 [.i .u8 (c.toNat : Nat)] (· = .s (byteS c)) := by
  refine tree_con Tryd.Yok (fn := Tryd.f42) (by kernel_rfl) (by kernel_rfl) rfl (fun K => f42_0 (c.toNat : Nat) .empty K) rfl ?_
  have hc := byte_lt c
  have e : ∀ n : Nat, n < 256 → (((c.toNat : Nat) : Int) == (n : Int)) = decide (c = UInt8.ofNat n) := fun n hn => u8_lit c n hn
  have e10 : (((c.toNat : Nat) : Int) == 10) = decide (c = 10) := e 10 (by omega)
  have e13 : (((c.toNat : Nat) : Int) == 13) = decide (c = 13) := e 13 (by omega)
  have e9 : (((c.toNat : Nat) : Int) == 9) = decide (c = 9) := e 9 (by omega)
  have hlt : c < 32 ↔ c.toNat < 32 := by rw [UInt8.lt_iff_toNat_lt]; rfl
  have hgt : 126 < c ↔ 126 < c.toNat := by rw [UInt8.lt_iff_toNat_lt]; rfl
  have hdiv : (((c.toNat : Nat) : Int).fdiv (2 ^ min (Int.toNat 4) IntKind.u8.bits)) = ((c.toNat / 16 : Nat) : Int) := by
    show ((c.toNat : Nat) : Int).fdiv 16 = _
    rw [Int.fdiv_eq_ediv_of_nonneg _ (by omega)]; omega
  have hand : IntKind.u8.wrap ((BitVec.ofInt IntKind.u8.bits ((c.toNat : Nat) : Int) &&& BitVec.ofInt IntKind.u8.bits 15).toNat : Nat) = ((c.toNat % 16 : Nat) : Int) := by
    have h := and15 ⟨c.toNat, hc⟩
    have h2 : (BitVec.ofInt IntKind.u8.bits ((c.toNat : Nat) : Int) &&& BitVec.ofInt IntKind.u8.bits 15).toNat = c.toNat % 16 := h
    rw [h2]; show _ % 256 = _; omega
  rw [e10, e13, e9]
  refine if_dec (fun h1 => finV1 (.inr rfl) rfl (.s _) (by subst h1; rfl)) (fun h1 => if_dec (fun h2 => finV1 (.inr rfl) rfl (.s _) (by subst h2; rfl)) (fun h2 => if_dec (fun h3 => finV1 (.inr rfl) rfl (.s _) (by subst h3; rfl)) (fun h3 => ?_)))
  refine ⟨_, index57 _ c, ?_⟩
  rw [idx3, hdiv, hand]
  refine if_dec (fun h4 => ⟨_, rfl, by simp, finV1 (.inr rfl) rfl (.s _) ?_⟩) (fun h4 => ?_)
  · rw [b_self, byteS, if_neg h1, if_neg h2, if_neg h3, if_pos h4]; rfl
  have esc : (c < 32 ∨ 126 < c) → byteS c = [92, 120, hexD (c.toNat / 16), hexD (c.toNat % 16)] := fun h => by rw [byteS, if_neg h1, if_neg h2, if_neg h3, if_neg h4, if_pos h]
  have g1 : (0 : Int) ≤ ((c.toNat / 16 : Nat) : Int) ∧ hexL[((c.toNat / 16 : Nat) : Int).toNat]? = some (hexD (c.toNat / 16)) := ⟨by omega, by rw [Int.toNat_natCast]; exact hexL_get (by omega)⟩
  have g2 : (0 : Int) ≤ ((c.toNat % 16 : Nat) : Int) ∧ hexL[((c.toNat % 16 : Nat) : Int).toNat]? = some (hexD (c.toNat % 16)) := ⟨by omega, by rw [Int.toNat_natCast]; exact hexL_get (by omega)⟩
  refine if_lt (fun h7 => ⟨by omega, _, g1, _, g2, _, rfl, by simp, finV1 (.inr rfl) rfl (.s _) (by rw [esc (.inl (hlt.2 (by omega))), b_self, b_self]; rfl)⟩) (fun h7 => if_lt (fun h8 => ⟨by omega, _, g1, _, g2, _, rfl, by simp, finV1 (.inr rfl) rfl (.s _) (by rw [esc (.inr (hgt.2 (by omega))), b_self, b_self]; rfl)⟩) (fun h8 => ⟨_, rfl, finV1 (.inr rfl) rfl (.s _) ?_⟩))
  rw [b_self, byteS, if_neg h1, if_neg h2, if_neg h3, if_neg h4, if_neg (by rw [hlt, hgt]; omega)]
end Go.Y
