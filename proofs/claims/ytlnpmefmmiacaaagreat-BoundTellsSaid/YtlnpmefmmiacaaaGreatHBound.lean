/- Bounds of a model, by contracts. -/
import Derived.Test.YtlnpmefmmiacaaaGreatGPeer55
import Derived.Test.YtlnpmefmmiacaaaGreatHD1
namespace Go.Y
open Go.Proofs
set_option maxRecDepth 100000
set_option maxHeartbeats 1000000

structure Kid where
  kind : Int
  n : Int
  name : List UInt8
  op : List UInt8
  cs : List V
  len : Nat
structure Ins where
  op : Int
  a : Int
  name : List UInt8
  n : Int
  parts : List (List UInt8 × List UInt8)
  ck : Int
  cn : Int
  cname : List UInt8
  cop : List UInt8
  kids : List Kid
  list : List Int
structure Wat where
  kind : Int
  peer : Int
  pk : Int
  text : List UInt8
  to : Int
  own : Bool
  at' : Int
abbrev encK (k : Kid) : List V := [.i .i64 k.kind, .i .i64 k.n, .s k.name, .s k.op, .ts k.cs k.len none]
abbrev encPt (p : List UInt8 × List UInt8) : List V := [.s p.1, .s p.2]
abbrev encIn (x : Ins) : List V := [.i .i64 x.op, .i .i64 x.a, .s x.name, .i .i64 x.n, lst encPt x.parts, .i .i64 x.ck, .i .i64 x.cn, .s x.cname, .s x.cop, lst encK x.kids, lst encI x.list]
abbrev encWa (w : Wat) : List V := [.i .i64 w.kind, .i .i64 w.peer, .i .i64 w.pk, .s w.text, .i .i64 w.to, .b w.own, .i .i64 w.at']
abbrev encPr (p : Int × List Plc) : List V := peerC p.1 p.2
theorem encK_len (k : Kid) : (encK k).length = 5 := rfl
theorem encPt_len (k : List UInt8 × List UInt8) : (encPt k).length = 2 := rfl
theorem encIn_len (k : Ins) : (encIn k).length = 11 := rfl
theorem encWa_len (k : Wat) : (encWa k).length = 7 := rfl
theorem encPr_len (k : Int × List Plc) : (encPr k).length = 2 := rfl
abbrev codeC (ins : List Ins) (ws : List Wat) : List V := [lst encIn ins, lst encWa ws]
abbrev modC (ins : List Ins) (ws : List Wat) (ps : List (Int × List Plc)) (lat mat : Int) : List V := [lst encIn ins, lst encWa ws, lst encPr ps, .i .i64 lat, .i .i64 mat]

theorem max_if (a b : Int) : (if b > a then b else a) = max a b := by
  split <;> omega

/-! ### Longest -/
def longI (op : Int) (n : Int) (x : Ins) : Int := if x.op = op then max n x.list.length else n
def longS (ins : List Ins) (op : Int) : Int := ins.foldl (longI op) 0
theorem longS_snoc (ins : List Ins) (op : Int) (x : Ins) : longS (ins ++ [x]) op = longI op (longS ins op) x := by
  unfold longS; rw [List.foldl_append]; rfl

theorem long_con (ins : List Ins) (ws : List Wat) (op : Int) (hl : ins.length < 2 ^ 30) : PCon Tryz.Y 11 [.agg (codeC ins ws), .i .i64 op] (· = .i .i64 (longS ins op)) := by
  refine pcon_of Tryz.Yok (fn := Tryz.f11) (by kernel_rfl) (by kernel_rfl) rfl ?_
  refine pre_rule Tryz.Yok (n := 26) (loc := Tryz.Y.loc 11) 100 [1, 5, 9, 10, 11] (by kernel_rfl) ?_
  refine Eq.mpr (f11_0 (row encIn ins) ins.length (row encWa ws) ws.length op .empty _) ?_
  refine ⟨rfl, loop2 [1, 5, 9, 10, 11] [1, 5, 9, 10, 11] rfl (by kernel_rfl) (fun m vs _ => ∃ i : Nat, vs = [.i .i64 op, .i .i64 (longS (ins.take i) op), lst encIn ins, .i .i64 ins.length, .i .i64 (i : Nat)] ∧ i ≤ ins.length ∧ m = ins.length - i) ins.length mk_len ⟨0, rfl, by omega, by omega⟩ ?_⟩
  rintro m vs h ⟨i, rfl, hi, rfl⟩
  refine all_rule Tryz.Yok (loc := Tryz.Y.loc 11) 100 [1, 5, 9, 10, 11] ?_
  refine Eq.mpr (f11_1 ..) ?_
  refine if_lt_nat (fun hlt => ?_) (fun hge => ?_)
  · have hs : longS (ins.take (i + 1)) op = longI op (longS (ins.take i) op) ins[i] := by rw [List.take_succ_eq_append_getElem hlt, longS_snoc]
    refine ⟨bnd_nat hlt, _, _, _, _, _, _, _, _, _, _, _, _, _, _, _, _, _, by rw [Int.toNat_natCast]; exact row_get (f := encIn) (k := 11) encIn_len hlt, if_mk (fun hc => ?_) (fun hc => ?_)⟩
    · have hc : ins[i].op = op := by simpa using hc
      refine ⟨rfl, ins.length - (i + 1), by omega, i + 1, ?_, by omega, rfl⟩
      rw [wrap_succ (by omega), hs]
      simp only [max_if, longI, if_pos hc]
      rfl
    · have hc : ins[i].op ≠ op := by simpa using hc
      refine ⟨rfl, ins.length - (i + 1), by omega, i + 1, ?_, by omega, rfl⟩
      rw [wrap_succ (by omega), hs]
      simp only [longI, if_neg hc]
      rfl
  · refine roundW_exit [5] (by kernel_rfl) rfl rfl ?_
    refine end_rule Tryz.Yok (loc := Tryz.Y.loc 11) 100 [4] ?_
    refine Eq.mpr (f11_2 ..) ?_
    rw [List.take_of_length_le hge]
    exact finV1 (.inr rfl) rfl (.i _ _) rfl

theorem ins_op (ins : List Ins) {i : Nat} (hlt : i < ins.length) : takeX 1 (List.drop 0 (List.drop (((i : Nat) : Int).toNat * 11) (row encIn ins))) = some [.i .i64 ins[i].op] := by
  rw [Int.toNat_natCast, List.drop_zero, row_cons encIn_len ins hlt]; rfl
theorem ins_list (ins : List Ins) {i : Nat} (hlt : i < ins.length) : takeX 1 (List.drop 10 (List.drop (((i : Nat) : Int).toNat * 11) (row encIn ins))) = some [lst encI ins[i].list] := by
  rw [Int.toNat_natCast, row_cons encIn_len ins hlt]; rfl

theorem rlong_con (ins : List Ins) (ws : List Wat) (op : Int) (hl : ins.length < 2 ^ 30) : PCon Tryz.Y 12 [.agg (codeC ins ws), .i .i64 op] (· = .i .i64 (longS ins op)) := by
  refine pcon_of Tryz.Yok (fn := Tryz.f12) (by kernel_rfl) (by kernel_rfl) rfl ?_
  refine pre_rule Tryz.Yok (n := 41) (loc := Tryz.Y.loc 12) 100 [1, 2, 5, 6] (by kernel_rfl) ?_
  refine Eq.mpr (f12_0 (row encIn ins) ins.length (row encWa ws) ws.length op .empty _) ?_
  refine ⟨rfl, loop2 [1, 2, 5, 6] [1, 2, 5, 6] rfl (by kernel_rfl) (fun m vs _ => ∃ i : Nat, vs = [.i .i64 op, .lb (codeC ins ws), .i .i64 (longS (ins.take i) op), .i .i64 (i : Nat)] ∧ i ≤ ins.length ∧ m = ins.length - i) ins.length mk_len ⟨0, rfl, by omega, by omega⟩ ?_⟩
  rintro m vs h ⟨i, rfl, hi, rfl⟩
  refine all_rule Tryz.Yok (loc := Tryz.Y.loc 12) 100 [1, 2, 5, 6] ?_
  refine Eq.mpr (f12_1 ..) ?_
  refine if_lt_nat (fun hlt => ?_) (fun hge => ?_)
  · have hs : longS (ins.take (i + 1)) op = longI op (longS (ins.take i) op) ins[i] := by rw [List.take_succ_eq_append_getElem hlt, longS_snoc]
    refine ⟨bnd_nat hlt, _, ins_op ins hlt, if_mk (fun hc => ⟨bnd_nat hlt, _, _, _, ins_list ins hlt, if_lt (fun hm => ⟨bnd_nat hlt, _, _, _, ins_list ins hlt, ?_⟩) (fun hm => ?_)⟩) (fun hc => ?_)⟩
    · have hc : ins[i].op = op := by simpa using hc
      refine ⟨rfl, ins.length - (i + 1), by omega, i + 1, ?_, by omega, rfl⟩
      rw [wrap_succ (by omega), hs]
      simp only [longI, if_pos hc, Int.max_eq_right (Int.le_of_lt hm)]
      rfl
    · have hc : ins[i].op = op := by simpa using hc
      refine ⟨rfl, ins.length - (i + 1), by omega, i + 1, ?_, by omega, rfl⟩
      rw [wrap_succ (by omega), hs]
      simp only [longI, if_pos hc, Int.max_eq_left hm]
      rfl
    · have hc : ins[i].op ≠ op := by simpa using hc
      refine ⟨rfl, ins.length - (i + 1), by omega, i + 1, ?_, by omega, rfl⟩
      rw [wrap_succ (by omega), hs]
      simp only [longI, if_neg hc]
      rfl
  · refine roundW_exit [5] (by kernel_rfl) rfl rfl ?_
    refine end_rule Tryz.Yok (loc := Tryz.Y.loc 12) 100 [4] ?_
    refine Eq.mpr (f12_2 ..) ?_
    rw [List.take_of_length_le hge]
    exact finV1 (.inr rfl) rfl (.i _ _) rfl

/-! ### Right -/
def rightP (p : Int × List Plc) : Bool := peerS p.1 p.2
def rightM (ps : List (Int × List Plc)) (lat mat : Int) : Bool := decide (1 ≤ ps.length) && decide (ps.length ≤ 8) && leI 0 lat && leI lat 3 && leI 1 mat && leI mat 64 && ps.all rightP

theorem wrong56 (p : Int × List Plc) : PCon Tryz.Y 56 [.agg (encPr p)] (· = .b (!rightP p)) :=
  tree_con Tryz.Yok (fn := Tryz.f56) (by kernel_rfl) (by kernel_rfl) rfl (fun K => f56_0 p.1 (row encPl p.2) p.2.length .empty K) rfl ⟨_, peer_con p.1 p.2, finV1 (.inr rfl) rfl (.b _) rfl⟩

theorem index56 (ps : List (Int × List Plc)) (h : Heap) (hl : ps.length < 2 ^ 30) : Con Tryz.Y 78 [lst encPr ps, .fn (.func 56) [] []] h fun v h' => ∃ n : Int, v = .i .i64 n ∧ leI 0 n = (ps.any fun p => !rightP p) ∧ h' = h := by
  refine conz_of Tryz.Yok (fn := Tryz.f78) (by kernel_rfl) (by kernel_rfl) ?_
  refine pre_rule Tryz.Yok (n := 19) (loc := Tryz.Y.loc 78) 100 [0, 1, 7, 8] (by kernel_rfl) ?_
  refine Eq.mpr (f78_0 (row encPr ps) ps.length h _) ?_
  refine ⟨rfl, loop2 [0, 1, 7, 8] [0, 1, 4, 7, 8] rfl (by kernel_rfl) (fun m vs h' => ∃ i : Nat, vs = [lst encPr ps, .fn (.func 56) [] [], .i .i64 ps.length, .i .i64 (i : Nat)] ∧ i ≤ ps.length ∧ ((ps.take i).any fun p => !rightP p) = false ∧ m = ps.length - i ∧ h' = h) ps.length mk_len ⟨0, rfl, by omega, by simp, by omega, rfl⟩ ?_⟩
  rintro m vs h' ⟨i, rfl, hi, hno, rfl, rfl⟩
  refine all_rule Tryz.Yok (loc := Tryz.Y.loc 78) 100 [0, 1, 4, 7, 8] ?_
  refine Eq.mpr (f78_1 (row encPr ps) ps.length (i : Nat) h' _) ?_
  refine if_lt_nat (fun hlt => ?_) (fun hge => ?_)
  · refine ⟨bnd_nat hlt, _, _, _, _, by rw [Int.toNat_natCast]; exact row_get (f := encPr) (k := 2) encPr_len hlt, _, wrong56 ps[i], if_mk (fun hc => ?_) (fun hc => ?_)⟩
    · refine fin_at (.inr rfl) rfl (.now ⟨(i : Nat), rfl, ?_, rfl⟩)
      have : (ps.any fun p => !rightP p) = true := List.any_eq_true.2 ⟨ps[i], List.getElem_mem hlt, hc⟩
      rw [this]; simp [leI]
    · refine ⟨rfl, ps.length - (i + 1), by omega, i + 1, ?_, by omega, ?_, rfl, rfl⟩
      · rw [wrap_succ (by omega)]; rfl
      · rw [List.take_succ_eq_append_getElem hlt, List.any_append, hno]; simp only [List.any_cons, List.any_nil, hc, Bool.or_false]
  · refine roundW_exit [] (by kernel_rfl) rfl rfl ?_
    refine end_rule Tryz.Yok (loc := Tryz.Y.loc 78) 100 [4] ?_
    refine Eq.mpr (f78_2 h' _) ?_
    rw [List.take_of_length_le hge] at hno
    exact finC (.inr rfl) rfl (.now ⟨-1, rfl, by rw [hno]; rfl, rfl⟩)
theorem contains56 (ps : List (Int × List Plc)) (h : Heap) (hl : ps.length < 2 ^ 30) : Con Tryz.Y 55 [lst encPr ps, .fn (.func 56) [] []] h fun v h' => v = .b (!ps.all rightP) ∧ h' = h := by
  refine conz_of Tryz.Yok (fn := Tryz.f55) (by kernel_rfl) (by kernel_rfl) (end_rule Tryz.Yok (loc := Tryz.Y.loc 55) 100 [4] ?_)
  refine Eq.mpr (f55_0 (row encPr ps) ps.length h _) ?_
  refine (index56 ps h hl).mono fun v h' ⟨n, e1, e2, e3⟩ => ⟨n, e1, ?_⟩
  subst e3
  rw [e2, any_neg]
  exact finC (.inr rfl) rfl (.now ⟨rfl, rfl⟩)

theorem right42 (ins : List Ins) (ws : List Wat) (ps : List (Int × List Plc)) (lat mat : Int) : PCon Tryz.Y 42 [.agg (modC ins ws ps lat mat)] (· = .b (rightM ps lat mat)) := by
  refine tree_con Tryz.Yok (fn := Tryz.f42) (by kernel_rfl) (by kernel_rfl) rfl (fun K => f42_0 (row encIn ins) ins.length (row encWa ws) ws.length (row encPr ps) ps.length lat mat .empty K) rfl ?_
  have no : rightM ps lat mat = false → Fin Tryz.Y Tryz.f42 [2] (fun v h => ∃ r, Frz h v r ∧ r = .b (rightM ps lat mat)) .ret 37 [.b false] .empty := fun e => finV1 (.inr rfl) rfl (.b _) (by rw [e])
  refine if_lt (fun g => no (by simp [rightM, show ¬ 1 ≤ ps.length by omega])) (fun g1 => ?_)
  refine if_lt (fun g => no (by simp [rightM, show ¬ ps.length ≤ 8 by omega])) (fun g2 => ?_)
  refine if_lt (fun g => no (by simp [rightM, show leI 0 lat = false by simp [leI]; omega])) (fun g3 => ?_)
  refine if_lt (fun g => no (by simp [rightM, show leI lat 3 = false by simp [leI]; omega])) (fun g4 => ?_)
  refine if_lt (fun g => no (by simp [rightM, show leI 1 mat = false by simp [leI]; omega])) (fun g5 => ?_)
  refine if_lt (fun g => no (by simp [rightM, show leI mat 64 = false by simp [leI]; omega])) (fun g6 => ?_)
  have k1 : 1 ≤ ps.length := by omega
  have k2 : ps.length ≤ 8 := by omega
  have k3 : leI 0 lat = true := by simp [leI]; omega
  have k4 : leI lat 3 = true := by simp [leI]; omega
  have k5 : leI 1 mat = true := by simp [leI]; omega
  have k6 : leI mat 64 = true := by simp [leI]; omega
  refine (contains56 ps .empty (by omega)).mono fun v h' ⟨e1, e2⟩ => ⟨_, e1, finV1 (.inr rfl) rfl (.b _) ?_⟩
  simp only [rightM, k1, k2, k3, k4, k5, k6, decide_true, Bool.true_and, Bool.not_not]

theorem rright_con (ins : List Ins) (ws : List Wat) (ps : List (Int × List Plc)) (lat mat : Int) (hn : ∀ p ∈ ps, ∀ x ∈ p.2, x.name.length < 2 ^ 30) (hl : ps.length < 2 ^ 30) : PCon Tryz.Y 18 [.agg (modC ins ws ps lat mat)] (· = .b (rightM ps lat mat)) := by
  refine pcon_of Tryz.Yok (fn := Tryz.f18) (by kernel_rfl) (by kernel_rfl) rfl ?_
  refine pre_rule Tryz.Yok (n := 46) (loc := Tryz.Y.loc 18) 100 [1, 2, 3, 9, 14, 19] (by kernel_rfl) ?_
  refine Eq.mpr (f18_0 (row encIn ins) ins.length (row encWa ws) ws.length (row encPr ps) ps.length lat mat .empty _) ?_
  have no : ∀ (vs : List V) (h : Heap) (so : List Nat), rightM ps lat mat = false → resV Tryz.Y Tryz.f18 (so.zip vs) = some (.b false) → AtV so (FinS Tryz.Y Tryz.f18 fun v h => ∃ r, Frz h v r ∧ r = .b (rightM ps lat mat)) .ret 46 vs h := fun vs h so hne hv =>
    fin_at (.inr rfl) hv ⟨_, .b _, by rw [hne]⟩
  refine ⟨rfl, loop2 [1, 2, 3, 9, 14, 19] [1, 2, 3, 4, 9, 14, 19] rfl (by kernel_rfl) (fun m vs _ => ∃ (i : Nat) (v9 v14 v19 : V), vs = [.lb (modC ins ws ps lat mat), .b false, .i .i64 (i : Nat), v9, v14, v19] ∧ i ≤ ps.length ∧ i ≤ 8 ∧ m = ps.length - i ∧ (ps.take i).all rightP = true) ps.length mk_len ⟨0, _, _, _, rfl, by omega, by omega, by omega, by simp⟩ ?_⟩
  rintro m vs h ⟨i, v9, v14, v19, rfl, hi, hi8, rfl, hp⟩
  refine all_rule Tryz.Yok (loc := Tryz.Y.loc 18) 100 [1, 2, 3, 4, 9, 14, 19] ?_
  refine Eq.mpr (f18_1 ..) ?_
  refine if_lt_nat (fun hlt => if_lt (fun h7 => no _ _ _ (by simp [rightM, show ¬ ps.length ≤ 8 by omega]) rfl) (fun h7 => ?_)) (fun hge => ?_)
  · refine ⟨bnd_nat hlt, _, _, _, _, by rw [Int.toNat_natCast]; exact row_get (f := encPr) (k := 2) encPr_len hlt, _, rpeer_con ps[i].1 ps[i].2 (hn _ (List.getElem_mem hlt)), if_mk (fun hc => no _ _ _ ?_ rfl) (fun hc => ?_)⟩
    · have : ps.all rightP = false := all_no (p := rightP) hlt (by unfold rightP; simpa using hc)
      simp [rightM, this]
    · exact ⟨rfl, ps.length - (i + 1), by omega, i + 1, _, _, _, by rw [wrap_succ (by omega)]; rfl, by omega, by omega, rfl, all_snoc (p := rightP) hlt hp (by unfold rightP; simpa using hc)⟩
  · refine roundW_exit [1, 4, 9, 14, 19] (by kernel_rfl) rfl rfl ?_
    refine end_rule Tryz.Yok (loc := Tryz.Y.loc 18) 100 [2] ?_
    refine Eq.mpr (f18_2 ..) ?_
    rw [List.take_of_length_le hge] at hp
    have k2 : ps.length ≤ 8 := by omega
    have fin : ∀ x : Bool, x = rightM ps lat mat → Fin Tryz.Y Tryz.f18 [2] (fun v h => ∃ r, Frz h v r ∧ r = .b (rightM ps lat mat)) .ret 46 [.b x] h := fun x hx => finV1 (.inr rfl) rfl (.b _) (by rw [hx])
    refine if_le (fun g1 => ?_) (fun g1 => fin _ (by simp [rightM, show ¬ 1 ≤ ps.length by omega]))
    have k1 : 1 ≤ ps.length := by omega
    refine if_mk (fun g2 => if_mk (fun g3 => if_mk (fun g4 => fin _ ?_) (fun g4 => fin _ ?_)) (fun g3 => fin _ ?_)) (fun g2 => fin _ ?_)
    all_goals simp only [rightM, k1, k2, hp, decide_true, Bool.true_and, Bool.and_true, Bool.false_and, Bool.and_false, *]

/-! ### First -/
abbrev confL (use tmo : Int) (nl sv : V) : List V := [.i .i64 0, nl, .s [], .s [], .s [], .s [], .s [], .s [], .s [], .s [], .s [], .s [], nl, .i .i64 0, .i .i64 0, .i .i64 use, .i .i64 tmo, .i .i64 0, nl, nl, sv]
theorem conf_frz {h : Heap} {use tmo : Int} {nl nl' sv sv' : V} (hn : Frz h nl nl') (hs : Frz h sv sv') : FrzL h (confL use tmo nl sv) (confL use tmo nl' sv') :=
  .cons _ _ _ _ (.i _ _) (.cons _ _ _ _ hn (.cons _ _ _ _ (.s _) (.cons _ _ _ _ (.s _) (.cons _ _ _ _ (.s _) (.cons _ _ _ _ (.s _) (.cons _ _ _ _ (.s _) (.cons _ _ _ _ (.s _) (.cons _ _ _ _ (.s _) (.cons _ _ _ _ (.s _) (.cons _ _ _ _ (.s _) (.cons _ _ _ _ (.s _)
    (.cons _ _ _ _ hn (.cons _ _ _ _ (.i _ _) (.cons _ _ _ _ (.i _ _) (.cons _ _ _ _ (.i _ _) (.cons _ _ _ _ (.i _ _) (.cons _ _ _ _ (.i _ _) (.cons _ _ _ _ hn (.cons _ _ _ _ hn (.cons _ _ _ _ hs .nil))))))))))))))))))))
abbrev nilS : V := .sl none 0 (some 0) 0
abbrev nilTs : V := .ts [] 0 none
theorem nil_frz (h : Heap) : Frz h nilS nilTs := .sln _ _ _ (fun x hx => by cases hx)
def sides0 (n : Nat) : List V := (List.replicate n side0).flatten
def sidesT (n : Nat) : List V := (List.replicate n ([.b false, .b false, .b false, .i .i64 0, .i .i64 0, .s [], nilTs, .s [], nilTs, .s [], .s []] : List V)).flatten
theorem sides_frz (h : Heap) : ∀ n, FrzL h (sides0 n) (sidesT n)
  | 0 => .nil
  | n + 1 => by
    unfold sides0 sidesT
    rw [List.replicate_succ, List.replicate_succ, List.flatten_cons, List.flatten_cons]
    refine FrzL.append ?_ (sides_frz h n)
    exact .cons _ _ _ _ (.b _) (.cons _ _ _ _ (.b _) (.cons _ _ _ _ (.b _) (.cons _ _ _ _ (.i _ _) (.cons _ _ _ _ (.i _ _) (.cons _ _ _ _ (.s _) (.cons _ _ _ _ (nil_frz h) (.cons _ _ _ _ (.s _) (.cons _ _ _ _ (nil_frz h) (.cons _ _ _ _ (.s _) (.cons _ _ _ _ (.s _) .nil))))))))))
theorem sides0_len (n : Nat) : (sides0 n).length = n * 11 := by
  unfold sides0
  induction n with
  | zero => rfl
  | succ n ih => rw [List.replicate_succ, List.flatten_cons, List.length_append, ih]; show 11 + n * 11 = _; omega

theorem first24 (ins : List Ins) (ws : List Wat) (ps : List (Int × List Plc)) (lat mat : Int) (hr : rightM ps lat mat = true) (hl : ps.length ≤ 8) :
    PCon Tryz.Y 24 [.agg (modC ins ws ps lat mat)] (· = .tup [.agg (confL (-1) 5 nilTs (.ts (sidesT ps.length) ps.length none)), .i .i64 0]) := by
  refine tree_con Tryz.Yok (fn := Tryz.f24) (by kernel_rfl) (by kernel_rfl) rfl (fun K => f24_0 (row encIn ins) ins.length (row encWa ws) ws.length (row encPr ps) ps.length lat mat .empty K) rfl ?_
  have hmost : most = 1099511627776 := by decide
  refine ⟨_, right42 ins ws ps lat mat, if_mk (fun h => by rw [hr] at h; cases h) (fun _ => ⟨⟨by omega, by omega, by omega, by omega⟩, ?_⟩)⟩
  rw [Int.toNat_natCast]
  refine finV2 (.inr rfl) rfl (.agg _ _ (conf_frz (nil_frz _) ?_)) (.i _ _) rfl
  refine .sl _ _ _ _ _ (sides0 ps.length) true (sides0 ps.length) (sidesT ps.length) none (by simp; rfl) (by rw [List.drop_zero]; exact takeX_len (sides0_len _).symm) (fun x hx => by cases hx) (by decide) (sides_frz _ _)
theorem first24n (ins : List Ins) (ws : List Wat) (ps : List (Int × List Plc)) (lat mat : Int) (hr : rightM ps lat mat = false) :
    PCon Tryz.Y 24 [.agg (modC ins ws ps lat mat)] (· = .tup [.agg (confL 0 0 nilTs nilTs), .i .i64 5]) := by
  refine tree_con Tryz.Yok (fn := Tryz.f24) (by kernel_rfl) (by kernel_rfl) rfl (fun K => f24_0 (row encIn ins) ins.length (row encWa ws) ws.length (row encPr ps) ps.length lat mat .empty K) rfl ?_
  refine ⟨_, right42 ins ws ps lat mat, if_mk (fun _ => ?_) (fun h => by rw [hr] at h; cases h)⟩
  exact finV2 (.inr rfl) rfl (.agg _ _ (conf_frz (nil_frz _) (nil_frz _))) (.i _ _) rfl

theorem bright_con (ins : List Ins) (ws : List Wat) (ps : List (Int × List Plc)) (lat mat : Int) : PCon Tryz.Y 19 [.agg (modC ins ws ps lat mat)] (· = .b (rightM ps lat mat)) := by
  refine tree_con Tryz.Yok (fn := Tryz.f19) (by kernel_rfl) (by kernel_rfl) rfl (fun K => f19_0 (row encIn ins) ins.length (row encWa ws) ws.length (row encPr ps) ps.length lat mat .empty K) rfl ?_
  cases hr : rightM ps lat mat with
  | true =>
    have hl : ps.length ≤ 8 := by
      unfold rightM at hr
      simp only [Bool.and_eq_true, decide_eq_true_eq] at hr
      exact hr.1.1.1.1.1.2
    exact ⟨0, [], 0, none, [], [], [], [], [], [], [], [], [], [], [], 0, none, 0, 0, -1, 5, 0, [], 0, none, [], 0, none, sidesT ps.length, ps.length, none, 0, first24 ins ws ps lat mat hr hl, finV1 (.inr rfl) rfl (.b _) rfl⟩
  | false =>
    exact ⟨0, [], 0, none, [], [], [], [], [], [], [], [], [], [], [], 0, none, 0, 0, 0, 0, 0, [], 0, none, [], 0, none, [], 0, none, 5, first24n ins ws ps lat mat hr, finV1 (.inr rfl) rfl (.b _) rfl⟩
end Go.Y
