/- Bounds of a model, by contracts: numbers. -/
import Derived.Test.YtlnpmefmmiacaaaGreatHBound
namespace Go.Y
open Go.Proofs
set_option maxRecDepth 100000
set_option maxHeartbeats 1000000

def listS (ins : List Ins) : Prop := ∀ x ∈ ins, x.list.length ≤ 12
theorem longI_bd {op n : Int} {x : Ins} (h0 : 0 ≤ n) (h1 : n ≤ 12) (hx : x.list.length ≤ 12) : 0 ≤ longI op n x ∧ longI op n x ≤ 12 := by
  unfold longI
  split <;> omega
theorem long_fold (op : Int) : ∀ (ins : List Ins) (n : Int), 0 ≤ n → n ≤ 12 → listS ins → 0 ≤ ins.foldl (longI op) n ∧ ins.foldl (longI op) n ≤ 12
  | [], n, h0, h1, _ => ⟨h0, h1⟩
  | x :: r, n, h0, h1, hx => by
    obtain ⟨g0, g1⟩ := longI_bd (op := op) (x := x) h0 h1 (hx x (List.mem_cons_self ..))
    exact long_fold op r _ g0 g1 fun y hy => hx y (List.mem_cons_of_mem _ hy)
theorem longS_bd (ins : List Ins) (op : Int) (h : listS ins) : 0 ≤ longS ins op ∧ longS ins op ≤ 12 := long_fold op ins 0 (by omega) (by omega) h

theorem rightM_bd {ps : List (Int × List Plc)} {lat mat : Int} (h : rightM ps lat mat = true) : 1 ≤ ps.length ∧ ps.length ≤ 8 ∧ 0 ≤ lat ∧ lat ≤ 3 ∧ 1 ≤ mat ∧ mat ≤ 64 ∧ ∀ p ∈ ps, 1 ≤ p.1 ∧ p.1 ≤ 16 := by
  unfold rightM at h
  simp only [Bool.and_eq_true, decide_eq_true_eq, leI, List.all_eq_true] at h
  obtain ⟨⟨⟨⟨⟨⟨h1, h2⟩, h3⟩, h4⟩, h5⟩, h6⟩, h7⟩ := h
  refine ⟨h1, h2, h3, h4, h5, h6, fun p hp => ?_⟩
  have := h7 p hp
  unfold rightP peerS at this
  simp only [Bool.and_eq_true, leI, decide_eq_true_eq] at this
  exact ⟨this.1.1.1.1, this.1.1.1.2⟩

def per (lat : Int) (i : Nat) : Int := (13 + 2 * lat) * (i : Int)
theorem per_succ (lat : Int) (i : Nat) : per lat (i + 1) = per lat i + 13 + 2 * lat := by
  unfold per
  rw [Int.natCast_add, Int.mul_add]
  show _ + (13 + 2 * lat) * 1 = _
  omega
theorem per_bd {lat : Int} (h0 : 0 ≤ lat) (h1 : lat ≤ 3) : ∀ i : Nat, 0 ≤ per lat i ∧ per lat i ≤ 19 * (i : Int)
  | 0 => by unfold per; simp
  | i + 1 => by
    have := per_bd h0 h1 i
    rw [per_succ]
    omega
def numM (ins : List Ins) (ps : List (Int × List Plc)) (lat mat : Int) : Int := if rightM ps lat mat then 58 + longS ins 13 + longS ins 14 + per lat ps.length else 0
theorem num_con (ins : List Ins) (ws : List Wat) (ps : List (Int × List Plc)) (lat mat : Int) (hl : ins.length < 2 ^ 30) (hs : listS ins) : PCon Tryz.Y 7 [.agg (modC ins ws ps lat mat)] (· = .i .i64 (numM ins ps lat mat)) := by
  refine tree_con Tryz.Yok (fn := Tryz.f7) (by kernel_rfl) (by kernel_rfl) rfl (fun K => f7_0 (row encIn ins) ins.length (row encWa ws) ws.length (row encPr ps) ps.length lat mat .empty K) rfl ?_
  refine ⟨_, bright_con ins ws ps lat mat, if_mk (fun h => ?_) (fun h => ?_)⟩
  · have h : rightM ps lat mat = false := by simpa using h
    exact finV1 (.inr rfl) rfl (.i _ _) (by unfold numM; rw [h]; rfl)
  · have h : rightM ps lat mat = true := by simpa using h
    obtain ⟨g1, g2, g3, g4, g5, g6, -⟩ := rightM_bd h
    refine ⟨_, long_con ins ws 13 hl, _, long_con ins ws 14 hl, finV1 (.inr rfl) rfl (.i _ _) ?_⟩
    have b1 := longS_bd ins 13 hs
    have b2 := longS_bd ins 14 hs
    have b3 := per_bd g3 g4 ps.length
    have e : (11 + 2 * (lat + 1)) * (ps.length : Int) = per lat ps.length := by unfold per; congr 1; omega
    unfold numM
    rw [h, if_pos rfl]
    rw [wrap_ok (n := lat + 1) (by omega) (by omega), wrap_ok (n := 2 * (lat + 1)) (by omega) (by omega), wrap_ok (n := 11 + 2 * (lat + 1)) (by omega) (by omega), e]
    rw [wrap_ok (n := per lat ps.length) (by omega) (by omega)]
    rw [wrap_ok (n := 6 + longS ins 13) (by omega) (by omega), wrap_ok (n := 6 + longS ins 13 + 1) (by omega) (by omega), wrap_ok (n := 6 + longS ins 13 + 1 + longS ins 14) (by omega) (by omega)]
    rw [wrap_ok (n := 50 + (6 + longS ins 13 + 1 + longS ins 14)) (by omega) (by omega)]
    rw [wrap_ok (n := 50 + (6 + longS ins 13 + 1 + longS ins 14) + 1) (by omega) (by omega)]
    rw [wrap_ok (by omega) (by omega)]
    congr 1
    omega

def numB (ins : List Ins) : Int := 58 + longS ins 13 + longS ins 14
theorem rnum_con (ins : List Ins) (ws : List Wat) (ps : List (Int × List Plc)) (lat mat : Int) (hn : ∀ p ∈ ps, ∀ x ∈ p.2, x.name.length < 2 ^ 30) (hp : ps.length < 2 ^ 30) (hl : ins.length < 2 ^ 30) (hs : listS ins) : PCon Tryz.Y 8 [.agg (modC ins ws ps lat mat)] (· = .i .i64 (numM ins ps lat mat)) := by
  refine pcon_of Tryz.Yok (fn := Tryz.f8) (by kernel_rfl) (by kernel_rfl) rfl ?_
  refine pre_rule Tryz.Yok (n := 37) (loc := Tryz.Y.loc 8) 100 [1, 2, 3, 4] (by kernel_rfl) ?_
  refine Eq.mpr (f8_0 (row encIn ins) ins.length (row encWa ws) ws.length (row encPr ps) ps.length lat mat .empty _) ?_
  refine ⟨_, rright_con ins ws ps lat mat hn hp, if_mk (fun h => ?_) (fun h => ?_)⟩
  · have h : rightM ps lat mat = false := by simpa using h
    exact fin_at (.inr rfl) rfl ⟨_, .i _ _, by unfold numM; rw [h]; rfl⟩
  have h : rightM ps lat mat = true := by simpa using h
  obtain ⟨g1, g2, g3, g4, g5, g6, -⟩ := rightM_bd h
  have b1 := longS_bd ins 13 hs
  have b2 := longS_bd ins 14 hs
  refine ⟨_, rlong_con ins ws 13 hl, _, rlong_con ins ws 14 hl, ?_⟩
  rw [wrap_ok (n := 56 + longS ins 13) (by omega) (by omega), wrap_ok (n := 56 + longS ins 13 + 1) (by omega) (by omega), wrap_ok (n := 56 + longS ins 13 + 1 + longS ins 14) (by omega) (by omega), wrap_ok (n := 56 + longS ins 13 + 1 + longS ins 14 + 1) (by omega) (by omega)]
  have hb : 0 ≤ numB ins ∧ numB ins ≤ 100 := by unfold numB; omega
  refine ⟨rfl, loop2 [1, 3, 4] [1, 3, 4] rfl (by kernel_rfl) (fun m vs _ => ∃ (i : Nat) (x : Int), vs = [.lb (modC ins ws ps lat mat), .i .i64 x, .i .i64 (i : Nat)] ∧ x = numB ins + per lat i ∧ i ≤ ps.length ∧ m = ps.length - i) ps.length mk_len ⟨0, _, rfl, by unfold numB per; simp; omega, by omega, by omega⟩ ?_⟩
  rintro m vs h' ⟨i, x, rfl, hx, hi, rfl⟩
  have b3 := per_bd g3 g4 i
  refine pre_rule Tryz.Yok (n := 37) (loc := Tryz.Y.loc 8) 100 [1, 3, 4] (by kernel_rfl) ?_
  refine Eq.mpr (f8_1 ..) ?_
  refine if_lt_nat (fun hlt => ?_) (fun hge => ?_)
  · refine ⟨rfl, block2 (n := 37) [1, 3, 4] (by kernel_rfl) ?_⟩
    refine pre_rule Tryz.Yok (n := 37) (loc := Tryz.Y.loc 8) 100 [1, 3, 4, 5] (by kernel_rfl) ?_
    refine Eq.mpr (f8_2 ..) ?_
    rw [wrap_ok (n := x + 11) (by omega) (by omega)]
    refine ⟨rfl, loopE [1, 3, 4, 5] [1, 3, 4, 5] rfl (by kernel_rfl) (fun m vs _ => ∃ (j : Nat) (y : Int), vs = [.lb (modC ins ws ps lat mat), .i .i64 y, .i .i64 (i : Nat), .i .i64 (j : Nat)] ∧ y = x + 11 + 2 * (j : Int) ∧ (j : Int) ≤ lat + 1 ∧ m = lat.toNat + 1 - j) (lat.toNat + 1) mk_len ⟨0, _, rfl, by simp, by simp; omega, by omega⟩ ?_⟩
    rintro m vs h2 ⟨j, y, rfl, hy, hj, rfl⟩
    refine all_rule Tryz.Yok (loc := Tryz.Y.loc 8) 100 [1, 3, 4, 5] ?_
    refine Eq.mpr (f8_3 ..) ?_
    refine if_le (fun hjl => ?_) (fun hjg => ?_)
    · refine ⟨rfl, lat.toNat + 1 - (j + 1), by omega, j + 1, y + 2, ?_, by omega, by omega, rfl⟩
      rw [wrap_succ (by omega), wrap_ok (n := y + 2) (by omega) (by omega)]
      rfl
    · have ej : (j : Int) = lat + 1 := by omega
      simp only [RoundE]
      rw [if_pos (by kernel_rfl)]
      refine at_pick rfl ?_
      refine ⟨rfl, [1, 3, 4], rfl, ?_⟩
      refine all_rule Tryz.Yok (loc := Tryz.Y.loc 8) 100 [1, 3, 4] ?_
      refine Eq.mpr (f8_4 ..) ?_
      refine ⟨rfl, ps.length - (i + 1), by omega, i + 1, y, ?_, by rw [per_succ]; omega, by omega, rfl⟩
      rw [wrap_succ (by omega)]
      rfl
  · refine at_pick rfl (roundW_exit [3] (by kernel_rfl) rfl rfl ?_)
    refine end_rule Tryz.Yok (loc := Tryz.Y.loc 8) 100 [2] ?_
    refine Eq.mpr (f8_5 ..) ?_
    have ei : i = ps.length := by omega
    subst ei
    exact finV1 (.inr rfl) rfl (.i _ _) (by rw [hx]; unfold numM numB; rw [h]; rfl)

def sumB (mat : Int) : List (Int × List Plc) → Int
  | [] => 0
  | p :: r => 49 + p.1 + mat + sumB mat r
theorem sumB_snoc (mat : Int) : ∀ (l : List (Int × List Plc)) (p : Int × List Plc), sumB mat (l ++ [p]) = sumB mat l + (49 + p.1 + mat)
  | [], p => by simp [sumB]
  | q :: r, p => by rw [List.cons_append, sumB, sumB, sumB_snoc mat r p]; omega
theorem sumB_bd {mat : Int} (h1 : 1 ≤ mat) (h2 : mat ≤ 64) : ∀ l : List (Int × List Plc), (∀ p ∈ l, 1 ≤ p.1 ∧ p.1 ≤ 16) → 0 ≤ sumB mat l ∧ sumB mat l ≤ 129 * (l.length : Int)
  | [], _ => by simp [sumB]
  | p :: r, h => by
    have g1 := h p (List.mem_cons_self ..)
    have g2 := sumB_bd h1 h2 r fun q hq => h q (List.mem_cons_of_mem _ hq)
    rw [sumB, List.length_cons]
    omega
def bytesM (ins : List Ins) (ps : List (Int × List Plc)) (lat mat : Int) : Int := if rightM ps lat mat then 3 * numM ins ps lat mat + 960 + sumB mat ps else 0
theorem numM_bd (ins : List Ins) (ps : List (Int × List Plc)) (lat mat : Int) (hs : listS ins) : 0 ≤ numM ins ps lat mat ∧ numM ins ps lat mat ≤ 300 := by
  unfold numM
  split
  · rename_i h
    obtain ⟨g1, g2, g3, g4, g5, g6, -⟩ := rightM_bd h
    have b1 := longS_bd ins 13 hs
    have b2 := longS_bd ins 14 hs
    have b3 := per_bd g3 g4 ps.length
    omega
  · omega
theorem bytesM_bd (ins : List Ins) (ps : List (Int × List Plc)) (lat mat : Int) (hs : listS ins) : 0 ≤ bytesM ins ps lat mat ∧ bytesM ins ps lat mat ≤ 5000 := by
  unfold bytesM
  split
  · rename_i h
    obtain ⟨g1, g2, g3, g4, g5, g6, g7⟩ := rightM_bd h
    have b1 := numM_bd ins ps lat mat hs
    have b2 := sumB_bd g5 g6 ps g7
    omega
  · omega

theorem bytes_con (ins : List Ins) (ws : List Wat) (ps : List (Int × List Plc)) (lat mat : Int) (hl : ins.length < 2 ^ 30) (hs : listS ins) : PCon Tryz.Y 9 [.agg (modC ins ws ps lat mat)] (· = .i .i64 (bytesM ins ps lat mat)) := by
  refine pcon_of Tryz.Yok (fn := Tryz.f9) (by kernel_rfl) (by kernel_rfl) rfl ?_
  refine pre_rule Tryz.Yok (n := 31) (loc := Tryz.Y.loc 9) 100 [1, 2, 3, 15, 16, 17] (by kernel_rfl) ?_
  refine Eq.mpr (f9_0 (row encIn ins) ins.length (row encWa ws) ws.length (row encPr ps) ps.length lat mat .empty _) ?_
  refine ⟨_, bright_con ins ws ps lat mat, if_mk (fun h => ?_) (fun h => ?_)⟩
  · have h : rightM ps lat mat = false := by simpa using h
    exact fin_at (.inr rfl) rfl ⟨_, .i _ _, by unfold bytesM; rw [h]; rfl⟩
  have h : rightM ps lat mat = true := by simpa using h
  obtain ⟨g1, g2, g3, g4, g5, g6, g7⟩ := rightM_bd h
  have b1 := numM_bd ins ps lat mat hs
  refine ⟨_, num_con ins ws ps lat mat hl hs, ?_⟩
  rw [wrap_ok (n := 3 * numM ins ps lat mat) (by omega) (by omega), wrap_ok (n := 3 * numM ins ps lat mat + 640) (by omega) (by omega), wrap_ok (n := 3 * numM ins ps lat mat + 640 + 320) (by omega) (by omega)]
  refine ⟨rfl, loop2 [1, 3, 15, 16, 17] [1, 3, 15, 16, 17] rfl (by kernel_rfl) (fun m vs _ => ∃ (i : Nat) (x : Int), vs = [.lb (modC ins ws ps lat mat), .i .i64 x, lst encPr ps, .i .i64 ps.length, .i .i64 (i : Nat)] ∧ x = 3 * numM ins ps lat mat + 960 + sumB mat (ps.take i) ∧ i ≤ ps.length ∧ m = ps.length - i) ps.length mk_len ⟨0, _, rfl, by simp [sumB]; omega, by omega, by omega⟩ ?_⟩
  rintro m vs h' ⟨i, x, rfl, hx, hi, rfl⟩
  have b2 := sumB_bd g5 g6 (ps.take i) fun p hp => g7 p (List.mem_of_mem_take hp)
  have b3 : (ps.take i).length ≤ ps.length := by rw [List.length_take]; omega
  refine all_rule Tryz.Yok (loc := Tryz.Y.loc 9) 100 [1, 3, 15, 16, 17] ?_
  refine Eq.mpr (f9_1 ..) ?_
  refine if_lt_nat (fun hlt => ?_) (fun hge => ?_)
  · have b4 := g7 ps[i] (List.getElem_mem hlt)
    refine ⟨bnd_nat hlt, _, _, _, _, by rw [Int.toNat_natCast]; exact row_get (f := encPr) (k := 2) encPr_len hlt, ?_⟩
    refine ⟨rfl, ps.length - (i + 1), by omega, i + 1, x + (49 + ps[i].1 + mat), ?_, by rw [List.take_succ_eq_append_getElem hlt, sumB_snoc]; omega, by omega, rfl⟩
    rw [wrap_succ (by omega), wrap_ok (n := 49 + ps[i].1) (by omega) (by omega), wrap_ok (n := 49 + ps[i].1 + mat) (by omega) (by omega), wrap_ok (n := x + (49 + ps[i].1 + mat)) (by omega) (by omega)]
    rfl
  · refine roundW_exit [3] (by kernel_rfl) rfl rfl ?_
    refine end_rule Tryz.Yok (loc := Tryz.Y.loc 9) 100 [2] ?_
    refine Eq.mpr (f9_2 ..) ?_
    rw [List.take_of_length_le hge] at hx
    exact finV1 (.inr rfl) rfl (.i _ _) (by rw [hx]; unfold bytesM; rw [h]; rfl)

theorem pr_cap (ps : List (Int × List Plc)) {i : Nat} (hlt : i < ps.length) : takeX 1 (List.drop 0 (List.drop (((i : Nat) : Int).toNat * 2) (row encPr ps))) = some [.i .i64 ps[i].1] := by
  rw [Int.toNat_natCast, List.drop_zero, row_cons encPr_len ps hlt]; rfl

theorem rbytes_con (ins : List Ins) (ws : List Wat) (ps : List (Int × List Plc)) (lat mat : Int) (hn : ∀ p ∈ ps, ∀ x ∈ p.2, x.name.length < 2 ^ 30) (hp : ps.length < 2 ^ 30) (hl : ins.length < 2 ^ 30) (hs : listS ins) : PCon Tryz.Y 6 [.agg (modC ins ws ps lat mat)] (· = .i .i64 (bytesM ins ps lat mat)) := by
  refine pcon_of Tryz.Yok (fn := Tryz.f6) (by kernel_rfl) (by kernel_rfl) rfl ?_
  refine pre_rule Tryz.Yok (n := 34) (loc := Tryz.Y.loc 6) 100 [1, 2, 3, 4] (by kernel_rfl) ?_
  refine Eq.mpr (f6_0 (row encIn ins) ins.length (row encWa ws) ws.length (row encPr ps) ps.length lat mat .empty _) ?_
  refine ⟨_, rright_con ins ws ps lat mat hn hp, if_mk (fun h => ?_) (fun h => ?_)⟩
  · have h : rightM ps lat mat = false := by simpa using h
    exact fin_at (.inr rfl) rfl ⟨_, .i _ _, by unfold bytesM; rw [h]; rfl⟩
  have h : rightM ps lat mat = true := by simpa using h
  obtain ⟨g1, g2, g3, g4, g5, g6, g7⟩ := rightM_bd h
  have b1 := numM_bd ins ps lat mat hs
  refine ⟨_, rnum_con ins ws ps lat mat hn hp hl hs, ?_⟩
  rw [wrap_ok (n := 3 * numM ins ps lat mat) (by omega) (by omega), wrap_ok (n := 3 * numM ins ps lat mat + 640) (by omega) (by omega), wrap_ok (n := 3 * numM ins ps lat mat + 640 + 320) (by omega) (by omega)]
  refine ⟨rfl, loop2 [1, 3, 4] [1, 3, 4] rfl (by kernel_rfl) (fun m vs _ => ∃ (i : Nat) (x : Int), vs = [.lb (modC ins ws ps lat mat), .i .i64 x, .i .i64 (i : Nat)] ∧ x = 3 * numM ins ps lat mat + 960 + sumB mat (ps.take i) ∧ i ≤ ps.length ∧ m = ps.length - i) ps.length mk_len ⟨0, _, rfl, by simp [sumB]; omega, by omega, by omega⟩ ?_⟩
  rintro m vs h' ⟨i, x, rfl, hx, hi, rfl⟩
  have b2 := sumB_bd g5 g6 (ps.take i) fun p hp => g7 p (List.mem_of_mem_take hp)
  have b3 : (ps.take i).length ≤ ps.length := by rw [List.length_take]; omega
  refine all_rule Tryz.Yok (loc := Tryz.Y.loc 6) 100 [1, 3, 4] ?_
  refine Eq.mpr (f6_1 ..) ?_
  refine if_lt_nat (fun hlt => ?_) (fun hge => ?_)
  · have b4 := g7 ps[i] (List.getElem_mem hlt)
    refine ⟨bnd_nat hlt, _, pr_cap ps hlt, ?_⟩
    refine ⟨rfl, ps.length - (i + 1), by omega, i + 1, x + 1 + 48 + ps[i].1 + mat, ?_, by rw [List.take_succ_eq_append_getElem hlt, sumB_snoc]; omega, by omega, rfl⟩
    rw [wrap_succ (by omega), wrap_ok (n := x + 1) (by omega) (by omega), wrap_ok (n := x + 1 + 48) (by omega) (by omega), wrap_ok (n := x + 1 + 48 + ps[i].1) (by omega) (by omega), wrap_ok (n := x + 1 + 48 + ps[i].1 + mat) (by omega) (by omega)]
    rfl
  · refine roundW_exit [3] (by kernel_rfl) rfl rfl ?_
    refine end_rule Tryz.Yok (loc := Tryz.Y.loc 6) 100 [2] ?_
    refine Eq.mpr (f6_2 ..) ?_
    rw [List.take_of_length_le hge] at hx
    exact finV1 (.inr rfl) rfl (.i _ _) (by rw [hx]; unfold bytesM; rw [h]; rfl)

def bitsM (ins : List Ins) (ps : List (Int × List Plc)) (lat mat : Int) : Int := if bytesM ins ps lat mat = 0 then 0 else IntKind.i64.wrap (8 * IntKind.i64.wrap (bytesM ins ps lat mat + 1))
theorem bits_con (ins : List Ins) (ws : List Wat) (ps : List (Int × List Plc)) (lat mat : Int) (hl : ins.length < 2 ^ 30) (hs : listS ins) : PCon Tryz.Y 10 [.agg (modC ins ws ps lat mat)] (· = .i .i64 (bitsM ins ps lat mat)) := by
  refine tree_con Tryz.Yok (fn := Tryz.f10) (by kernel_rfl) (by kernel_rfl) rfl (fun K => f10_0 (row encIn ins) ins.length (row encWa ws) ws.length (row encPr ps) ps.length lat mat .empty K) rfl ?_
  refine ⟨_, bytes_con ins ws ps lat mat hl hs, if_mk (fun h => ?_) (fun h => ?_)⟩
  · have h : bytesM ins ps lat mat = 0 := by simpa using h
    exact finV1 (.inr rfl) rfl (.i _ _) (by unfold bitsM; rw [if_pos h])
  · have h : bytesM ins ps lat mat ≠ 0 := by simpa using h
    exact finV1 (.inr rfl) rfl (.i _ _) (by unfold bitsM; rw [if_neg h])
end Go.Y
