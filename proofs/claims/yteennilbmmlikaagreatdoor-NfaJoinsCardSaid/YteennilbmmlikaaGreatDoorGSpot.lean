/- nfa.anchored and nfa.spots, by contracts. -/
import Derived.Test.YteennilbmmlikaaGreatDoorGMk
import Derived.Test.YteennilbmmlikaaGreatDoorYTryzP
import Derived.Test.YteennilbmmlikaaGreatDoorYLoop
namespace Go.Y
open Go.Proofs
set_option maxRecDepth 100000
set_option maxHeartbeats 1000000

theorem re_row' {kids : List Re} {i : Nat} (hi : i < kids.length) : takeX 9 (List.drop (((i : Nat) : Int).toNat * 9) (row encRe kids)) = some (encRe kids[i]) := by
  rw [Int.toNat_natCast]; exact row_get (f := encRe) (k := 9) encRe_len hi
theorem anchs_any : ∀ l : List Re, anchB.anchs l = l.any anchB
  | [] => by rw [anchB.anchs]; rfl
  | r :: l => by rw [anchB.anchs, anchs_any l]; rfl

theorem idx117 {B : Nat} (hB : B < 2 ^ 20) {kids : List Re} (hl : kids.length ≤ B) (ih : ∀ x ∈ kids, PCon Tryz.Y 30 [.agg (encRe x)] (· = .b (anchB x))) (h : Heap) :
    Con Tryz.Y 117 [lst encRe kids, .fn (.func 30) [] []] h fun v h' => ∃ n : Int, v = .i .i64 n ∧ leI 0 n = kids.any anchB ∧ h' = h := by
  refine conz_of Tryz.Yok (fn := Tryz.f117) (by kernel_rfl) (by kernel_rfl) (pre_tree Tryz.Yok 19 (fun K => f117_0 (row encRe kids) kids.length h K) rfl (by kernel_rfl) ?_)
  refine ⟨rfl, loop2 [0, 1, 7, 8] [0, 1, 4, 7, 8] rfl (by kernel_rfl) (fun m vs g => ∃ i : Nat, vs = [lst encRe kids, .fn (.func 30) [] [], .i .i64 kids.length, .i .i64 (i : Nat)] ∧ i ≤ kids.length ∧ m = kids.length - i ∧ (kids.take i).any anchB = false ∧ g = h) kids.length mk_len ⟨0, rfl, by omega, by omega, by simp, rfl⟩ ?_⟩
  rintro m vs g ⟨i, rfl, hi, rfl, ha, rfl⟩
  refine all_tree Tryz.Yok (fun K => f117_1 (row encRe kids) kids.length (i : Nat) g K) rfl ?_
  refine if_lt_nat (fun hlt => ?_) (fun hge => ?_)
  · have hc := ih kids[i] (List.getElem_mem hlt)
    have hrow := re_row' hlt
    have hsn : (kids.take (i + 1)).any anchB = anchB kids[i] := by rw [List.take_succ_eq_append_getElem hlt, List.any_append, ha]; simp
    have hmem : anchB kids[i] = true → kids.any anchB = true := fun e => List.any_eq_true.2 ⟨_, List.getElem_mem hlt, e⟩
    generalize kids[i] = x at hc hrow hsn hmem
    obtain ⟨xk, xs, xl, xlo, xhi, xn⟩ := x
    rw [encRe_mk] at hc hrow
    refine ⟨bnd_nat hlt, _, _, _, _, _, _, _, _, _, _, _, hrow, _, hc, if_mk (fun hb => ?_) (fun hb => ?_)⟩
    · exact fin_at (.inr rfl) rfl (AfterZ.now ⟨_, rfl, by rw [hmem hb]; simp [leI], rfl⟩)
    · exact ⟨rfl, kids.length - (i + 1), by omega, i + 1, by rw [wrap_succ (by omega)]; rfl, by omega, rfl, by rw [hsn, hb], rfl⟩
  · have he : i = kids.length := by omega
    subst he
    rw [List.take_length] at ha
    refine roundW_exit [] (by kernel_rfl) rfl rfl ?_
    refine end_tree Tryz.Yok (fun K => f117_2 g K) rfl ?_
    exact finC (.inr rfl) rfl (.now ⟨-1, rfl, by rw [ha]; rfl, rfl⟩)

structure AX (r : Re) : Prop where
  c : PCon Tryz.Y 30 [.agg (encRe r)] (· = .b (anchB r))
theorem anch_one {B : Nat} (hB : B < 2 ^ 20) {k : Int} {s : S4} {kids : List Re} {lo hi n : Int} (hl : kids.length ≤ B) (ih : ∀ x ∈ kids, PCon Tryz.Y 30 [.agg (encRe x)] (· = .b (anchB x))) : PCon Tryz.Y 30 [.agg (encRe (.mk k s kids lo hi n))] (· = .b (anchB (.mk k s kids lo hi n))) := by
  rw [encRe_mk, anchB, anchs_any]
  refine tree_con Tryz.Yok (fn := Tryz.f30) (by kernel_rfl) (by kernel_rfl) rfl (fun K => f30_0 k s.1 s.2.1 s.2.2.1 s.2.2.2 (row encRe kids) kids.length lo hi n .empty K) rfl ?_
  refine if_mk (fun h2 => finV1 (.inr rfl) rfl (.b _) (by rw [h2]; rfl)) (fun h2 => if_mk (fun h3 => finV1 (.inr rfl) rfl (.b _) (by rw [h2, h3]; rfl)) (fun h3 => ?_))
  have c70 : Con Tryz.Y 70 [lst encRe kids, .fn (.func 30) [] []] .empty fun v h' => v = .b (kids.any anchB) := by
    refine conz_of Tryz.Yok (fn := Tryz.f70) (by kernel_rfl) (by kernel_rfl) (end_tree Tryz.Yok (fun K => f70_0 (row encRe kids) kids.length .empty K) rfl ?_)
    exact (idx117 hB hl ih .empty).mono fun v h' ⟨m, hv, hm, _⟩ => ⟨m, hv, finC (.inr rfl) rfl (.now (by rw [hm]; rfl))⟩
  exact c70.mono fun v h' hv => ⟨_, hv, finV1 (.inr rfl) rfl (.b _) (by rw [h2, h3]; rfl)⟩
mutual
theorem anchAX {B : Nat} (hB : B < 2 ^ 20) : ∀ r : Re, wfRe B r → AX r
  | .mk k s kids lo hi n, h => by
    rw [wfRe] at h
    have ih := anchsAX hB kids h.2.2.2
    exact ⟨anch_one hB h.2.2.1 fun x hx => (ih x hx).c⟩
theorem anchsAX {B : Nat} (hB : B < 2 ^ 20) : ∀ l : List Re, wfRe.wfRes B l → ∀ x ∈ l, AX x
  | [], _, x, hx => by cases hx
  | r :: l, h, x, hx => by
    rw [wfRe.wfRes] at h
    have h1 := anchAX hB r h.1
    have h2 := anchsAX hB l h.2
    rcases List.mem_cons.1 hx with e | hx
    · rw [e]; exact h1
    · exact h2 x hx
end

theorem spots_snoc (x : Re) : ∀ (l : List Re) (n : Nat), spotN.spots (l ++ [x]) n = min (spotN.spots l n + spotN x) 301
  | [], n => by rw [List.nil_append, spotN.spots, spotN.spots, spotN.spots]
  | r :: l, n => by rw [List.cons_append, spotN.spots, spots_snoc x l, spotN.spots]
structure SX (r : Re) : Prop where
  c : PCon Tryz.Y 31 [.agg (encRe r)] (· = .i .i64 (spotN r : Nat))
theorem minV (a b : Nat) : ((fun (x y : Int) => if y < x then y else x) (a : Int) (b : Int)) = ((min a b : Nat) : Int) := by
  show (if (b : Int) < a then (b : Int) else a) = _
  split <;> omega
theorem spot_one {B : Nat} (hB : B < 2 ^ 20) {k : Int} {s : S4} {kids : List Re} {lo hi n : Int} (hwf : wfRe B (.mk k s kids lo hi n)) (ih : ∀ x ∈ kids, PCon Tryz.Y 31 [.agg (encRe x)] (· = .i .i64 (spotN x : Nat))) : PCon Tryz.Y 31 [.agg (encRe (.mk k s kids lo hi n))] (· = .i .i64 (spotN (.mk k s kids lo hi n) : Nat)) := by
  have hw := hwf
  rw [wfRe] at hw
  obtain ⟨h1, h2, h3, h4⟩ := hw
  have h6 : k = 6 → PCon Tryz.Y 71 [.agg (encRe (.mk k s kids lo hi n))] (· = .i .i64 (timesF lo hi : Nat)) ∧ timesF lo hi ≤ 8 := fun e => by
    obtain ⟨g1, g2, g3, g4⟩ := h1 e
    exact ⟨times_con k s kids lo hi n g1, times_le g2 (by omega)⟩
  have sb : ∀ i m, m ≤ 301 → spotN.spots (kids.take i) m ≤ 301 := fun i m hm => (spots_cnt (kids.take i) (wfs_take h4 i) m hm).1
  rw [encRe_mk] at h6 ⊢
  refine pcon_of Tryz.Yok (fn := Tryz.f31) (by kernel_rfl) (by kernel_rfl) rfl ?_
  refine pre_tree Tryz.Yok 33 (fun K => f31_0 k s.1 s.2.1 s.2.2.1 s.2.2.2 (row encRe kids) kids.length lo hi n .empty K) rfl (by kernel_rfl) ?_
  have main : ∀ n0 : Nat, n0 = (if k = 1 then 1 else 0) → PreV Tryz.Y 33 [1, 3, 12, 13, 14] (post (flat (bodyOf Tryz.f31))) (FinS Tryz.Y Tryz.f31 fun v h => ∃ r, Frz h v r ∧ r = .i .i64 (spotN (.mk k s kids lo hi n) : Nat)) .normal 33 [.lb [.i .i64 k, .i .u64 s.1, .i .u64 s.2.1, .i .u64 s.2.2.1, .i .u64 s.2.2.2, lst encRe kids, .i .i64 lo, .i .i64 hi, .i .i64 n], .i .i64 (n0 : Nat), lst encRe kids, .i .i64 kids.length, .i .i64 0] .empty := by
    intro n0 hn0
    have hn1 : n0 ≤ 301 := by rw [hn0]; split <;> omega
    refine ⟨rfl, loop2 [1, 3, 12, 13, 14] [1, 3, 12, 13, 14] rfl (by kernel_rfl) (fun m vs g => ∃ i : Nat, vs = [.lb [.i .i64 k, .i .u64 s.1, .i .u64 s.2.1, .i .u64 s.2.2.1, .i .u64 s.2.2.2, lst encRe kids, .i .i64 lo, .i .i64 hi, .i .i64 n], .i .i64 (spotN.spots (kids.take i) n0 : Nat), lst encRe kids, .i .i64 kids.length, .i .i64 (i : Nat)] ∧ i ≤ kids.length ∧ m = kids.length - i) kids.length mk_len ⟨0, by rw [List.take_zero, spotN.spots]; rfl, by omega, by omega⟩ ?_⟩
    rintro m vs g ⟨i, rfl, hle, rfl⟩
    refine all_tree Tryz.Yok (fun K => f31_1 k s.1 s.2.1 s.2.2.1 s.2.2.2 (row encRe kids) kids.length lo hi n (spotN.spots (kids.take i) n0 : Nat) (i : Nat) g K) rfl ?_
    refine if_lt_nat (fun hlt => ?_) (fun hge => ?_)
    · have hc := ih kids[i] (List.getElem_mem hlt)
      have hrow := re_row' hlt
      have hx := (spot_cnt kids[i] (wfs_mem h4 _ (List.getElem_mem hlt))).1
      have hsn : spotN.spots (kids.take (i + 1)) n0 = min (spotN.spots (kids.take i) n0 + spotN kids[i]) 301 := by rw [List.take_succ_eq_append_getElem hlt, spots_snoc]
      have hsb := sb i n0 hn1
      generalize kids[i] = x at hc hrow hx hsn
      obtain ⟨xk, xs, xl, xlo, xhi, xn⟩ := x
      rw [encRe_mk] at hc hrow
      refine ⟨bnd_nat hlt, _, _, _, _, _, _, _, _, _, _, _, hrow, _, hc, rfl, kids.length - (i + 1), by omega, i + 1, ?_, by omega, rfl⟩
      rw [wrap_succ (by omega), hsn, wrap_ok (n := ((spotN.spots (kids.take i) n0 : Nat) : Int) + (spotN (.mk xk xs xl xlo xhi xn) : Nat)) (by omega) (by omega)]
      have := minV (spotN.spots (kids.take i) n0 + spotN (.mk xk xs xl xlo xhi xn)) 301
      rw [← this]; rfl
    · have he : i = kids.length := by omega
      subst he
      have hsb := sb kids.length n0 hn1
      rw [List.take_length] at hsb ⊢
      refine roundW_exit [1, 3] (by kernel_rfl) rfl rfl ?_
      refine end_tree Tryz.Yok (fun K => f31_2 k s.1 s.2.1 s.2.2.1 s.2.2.2 (row encRe kids) kids.length lo hi n (spotN.spots kids n0 : Nat) g K) rfl ?_
      refine if_mk (fun e => ?_) (fun e => finV1 (.inr rfl) rfl (.i _ _) ?_)
      · have e : k = 6 := by simpa using e
        obtain ⟨c6, t6⟩ := h6 e
        refine ⟨_, c6, finV1 (.inr rfl) rfl (.i _ _) ?_⟩
        have hb : spotN.spots kids n0 * timesF lo hi ≤ 301 * 8 := Nat.mul_le_mul hsb t6
        have ew : IntKind.i64.wrap (((spotN.spots kids n0 : Nat) : Int) * ((timesF lo hi : Nat) : Int)) = ((spotN.spots kids n0 * timesF lo hi : Nat) : Int) := by
          rw [wrap_ok (by have : (0 : Int) ≤ ((spotN.spots kids n0 * timesF lo hi : Nat) : Int) := by omega
                          rw [← Int.natCast_mul]; omega) (by rw [← Int.natCast_mul]; omega), Int.natCast_mul]
        rw [ew, spotN, if_pos e]
        have := minV (spotN.spots kids n0 * timesF lo hi) 301
        rw [← hn0, ← this]; rfl
      · have e : k ≠ 6 := by simpa using e
        rw [spotN, if_neg e]
        have := minV (spotN.spots kids n0) 301
        rw [← hn0, ← this]; rfl
  exact if_mk (fun e => main 1 (by rw [if_pos (by simpa using e)])) (fun e => main 0 (by rw [if_neg (by simpa using e)]))
mutual
theorem spotSX {B : Nat} (hB : B < 2 ^ 20) : ∀ r : Re, wfRe B r → SX r
  | .mk k s kids lo hi n, h => by
    have hw := h
    rw [wfRe] at hw
    have ih := spotsSX hB kids hw.2.2.2
    exact ⟨spot_one hB h fun x hx => (ih x hx).c⟩
theorem spotsSX {B : Nat} (hB : B < 2 ^ 20) : ∀ l : List Re, wfRe.wfRes B l → ∀ x ∈ l, SX x
  | [], _, x, hx => by cases hx
  | r :: l, h, x, hx => by
    rw [wfRe.wfRes] at h
    have h1 := spotSX hB r h.1
    have h2 := spotsSX hB l h.2
    rcases List.mem_cons.1 hx with e | hx
    · rw [e]; exact h1
    · exact h2 x hx
end
end Go.Y

/- What the pieces of functions come to: printed by program. -/
namespace Go.Y
open Go.Proofs
set_option maxRecDepth 100000
set_option maxHeartbeats 0
theorem f29_0 (k : Int) (s0 : Int) (s1 : Int) (s2 : Int) (s3 : Int) (kc : List V) (kn : Nat) (lo : Int) (hi : Int) (gn : Int) (h : Heap) (K : KT) : (codeP Tryz.Y (Tryz.Y.loc 29) 100 ((flat (bodyOf Tryz.f29))) ⟨(V.agg [V.i .i64 k, V.i .u64 s0, V.i .u64 s1, V.i .u64 s2, V.i .u64 s3, V.ts kc kn none, V.i .i64 lo, V.i .i64 hi, V.i .i64 gn] :: List.replicate 11 .undef), [], h⟩ (VQ [2] K)) =
  (∃ (s : List UInt8),
  ∃ (n : Int),
 (PCon Tryz.Y (69 : Nat)
 [V.agg
 [V.i IntKind.i64 k, V.i IntKind.u64 s0, V.i IntKind.u64 s1, V.i IntKind.u64 s2, V.i IntKind.u64 s3,
 V.ts kc kn none, V.i IntKind.i64 lo, V.i IntKind.i64 hi, V.i IntKind.i64 gn]]
 fun (v : V) => v = V.tup [V.s s, V.i IntKind.i64 n]) ∧
 K Out.ret 12 [V.b (n == (0 : Int))] h) := by kernel_rfl
theorem f69_0 (k : Int) (s0 : Int) (s1 : Int) (s2 : Int) (s3 : Int) (kc : List V) (kn : Nat) (lo : Int) (hi : Int) (gn : Int) (h : Heap) (K : KT) : (codeP Tryz.Y (Tryz.Y.loc 69) 100 ((flat (bodyOf Tryz.f69))) ⟨(V.agg [V.i .i64 k, V.i .u64 s0, V.i .u64 s1, V.i .u64 s2, V.i .u64 s3, V.ts kc kn none, V.i .i64 lo, V.i .i64 hi, V.i .i64 gn] :: List.replicate 13 .undef), [], h⟩ (VQ [2, 3] K)) =
  (Con Tryz.Y (113 : Nat)
  [V.p (some (h.nx, 0)),
 V.agg
 [V.i IntKind.i64 k, V.i IntKind.u64 s0, V.i IntKind.u64 s1, V.i IntKind.u64 s2, V.i IntKind.u64 s3,
 V.ts kc kn none, V.i IntKind.i64 lo, V.i IntKind.i64 hi, V.i IntKind.i64 gn],
 V.i IntKind.i64 (0 : Int), V.i IntKind.i64 (0 : Int)]
  (h.pushT (Tryz.Y.tag (178 : Nat)) (YObj.arr [V.i IntKind.i64 (0 : Int)] true)) fun (v : V) (h' : Heap) =>
  ∃ (b : Bool),
 v = V.b b ∧
 If (!b) (K Out.ret 14 [V.s #[].toList, V.i IntKind.i64 (5 : Int)] h')
 (Con Tryz.Y (114 : Nat)
 [V.p (some (h'.nx, 0)),
 V.agg
 [V.i IntKind.i64 k, V.i IntKind.u64 s0, V.i IntKind.u64 s1, V.i IntKind.u64 s2, V.i IntKind.u64 s3,
 V.ts kc kn none, V.i IntKind.i64 lo, V.i IntKind.i64 hi, V.i IntKind.i64 gn]]
 (h'.pushT (Tryz.Y.tag (182 : Nat)) (YObj.arr [V.p none, V.sl none (0 : Nat) (some (0 : Nat)) (0 : Nat)] true))
 fun (v : V) (h'_1 : Heap) =>
 v = V.tup [] ∧
 ∃ (n : Int),
 RCon Tryz.Y (115 : Nat) [V.p (some (h'.nx, 0))] h'_1 (V.i IntKind.i64 n) ∧
 If (ltI (200 : Int) n) (K Out.ret 14 [V.s #[].toList, V.i IntKind.i64 (2 : Int)] h'_1)
 (Con Tryz.Y (116 : Nat) [V.p (some (h'.nx, 0))] h'_1 fun (v : V) (h' : Heap) =>
 ∃ (s : List UInt8), v = V.s s ∧ K Out.ret 14 [V.s s, V.i IntKind.i64 (0 : Int)] h'))) := by kernel_rfl
theorem f113_0 (id : Nat) (k : Int) (s0 : Int) (s1 : Int) (s2 : Int) (s3 : Int) (kc : List V) (kn : Nat) (lo : Int) (hi : Int) (gn : Int) (lv : Int) (dp : Int) (h : Heap) (K : KT) : (codeP Tryz.Y (Tryz.Y.loc 113) 100 ((flat (bodyOf Tryz.f113))) ⟨(V.p (some (id, 0)) :: V.agg [V.i .i64 k, V.i .u64 s0, V.i .u64 s1, V.i .u64 s2, V.i .u64 s3, V.ts kc kn none, V.i .i64 lo, V.i .i64 hi, V.i .i64 gn] :: V.i .i64 lv :: V.i .i64 dp :: List.replicate 123 .undef), [], h⟩ (VQ [8] K)) =
  (∃ (b : Bool),
  (PCon Tryz.Y (143 : Nat)
 [V.agg
 [V.i IntKind.i64 k, V.i IntKind.u64 s0, V.i IntKind.u64 s1, V.i IntKind.u64 s2, V.i IntKind.u64 s3,
 V.ts kc kn none, V.i IntKind.i64 lo, V.i IntKind.i64 hi, V.i IntKind.i64 gn]]
 fun (v : V) => v = V.b b) ∧
 If (!b) (K Out.ret 127 [V.b false] h)
 (If (k == (0 : Int))
 (If (leI lv (1 : Int)) (K Out.ret 127 [V.b ((↑kn : Int) == (0 : Int))] h)
 (K Out.ret 127 [V.b false] h))
 (If (k == (1 : Int)) (K Out.ret 127 [V.b ((↑kn : Int) == (0 : Int))] h)
 (If (k == (2 : Int))
 (If (leI lv (2 : Int)) (K Out.ret 127 [V.b ((↑kn : Int) == (0 : Int))] h)
 (K Out.ret 127 [V.b false] h))
 (If (k == (3 : Int))
 (If (leI lv (2 : Int)) (K Out.ret 127 [V.b ((↑kn : Int) == (0 : Int))] h)
 (K Out.ret 127 [V.b false] h))
 (If (k == (4 : Int))
 (If (leI lv (1 : Int))
 (If (ltI (1 : Int) (↑kn : Int))
 (Con Tryz.Y (144 : Nat)
 [V.p (some (id, 0)), V.ts kc kn none, V.i IntKind.i64 (2 : Int), V.i IntKind.i64 dp] h
 fun (v : V) (h' : Heap) => ∃ (b : Bool), v = V.b b ∧ K Out.ret 127 [V.b b] h')
 (K Out.ret 127 [V.b false] h))
 (K Out.ret 127 [V.b false] h))
 (If (k == (5 : Int))
 (If (lv == (0 : Int))
 (If (ltI (1 : Int) (↑kn : Int))
 (Con Tryz.Y (144 : Nat)
 [V.p (some (id, 0)), V.ts kc kn none, V.i IntKind.i64 (1 : Int), V.i IntKind.i64 dp] h
 fun (v : V) (h' : Heap) => ∃ (b : Bool), v = V.b b ∧ K Out.ret 127 [V.b b] h')
 (K Out.ret 127 [V.b false] h))
 (K Out.ret 127 [V.b false] h))
 (If (k == (6 : Int))
 (If (leI (0 : Int) lo)
 (If (leI lo (8 : Int))
 (If (hi == (-1 : Int))
 (If (leI lv (2 : Int))
 (If ((↑kn : Int) == (1 : Int))
 (Con Tryz.Y (144 : Nat)
 [V.p (some (id, 0)), V.ts kc kn none, V.i IntKind.i64 (3 : Int),
 V.i IntKind.i64 dp]
 h fun (v : V) (h' : Heap) =>
 ∃ (b : Bool), v = V.b b ∧ K Out.ret 127 [V.b b] h')
 (K Out.ret 127 [V.b false] h))
 (K Out.ret 127 [V.b false] h))
 (If (leI lo hi)
 (If (leI lv (2 : Int))
 (If (leI hi (8 : Int))
 (If ((↑kn : Int) == (1 : Int))
 (Con Tryz.Y (144 : Nat)
 [V.p (some (id, 0)), V.ts kc kn none, V.i IntKind.i64 (3 : Int),
 V.i IntKind.i64 dp]
 h fun (v : V) (h' : Heap) =>
 ∃ (b : Bool), v = V.b b ∧ K Out.ret 127 [V.b b] h')
 (K Out.ret 127 [V.b false] h))
 (K Out.ret 127 [V.b false] h))
 (K Out.ret 127 [V.b false] h))
 (If (leI lv (2 : Int)) (K Out.ret 127 [V.b false] h)
 (K Out.ret 127 [V.b false] h))))
 (If (leI lv (2 : Int)) (K Out.ret 127 [V.b false] h)
 (K Out.ret 127 [V.b false] h)))
 (If (leI lv (2 : Int)) (K Out.ret 127 [V.b false] h)
 (K Out.ret 127 [V.b false] h)))
 (If (k == (7 : Int))
 (Con Tryz.Y (145 : Nat)
 [V.p (some (id, 0)),
 V.agg
 [V.i IntKind.i64 k, V.i IntKind.u64 s0, V.i IntKind.u64 s1, V.i IntKind.u64 s2,
 V.i IntKind.u64 s3, V.ts kc kn none, V.i IntKind.i64 lo, V.i IntKind.i64 hi,
 V.i IntKind.i64 gn],
 V.i IntKind.i64 dp]
 h fun (v : V) (h' : Heap) => ∃ (b : Bool), v = V.b b ∧ K Out.ret 127 [V.b b] h')
 (K Out.ret 127 [V.b false] h)))))))))) := by kernel_rfl
theorem f143_0 (k : Int) (s0 : Int) (s1 : Int) (s2 : Int) (s3 : Int) (kc : List V) (kn : Nat) (lo : Int) (hi : Int) (gn : Int) (h : Heap) (K : KT) : (codeP Tryz.Y (Tryz.Y.loc 143) 100 ((flat (bodyOf Tryz.f143))) ⟨(V.agg [V.i .i64 k, V.i .u64 s0, V.i .u64 s1, V.i .u64 s2, V.i .u64 s3, V.ts kc kn none, V.i .i64 lo, V.i .i64 hi, V.i .i64 gn] :: List.replicate 36 .undef), [], h⟩ (VQ [2] K)) =
  (If (k == (1 : Int))
  (If (k == (6 : Int))
 (If (k == (7 : Int)) (K Out.ret 37 [V.b true] h) (K Out.ret 37 [V.b (gn == (0 : Int))] h))
 (If (lo == (0 : Int))
 (If (hi == (0 : Int))
 (If (k == (7 : Int)) (K Out.ret 37 [V.b true] h) (K Out.ret 37 [V.b (gn == (0 : Int))] h))
 (K Out.ret 37 [V.b false] h))
 (K Out.ret 37 [V.b false] h)))
  (If (s0 == (0 : Int) && (s1 == (0 : Int) && (s2 == (0 : Int) && (s3 == (0 : Int) && true))))
 (If (k == (6 : Int))
 (If (k == (7 : Int)) (K Out.ret 37 [V.b true] h) (K Out.ret 37 [V.b (gn == (0 : Int))] h))
 (If (lo == (0 : Int))
 (If (hi == (0 : Int))
 (If (k == (7 : Int)) (K Out.ret 37 [V.b true] h) (K Out.ret 37 [V.b (gn == (0 : Int))] h))
 (K Out.ret 37 [V.b false] h))
 (K Out.ret 37 [V.b false] h)))
 (K Out.ret 37 [V.b false] h))) := by kernel_rfl
theorem f144_0 (id : Nat) (c : List V) (n : Nat) (lv : Int) (dp : Int) (h : Heap) (K : KT) : (codeP Tryz.Y (Tryz.Y.loc 144) 100 (pre (flat (bodyOf Tryz.f144))) ⟨(V.p (some (id, 0)) :: V.ts c n none :: V.i .i64 lv :: V.i .i64 dp :: List.replicate 20 .undef), [], h⟩ (VQ [0, 2, 3, 11, 12, 13] K)) =
  (K Out.normal 24
  [V.p (some (id, 0)), V.i IntKind.i64 lv, V.i IntKind.i64 dp, V.ts c n none, V.i IntKind.i64 (↑n : Int),
 V.i IntKind.i64 (0 : Int)]
  h) := by kernel_rfl
theorem f144_1 (id : Nat) (c : List V) (n : Nat) (lv : Int) (dp : Int) (x13 : Int) (h : Heap) (K : KT) : (codeP Tryz.Y (Tryz.Y.loc 144) 100 ((flat (loopB (post (flat (bodyOf Tryz.f144)))))) ⟨mk 24 (([0, 2, 3, 11, 12, 13] : List Nat).zip [V.p (some (id, 0)), V.i IntKind.i64 lv, V.i IntKind.i64 dp, V.ts c n none, V.i IntKind.i64 (↑n : Int), V.i IntKind.i64 x13]), [], h⟩ (VQ [0, 2, 3, 8, 11, 12, 13] K)) =
  (If (ltI x13 (↑n : Int))
  (((0 : Int) ≤ x13 ∧ x13 < (↑n : Int)) ∧
 ∃ (n_1 : Int),
 ∃ (n_2 : Int),
 ∃ (n_3 : Int),
 ∃ (n_4 : Int),
 ∃ (n_5 : Int),
 ∃ (cs : List V),
 ∃ (l : Nat),
 ∃ (c_1 : Option Nat),
 ∃ (n_6 : Int),
 ∃ (n_7 : Int),
 ∃ (n_8 : Int),
 takeX 9 (List.drop (x13.toNat * (9 : Nat)) c) =
 some
 [V.i IntKind.i64 n_1, V.i IntKind.u64 n_2, V.i IntKind.u64 n_3, V.i IntKind.u64 n_4,
 V.i IntKind.u64 n_5, V.ts cs l c_1, V.i IntKind.i64 n_6, V.i IntKind.i64 n_7,
 V.i IntKind.i64 n_8] ∧
 Con Tryz.Y (113 : Nat)
 [V.p (some (id, 0)),
 V.agg
 [V.i IntKind.i64 n_1, V.i IntKind.u64 n_2, V.i IntKind.u64 n_3, V.i IntKind.u64 n_4,
 V.i IntKind.u64 n_5, V.ts cs l c_1, V.i IntKind.i64 n_6, V.i IntKind.i64 n_7,
 V.i IntKind.i64 n_8],
 V.i IntKind.i64 lv, V.i IntKind.i64 dp]
 h fun (v : V) (h' : Heap) =>
 ∃ (b : Bool),
 v = V.b b ∧
 If (!b)
 (K Out.ret 24
 [V.p (some (id, 0)), V.i IntKind.i64 lv, V.i IntKind.i64 dp, V.b false,
 V.ts c n none, V.i IntKind.i64 (↑n : Int), V.i IntKind.i64 x13]
 h')
 (K Out.normal 24
 [V.p (some (id, 0)), V.i IntKind.i64 lv, V.i IntKind.i64 dp, V.undef,
 V.ts c n none, V.i IntKind.i64 (↑n : Int),
 V.i IntKind.i64 (IntKind.i64.wrap (x13 + (1 : Int)))]
 h'))
  (K (Out.exit 0) 24
 [V.p (some (id, 0)), V.i IntKind.i64 lv, V.i IntKind.i64 dp, V.undef, V.ts c n none,
 V.i IntKind.i64 (↑n : Int), V.i IntKind.i64 x13]
 h)) := by kernel_rfl
theorem f144_2  (h : Heap) (K : KT) : (codeP Tryz.Y (Tryz.Y.loc 144) 100 (((post (flat (bodyOf Tryz.f144))).drop 1)) ⟨mk 24 (([] : List Nat).zip []), [], h⟩ (VQ [8] K)) =
  (K Out.ret 24 [V.b true] h) := by kernel_rfl
theorem f145_0 (id : Nat) (k : Int) (s0 : Int) (s1 : Int) (s2 : Int) (s3 : Int) (kc : List V) (kn : Nat) (lo : Int) (hi : Int) (gn : Int) (dp : Int) (h : Heap) (K : KT) : (codeP Tryz.Y (Tryz.Y.loc 145) 100 ((flat (bodyOf Tryz.f145))) ⟨(V.p (some (id, 0)) :: V.agg [V.i .i64 k, V.i .u64 s0, V.i .u64 s1, V.i .u64 s2, V.i .u64 s3, V.ts kc kn none, V.i .i64 lo, V.i .i64 hi, V.i .i64 gn] :: V.i .i64 dp :: List.replicate 40 .undef), [], h⟩ (VQ [6] K)) =
  (∃ (n : Int),
  hcells h id 0 1 = some [V.i IntKind.i64 n] ∧
 ∃ (h_1 : Heap),
 hstore h id 0 [V.i IntKind.i64 (IntKind.i64.wrap (n + (1 : Int)))] = some h_1 ∧
 ∃ (n : Int),
 hcells h_1 id 0 1 = some [V.i IntKind.i64 n] ∧
 If (ltI (9 : Int) n)
 (If (gn == (0 : Int))
 (If (ltI dp (64 : Int))
 (If ((↑kn : Int) == (1 : Int))
 (Con Tryz.Y (144 : Nat)
 [V.p (some (id, 0)), V.ts kc kn none, V.i IntKind.i64 (0 : Int),
 V.i IntKind.i64 (IntKind.i64.wrap (dp + (1 : Int)))]
 h_1 fun (v : V) (h' : Heap) => ∃ (b : Bool), v = V.b b ∧ K Out.ret 43 [V.b b] h')
 (K Out.ret 43 [V.b false] h_1))
 (K Out.ret 43 [V.b false] h_1))
 (K Out.ret 43 [V.b false] h_1))
 (If (gn == n)
 (If (ltI dp (64 : Int))
 (If ((↑kn : Int) == (1 : Int))
 (Con Tryz.Y (144 : Nat)
 [V.p (some (id, 0)), V.ts kc kn none, V.i IntKind.i64 (0 : Int),
 V.i IntKind.i64 (IntKind.i64.wrap (dp + (1 : Int)))]
 h_1 fun (v : V) (h' : Heap) => ∃ (b : Bool), v = V.b b ∧ K Out.ret 43 [V.b b] h')
 (K Out.ret 43 [V.b false] h_1))
 (K Out.ret 43 [V.b false] h_1))
 (K Out.ret 43 [V.b false] h_1))) := by kernel_rfl
end Go.Y
