/- peer.May, by its contract. -/
import Derived.Test.YtlnpmefmmiacaaaGreatGMay13
import Derived.Test.YtlnpmefmmiacaaaGreatGD6
namespace Go.Y
open Go.Proofs
set_option maxRecDepth 100000

theorem hcells_of {h : Heap} {id : Nat} {cs : List V} {wr : Bool} (hg : h.get id = some (.arr cs wr)) (off n : Nat) : hcells h id off n = takeX n (cs.drop off) := by
  simp only [hcells, hg]

theorem row_takeP {α : Type} {f : α → List V} {k : Nat} (hk : ∀ x, (f x).length = k) (l : List α) (n : Nat) : (row f l).take (n * k) = row f (l.take n) := by
  induction l generalizing n with
  | nil => simp [row]
  | cons x l ih =>
    have h : row f (x :: l) = f x ++ row f l := by simp [row]
    cases n with
    | zero => simp [row]
    | succ n =>
      have h2 : row f (x :: l.take n) = f x ++ row f (l.take n) := by simp [row]
      rw [List.take_succ_cons, h, h2, ← ih n, Nat.add_mul, Nat.one_mul, Nat.add_comm, ← hk x, List.take_length_add_append]

/-! ### names that were met -/
theorem met97 (x y : Plc) {h : Heap} {id : Nat} (hg : h.get id = some (.arr (encPl x) true)) : Con Tryz.Y 81 [.agg (encPl y), .p (some (id, 0))] h fun v h' => v = .b (y.name == x.name) ∧ h' = h := by
  refine conz_of Tryz.Yok (fn := Tryz.f81) (by kernel_rfl) (by kernel_rfl) (end_rule Tryz.Yok (loc := Tryz.Y.loc 81) 100 [3] ?_)
  refine Eq.mpr (f81_0 y.name y.echo (row encE y.edges) y.edges.length id h _) ?_
  exact ⟨x.name, by rw [hcells_of hg]; rfl, finC (.inr rfl) rfl (.now ⟨rfl, rfl⟩)⟩
theorem rcon97 (x y : Plc) {h : Heap} {id : Nat} (hg : h.get id = some (.arr (encPl x) true)) : RCon Tryz.Y 81 [.agg (encPl y), .p (some (id, 0))] h (.b (y.name == x.name)) :=
  ⟨h, met97 x y hg, fun _ _ => rfl, fun _ hp => hp⟩

theorem index97 (l : List Plc) (x : Plc) {h : Heap} {id : Nat} (hg : h.get id = some (.arr (encPl x) true)) (hl : l.length < 2 ^ 30) :
    Con Tryz.Y 101 [lst encPl l, .fn (.func 81) [] [.p (some (id, 0))]] h fun v h' => ∃ n : Int, v = .i .i64 n ∧ leI 0 n = (l.any fun y => y.name == x.name) ∧ h' = h := by
  refine conz_of Tryz.Yok (fn := Tryz.f101) (by kernel_rfl) (by kernel_rfl) ?_
  refine pre_rule Tryz.Yok (n := 19) (loc := Tryz.Y.loc 101) 100 [0, 1, 7, 8] (by kernel_rfl) ?_
  refine Eq.mpr (f101_0 (row encPl l) l.length id h _) ?_
  refine ⟨rfl, loop2 [0, 1, 7, 8] [0, 1, 4, 7, 8] rfl (by kernel_rfl) (fun m vs h' => ∃ i : Nat, vs = [lst encPl l, .fn (.func 81) [] [.p (some (id, 0))], .i .i64 l.length, .i .i64 (i : Nat)] ∧ i ≤ l.length ∧ ((l.take i).any fun y => y.name == x.name) = false ∧ m = l.length - i ∧ h' = h) l.length mk_len ⟨0, rfl, by omega, by simp, by omega, rfl⟩ ?_⟩
  rintro m vs h' ⟨i, rfl, hi, hno, rfl, rfl⟩
  refine all_rule Tryz.Yok (loc := Tryz.Y.loc 101) 100 [0, 1, 4, 7, 8] ?_
  refine Eq.mpr (f101_1 (row encPl l) l.length id (i : Nat) h' _) ?_
  refine if_lt_nat (fun hlt => ?_) (fun hge => ?_)
  · refine ⟨bnd_nat hlt, _, _, _, _, _, by rw [Int.toNat_natCast]; exact row_get (f := encPl) (k := 3) encPl_len hlt, _, rcon97 x l[i] hg, if_mk (fun hc => ?_) (fun hc => ?_)⟩
    · refine fin_at (.inr rfl) rfl (.now ⟨(i : Nat), rfl, ?_, rfl⟩)
      have : (l.any fun y => y.name == x.name) = true := List.any_eq_true.2 ⟨l[i], List.getElem_mem hlt, hc⟩
      rw [this]; simp [leI]
    · refine ⟨rfl, l.length - (i + 1), by omega, i + 1, ?_, by omega, ?_, rfl, rfl⟩
      · rw [wrap_succ (by omega)]; rfl
      · rw [List.take_succ_eq_append_getElem hlt, List.any_append, hno]; simp only [List.any_cons, List.any_nil, hc, Bool.or_false]
  · refine roundW_exit [] (by kernel_rfl) rfl rfl ?_
    refine end_rule Tryz.Yok (loc := Tryz.Y.loc 101) 100 [4] ?_
    refine Eq.mpr (f101_2 h' _) ?_
    rw [List.take_of_length_le hge] at hno
    exact finC (.inr rfl) rfl (.now ⟨-1, rfl, by rw [hno]; rfl, rfl⟩)

theorem contains97 (l : List Plc) (x : Plc) {h : Heap} {id : Nat} (hg : h.get id = some (.arr (encPl x) true)) (hl : l.length < 2 ^ 30) :
    Con Tryz.Y 80 [lst encPl l, .fn (.func 81) [] [.p (some (id, 0))]] h fun v h' => v = .b (l.any fun y => y.name == x.name) ∧ h' = h := by
  refine conz_of Tryz.Yok (fn := Tryz.f80) (by kernel_rfl) (by kernel_rfl) (end_rule Tryz.Yok (loc := Tryz.Y.loc 80) 100 [4] ?_)
  refine Eq.mpr (f80_0 (row encPl l) l.length id h _) ?_
  refine (index97 l x hg hl).mono fun v h' ⟨n, e1, e2, e3⟩ => ⟨n, e1, ?_⟩
  subst e3
  rw [e2]
  exact finC (.inr rfl) rfl (.now ⟨rfl, rfl⟩)

/-! ### edges that are not right -/
theorem wrong98 (e : Edge) (cap : Int) (l : List Plc) {h : Heap} {id : Nat} (hg : h.get id = some (.arr (peerC cap l) true)) : Con Tryz.Y 83 [.agg (encE e), .p (some (id, 0))] h fun v h' => v = .b (!edgeS e cap l.length) ∧ h' = h := by
  refine conz_of Tryz.Yok (fn := Tryz.f83) (by kernel_rfl) (by kernel_rfl) (end_rule Tryz.Yok (loc := Tryz.Y.loc 83) 100 [3] ?_)
  refine Eq.mpr (f83_0 e.kind e.text e.lo e.hi e.to id h _) ?_
  exact ⟨cap, row encPl l, l.length, none, by rw [hcells_of hg]; rfl, _, right_con e cap (row encPl l) l.length, finC (.inr rfl) rfl (.now ⟨rfl, rfl⟩)⟩

theorem index98 (k : List Edge) (cap : Int) (l : List Plc) {h : Heap} {id : Nat} (hg : h.get id = some (.arr (peerC cap l) true)) (hl : k.length < 2 ^ 30) :
    Con Tryz.Y 102 [lst encE k, .fn (.func 83) [] [.p (some (id, 0))]] h fun v h' => ∃ n : Int, v = .i .i64 n ∧ leI 0 n = (k.any fun e => !edgeS e cap l.length) ∧ h' = h := by
  refine conz_of Tryz.Yok (fn := Tryz.f102) (by kernel_rfl) (by kernel_rfl) ?_
  refine pre_rule Tryz.Yok (n := 19) (loc := Tryz.Y.loc 102) 100 [0, 1, 7, 8] (by kernel_rfl) ?_
  refine Eq.mpr (f102_0 (row encE k) k.length id h _) ?_
  refine ⟨rfl, loop2 [0, 1, 7, 8] [0, 1, 4, 7, 8] rfl (by kernel_rfl) (fun m vs h' => ∃ i : Nat, vs = [lst encE k, .fn (.func 83) [] [.p (some (id, 0))], .i .i64 k.length, .i .i64 (i : Nat)] ∧ i ≤ k.length ∧ ((k.take i).any fun e => !edgeS e cap l.length) = false ∧ m = k.length - i ∧ h' = h) k.length mk_len ⟨0, rfl, by omega, by simp, by omega, rfl⟩ ?_⟩
  rintro m vs h' ⟨i, rfl, hi, hno, rfl, rfl⟩
  refine all_rule Tryz.Yok (loc := Tryz.Y.loc 102) 100 [0, 1, 4, 7, 8] ?_
  refine Eq.mpr (f102_1 (row encE k) k.length id (i : Nat) h' _) ?_
  refine if_lt_nat (fun hlt => ?_) (fun hge => ?_)
  · refine ⟨bnd_nat hlt, _, _, _, _, _, by rw [Int.toNat_natCast]; exact row_get (f := encE) (k := 5) encE_len hlt, (wrong98 k[i] cap l hg).mono fun v h2 ⟨e1, e2⟩ => ⟨_, e1, ?_⟩⟩
    subst e2
    refine if_mk (fun hc => ?_) (fun hc => ?_)
    · refine fin_at (.inr rfl) rfl (.now ⟨(i : Nat), rfl, ?_, rfl⟩)
      have : (k.any fun e => !edgeS e cap l.length) = true := List.any_eq_true.2 ⟨k[i], List.getElem_mem hlt, hc⟩
      rw [this]; simp [leI]
    · refine ⟨rfl, k.length - (i + 1), by omega, i + 1, ?_, by omega, ?_, rfl, rfl⟩
      · rw [wrap_succ (by omega)]; rfl
      · rw [List.take_succ_eq_append_getElem hlt, List.any_append, hno]; simp only [List.any_cons, List.any_nil, hc, Bool.or_false]
  · refine roundW_exit [] (by kernel_rfl) rfl rfl ?_
    refine end_rule Tryz.Yok (loc := Tryz.Y.loc 102) 100 [4] ?_
    refine Eq.mpr (f102_2 h' _) ?_
    rw [List.take_of_length_le hge] at hno
    exact finC (.inr rfl) rfl (.now ⟨-1, rfl, by rw [hno]; rfl, rfl⟩)

theorem contains98 (k : List Edge) (cap : Int) (l : List Plc) {h : Heap} {id : Nat} (hg : h.get id = some (.arr (peerC cap l) true)) (hl : k.length < 2 ^ 30) :
    Con Tryz.Y 82 [lst encE k, .fn (.func 83) [] [.p (some (id, 0))]] h fun v h' => v = .b (k.any fun e => !edgeS e cap l.length) ∧ h' = h := by
  refine conz_of Tryz.Yok (fn := Tryz.f82) (by kernel_rfl) (by kernel_rfl) (end_rule Tryz.Yok (loc := Tryz.Y.loc 82) 100 [4] ?_)
  refine Eq.mpr (f82_0 (row encE k) k.length id h _) ?_
  refine (index98 k cap l hg hl).mono fun v h' ⟨n, e1, e2, e3⟩ => ⟨n, e1, ?_⟩
  subst e3
  rw [e2]
  exact finC (.inr rfl) rfl (.now ⟨rfl, rfl⟩)

/-! ### May -/
def M55 (cap : Int) (l : List Plc) (m : Nat) (vs : List V) (h : Heap) : Prop :=
  ∃ (id i : Nat), vs = [.p (some (id, 0)), .i .i64 cap, lst encPl l, .i .i64 l.length, .i .i64 (i : Nat)] ∧ h.get id = some (.arr (peerC cap l) true) ∧ id < h.nx ∧ i ≤ l.length ∧ m = l.length - i ∧ (List.range i).all (okPl cap l) = true

theorem any_neg {α : Type} (p : α → Bool) (k : List α) : (k.any fun x => !p x) = !k.all p := by
  induction k with
  | nil => rfl
  | cons x k ih => rw [List.any_cons, List.all_cons, ih]; cases p x <;> simp

theorem peer_con (cap : Int) (l : List Plc) : PCon Tryz.Y 57 [.agg (peerC cap l)] (· = .b (peerS cap l)) := by
  refine pcon_of Tryz.Yok (fn := Tryz.f57) (by kernel_rfl) (by kernel_rfl) rfl ?_
  refine pre_rule Tryz.Yok (n := 60) (loc := Tryz.Y.loc 57) 100 [1, 2, 10, 26, 27, 28] (by kernel_rfl) ?_
  refine Eq.mpr (f57_0 cap (row encPl l) l.length .empty _) ?_
  have no : ∀ h, peerS cap l = false → ∃ r, Frz h (.b false) r ∧ r = .b (peerS cap l) := fun h e => ⟨_, .b _, by rw [e]⟩
  have hg0 : (Heap.empty.push (YObj.arr (peerC cap l) true)).get Heap.empty.nx = some (.arr (peerC cap l) true) := by simp
  have c1 : hcells (Heap.empty.push (YObj.arr (peerC cap l) true)) Heap.empty.nx 0 1 = some [.i .i64 cap] := by rw [hcells_of hg0]; rfl
  have c2 : hcells (Heap.empty.push (YObj.arr (peerC cap l) true)) Heap.empty.nx 1 1 = some [lst encPl l] := by rw [hcells_of hg0]; rfl
  refine ⟨cap, c1, if_lt (fun g => fin_at (.inr rfl) rfl (no _ (by simp [peerS, show leI 1 cap = false by simp [leI]; omega]))) (fun g1 => ?_)⟩
  refine ⟨cap, c1, if_lt (fun g => fin_at (.inr rfl) rfl (no _ (by simp [peerS, show leI cap 16 = false by simp [leI]; omega]))) (fun g2 => ?_)⟩
  refine ⟨_, _, _, c2, if_lt (fun g => fin_at (.inr rfl) rfl (no _ (by simp [peerS, show ¬ 1 ≤ l.length by omega]))) (fun g3 => ?_)⟩
  refine ⟨_, _, _, c2, if_lt (fun g => fin_at (.inr rfl) rfl (no _ (by simp [peerS, show ¬ l.length ≤ 16 by omega]))) (fun g4 => ?_)⟩
  have g1 : leI 1 cap = true := by simp [leI]; omega
  have g2 : leI cap 16 = true := by simp [leI]; omega
  have g3 : 1 ≤ l.length := by omega
  have g4 : l.length ≤ 16 := by omega
  refine ⟨_, _, _, c2, rfl, loop2 [1, 10, 26, 27, 28] [1, 2, 10, 26, 27, 28] rfl (by kernel_rfl) (M55 cap l) l.length mk_len ⟨_, 0, rfl, hg0, by simp [Heap.push, Heap.empty], by omega, by omega, by simp⟩ ?_⟩
  rintro m vs h ⟨id, i, rfl, hg, hid, hi, rfl, hp⟩
  refine all_rule Tryz.Yok (loc := Tryz.Y.loc 57) 100 [1, 2, 10, 26, 27, 28] ?_
  refine Eq.mpr (f57_1 id cap none (row encPl l) l.length (l.length : Nat) (i : Nat) h _) ?_
  refine if_lt_nat (fun hlt => ?_) (fun hge => ?_)
  · have hget : l[i]? = some l[i] := List.getElem?_eq_getElem hlt
    have htag : Tryz.Y.tag 79 = none := by kernel_rfl
    rw [htag]
    have hgp : ∀ j, (h.pushT none (YObj.arr [.s [], .b false, .sl none 0 (some 0) 0] true)).get j = if j = h.nx then some (YObj.arr [.s [], .b false, .sl none 0 (some 0) 0] true) else h.get j := fun j => Heap.get_pushT _ _ _ _
    let h1 : Heap := (h.pushT none (YObj.arr [.s [], .b false, .sl none 0 (some 0) 0] true)).set h.nx (some (.arr (encPl l[i]) true))
    have hst : hstore (h.pushT none (YObj.arr [.s [], .b false, .sl none 0 (some 0) 0] true)) h.nx 0 (encPl l[i]) = some h1 := by
      simp only [hstore, hgp, if_true]
      rfl
    have hx : h1.get h.nx = some (.arr (encPl l[i]) true) := by rw [Heap.get_set, if_pos rfl]
    have hpp : h1.get id = some (.arr (peerC cap l) true) := by
      rw [Heap.get_set, if_neg (by omega), hgp, if_neg (by omega)]; exact hg
    have hnx : h1.nx = h.nx + 1 := rfl
    have out : ∀ h, okPl cap l i = false → ∃ r, Frz h (.b false) r ∧ r = .b (peerS cap l) := fun h ho => no h (peer_no hlt ho)
    refine ⟨bnd_nat hlt, l[i].name, l[i].echo, row encE l[i].edges, l[i].edges.length, none, by rw [Int.toNat_natCast]; exact row_get (f := encPl) (k := 3) encPl_len hlt, h1, hst, ?_⟩
    refine ⟨l[i].name, by rw [hcells_of hx]; rfl, _, name_con l[i].name, if_mk (fun h2 => fin_at (.inr rfl) rfl (out _ (by unfold okPl; rw [hget]; simp only; rw [show nameS l[i].name = false by simpa using h2]; rfl))) (fun h2 => ?_)⟩
    have h2 : nameS l[i].name = true := by simpa using h2
    obtain ⟨c, r, hcr⟩ : ∃ c r, l[i].name = c :: r := by
      cases hnm : l[i].name with
      | nil => rw [hnm] at h2; cases h2
      | cons c r => exact ⟨c, r, rfl⟩
    refine ⟨l[i].name, by rw [hcells_of hx]; rfl, c, ⟨by omega, by rw [hcr]; rfl⟩, if_mk (fun h3 => fin_at (.inr rfl) rfl (out _ (by unfold okPl; rw [hget]; simp only; rw [show headS l[i].name = false by rw [hcr]; simp [headS, h3]]; simp))) (fun h3 => ?_)⟩
    have h3 : headS l[i].name = true := by rw [hcr]; simp [headS, h3]
    refine ⟨row encE l[i].edges, l[i].edges.length, none, by rw [hcells_of hx]; rfl, if_lt (fun h4 => fin_at (.inr rfl) rfl (out _ (by unfold okPl; rw [hget]; simp only; rw [decide_eq_false (show ¬ l[i].edges.length ≤ 8 by omega)]; simp))) (fun h4 => ?_)⟩
    have h4 : l[i].edges.length ≤ 8 := by omega
    refine ⟨row encPl l, l.length, none, by rw [hcells_of hpp]; rfl, ⟨by omega, by omega⟩, ?_⟩
    have harg : (V.ts (List.take (((i : Nat) : Int).toNat * 3 - 0 * 3) (List.drop (0 * 3) (row encPl l))) (((i : Nat) : Int).toNat - 0) (Option.map (fun x => x - 0) none)) = lst encPl (l.take i) := by
      rw [Int.toNat_natCast]
      simp only [Nat.zero_mul, List.drop_zero, Nat.sub_zero, Option.map_none, lst]
      rw [row_takeP encPl_len, List.length_take, Nat.min_eq_left (by omega)]
    have hsub : (((i : Nat) : Int).toNat - 0) * 3 = ((i : Nat) : Int).toNat * 3 - 0 * 3 := by omega
    rw [hsub, harg]
    refine (contains97 (l.take i) l[i] hx (by rw [List.length_take]; omega)).mono fun v h' ⟨e1, e2⟩ => ⟨_, e1, ?_⟩
    subst e2
    refine if_mk (fun h5 => fin_at (.inr rfl) rfl (out _ (by unfold okPl; rw [hget]; simp only; rw [h5]; simp))) (fun h5 => ?_)
    refine ⟨row encE l[i].edges, l[i].edges.length, none, by rw [hcells_of hx]; rfl, ?_⟩
    refine (contains98 l[i].edges cap l hpp (by omega)).mono fun v h' ⟨e1, e2⟩ => ⟨_, e1, ?_⟩
    subst e2
    rw [any_neg]
    refine if_mk (fun h6 => fin_at (.inr rfl) rfl (out _ (by unfold okPl; rw [hget]; simp only; rw [show (l[i].edges.all fun e => edgeS e cap l.length) = false by simpa using h6]; simp))) (fun h6 => ?_)
    have h6 : (l[i].edges.all fun e => edgeS e cap l.length) = true := by simpa using h6
    have ho : okPl cap l i = true := by
      unfold okPl; rw [hget]; simp only
      rw [h2, h3, h5, h6, decide_eq_true h4]; rfl
    refine ⟨rfl, l.length - (i + 1), by omega, id, i + 1, by rw [wrap_succ (by omega)]; rfl, hpp, by omega, by omega, rfl, range_snoc hp ho⟩
  · refine roundW_exit [] (by kernel_rfl) rfl rfl ?_
    refine end_rule Tryz.Yok (loc := Tryz.Y.loc 57) 100 [2] ?_
    refine Eq.mpr (f57_2 _ _) ?_
    have : i = l.length := by omega
    subst this
    exact finV1 (.inr rfl) rfl (.b _) (by simp [peerS, g1, g2, g3, g4, hp])
end Go.Y
