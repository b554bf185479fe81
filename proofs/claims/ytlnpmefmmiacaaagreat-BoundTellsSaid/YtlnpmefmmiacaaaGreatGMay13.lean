/- souffleurref13.May, by its contract. -/
import Derived.Test.YtlnpmefmmiacaaaGreatGD4
import Derived.Test.YtlnpmefmmiacaaaGreatGSmall
namespace Go.Y
open Go.Proofs
set_option maxRecDepth 100000

def headS : List UInt8 → Bool
  | [] => false
  | c :: _ => !ltI c.toNat 97
def okPl (cap : Int) (l : List Plc) (i : Nat) : Bool := match l[i]? with
  | none => true
  | some x => nameS x.name && headS x.name && decide (x.edges.length ≤ 8) && !((l.take i).any fun y => y.name == x.name) && x.edges.all fun e => edgeS e cap l.length
def peerS (cap : Int) (l : List Plc) : Bool := leI 1 cap && leI cap 16 && decide (1 ≤ l.length) && decide (l.length ≤ 16) && (List.range l.length).all (okPl cap l)

abbrev peerC (cap : Int) (l : List Plc) : List V := [.i .i64 cap, lst encPl l]
def M13O (cap : Int) (l : List Plc) (m : Nat) (vs : List V) (_ : Heap) : Prop :=
  ∃ i : Nat, vs = [.lb (peerC cap l), .i .i64 (i : Nat), .b false] ∧ i ≤ l.length ∧ m = l.length - i ∧ (List.range i).all (okPl cap l) = true
def M13A (cap : Int) (l : List Plc) (i : Nat) (x : Plc) (m : Nat) (vs : List V) (_ : Heap) : Prop :=
  ∃ j : Nat, vs = [.lb (peerC cap l), .i .i64 (i : Nat), .lb (encPl x), .i .i64 (j : Nat), .b false] ∧ j ≤ i ∧ m = i - j ∧ ((l.take j).any fun y => y.name == x.name) = false
def M13B (cap : Int) (l : List Plc) (i : Nat) (x : Plc) (m : Nat) (vs : List V) (_ : Heap) : Prop :=
  ∃ j : Nat, vs = [.lb (peerC cap l), .i .i64 (i : Nat), .lb (encPl x), .i .i64 (j : Nat), .b false] ∧ j ≤ x.edges.length ∧ m = x.edges.length - j ∧ ((x.edges.take j).all fun e => edgeS e cap l.length) = true

theorem peer_no {cap : Int} {l : List Plc} {i : Nat} (hi : i < l.length) (h : okPl cap l i = false) : peerS cap l = false := by
  have : (List.range l.length).all (okPl cap l) = false := by
    rw [List.all_eq_false]
    exact ⟨i, List.mem_range.2 hi, by simp [h]⟩
  simp [peerS, this]

theorem rpeer_con (cap : Int) (l : List Plc) (hn : ∀ x ∈ l, x.name.length < 2 ^ 30) : PCon Tryz.Y 23 [.agg (peerC cap l)] (· = .b (peerS cap l)) := by
  refine pcon_of Tryz.Yok (fn := Tryz.f23) (by kernel_rfl) (by kernel_rfl) rfl ?_
  refine pre_rule Tryz.Yok (n := 84) (loc := Tryz.Y.loc 23) 100 [1, 2, 3, 10] (by kernel_rfl) ?_
  refine Eq.mpr (f23_0 cap (row encPl l) l.length .empty _) ?_
  have no : ∀ (vs : List V) (h : Heap) (so : List Nat), peerS cap l = false → resV Tryz.Y Tryz.f23 (so.zip vs) = some (.b false) → AtV so (FinS Tryz.Y Tryz.f23 fun v h => ∃ r, Frz h v r ∧ r = .b (peerS cap l)) .ret 84 vs h := fun vs h so hne hv =>
    fin_at (.inr rfl) hv ⟨_, .b _, by rw [hne]⟩
  refine if_lt (fun g => no _ _ _ (by simp [peerS, show leI 1 cap = false by simp [leI]; omega]) rfl) (fun g1 => ?_)
  refine if_lt (fun g => no _ _ _ (by simp [peerS, show leI cap 16 = false by simp [leI]; omega]) rfl) (fun g2 => ?_)
  refine if_lt (fun g => no _ _ _ (by simp [peerS, show ¬ 1 ≤ l.length by omega]) rfl) (fun g3 => ?_)
  refine if_lt (fun g => no _ _ _ (by simp [peerS, show ¬ l.length ≤ 16 by omega]) rfl) (fun g4 => ?_)
  have g1 : leI 1 cap = true := by simp [leI]; omega
  have g2 : leI cap 16 = true := by simp [leI]; omega
  have g3 : 1 ≤ l.length := by omega
  have g4 : l.length ≤ 16 := by omega
  refine ⟨rfl, loop2 [1, 3, 10] [1, 2, 3, 10] rfl (by kernel_rfl) (M13O cap l) l.length mk_len ⟨0, rfl, by omega, by omega, by simp⟩ ?_⟩
  rintro m vs h ⟨i, rfl, hi, rfl, hp⟩
  refine pre_rule Tryz.Yok (n := 84) (loc := Tryz.Y.loc 23) 100 [1, 3, 10] (by kernel_rfl) ?_
  refine Eq.mpr (f23_1 cap (row encPl l) l.length (i : Nat) false _ _) ?_
  refine if_lt_nat (fun hlt => ?_) (fun hge => ?_)
  · refine ⟨rfl, block2 (n := 84) [1, 2, 3, 10] (by kernel_rfl) ?_⟩
    refine pre_rule Tryz.Yok (n := 84) (loc := Tryz.Y.loc 23) 100 [1, 2, 3, 4, 5, 10] (by kernel_rfl) ?_
    refine Eq.mpr (f23_2 cap (row encPl l) l.length (i : Nat) false _ _) ?_
    have out : ∀ (so : List Nat) (vs : List V) (h : Heap), ([1, 2, 3, 10] : List Nat).all so.contains = true → okPl cap l i = false → pick so [1, 2, 3, 10] vs = [.lb (peerC cap l), .b false, .i .i64 (i : Nat), .b false] →
        AtV so (VQ [1, 2, 3, 10] (ContW Tryz.Y 84 [1, 2, 3, 10] (blockId (post (flat (loopB (post (flat (bodyOf Tryz.f23))))))) ((post (flat (loopB (post (flat (bodyOf Tryz.f23)))))).drop 1) (VQ [1, 2, 3, 10] (RoundW Tryz.Y 84 [1, 2, 3, 10] [1, 3, 10] (M13O cap l) (l.length - i) (loopId (post (flat (bodyOf Tryz.f23)))) ((post (flat (bodyOf Tryz.f23))).drop 1)
        (FinS Tryz.Y Tryz.f23 fun v h => ∃ r, Frz h v r ∧ r = .b (peerS cap l)))))) .ret 84 vs h := by
      intro so vs h hso hne hpk
      refine at_pick hso ?_
      rw [hpk]
      refine at_pick rfl ?_
      exact no _ _ _ (peer_no hlt hne) rfl
    have hget : l[i]? = some l[i] := List.getElem?_eq_getElem hlt
    refine ⟨bnd_nat hlt, l[i].name, l[i].echo, row encE l[i].edges, l[i].edges.length, none, by rw [Int.toNat_natCast]; exact row_get (f := encPl) (k := 3) encPl_len hlt, ?_⟩
    refine ⟨_, rname_con l[i].name (hn _ (List.getElem_mem hlt)), if_mk (fun h1 => out _ _ _ rfl (by unfold okPl; rw [hget]; simp only; rw [show nameS l[i].name = false by simpa using h1]; rfl) rfl) (fun h1 => ?_)⟩
    have h1 : nameS l[i].name = true := by simpa using h1
    obtain ⟨c, r, hcr⟩ : ∃ c r, l[i].name = c :: r := by
      cases hnm : l[i].name with
      | nil => rw [hnm] at h1; cases h1
      | cons c r => exact ⟨c, r, rfl⟩
    refine ⟨c, ⟨by omega, by rw [hcr]; rfl⟩, if_mk (fun h2 => out _ _ _ rfl (by unfold okPl; rw [hget]; simp only; rw [show headS l[i].name = false by rw [hcr]; simp [headS, h2]]; simp) rfl) (fun h2 => ?_)⟩
    have h2 : headS l[i].name = true := by rw [hcr]; simp [headS, h2]
    refine if_lt (fun h3 => out _ _ _ rfl (by unfold okPl; rw [hget]; simp only; rw [decide_eq_false (show ¬ l[i].edges.length ≤ 8 by omega)]; simp) rfl) (fun h3 => ?_)
    have h3 : l[i].edges.length ≤ 8 := by omega
    refine ⟨rfl, loop2 [1, 3, 4, 5, 10] [1, 2, 3, 4, 5, 10] rfl (by kernel_rfl) (M13A cap l i l[i]) i mk_len ⟨0, rfl, by omega, by omega, by simp⟩ ?_⟩
    rintro m vs h2' ⟨j, rfl, hj, rfl, hq⟩
    refine all_rule Tryz.Yok (loc := Tryz.Y.loc 23) 100 [1, 2, 3, 4, 5, 10] ?_
    refine Eq.mpr (f23_3 cap (row encPl l) l.length (i : Nat) l[i].name l[i].echo none (row encE l[i].edges) l[i].edges.length false (j : Nat) _ _) ?_
    refine if_lt_nat (fun hjl => ?_) (fun hjg => ?_)
    · have hjl' : j < l.length := by omega
      have hnm : takeX 1 (List.drop 0 (List.drop ((j : Int).toNat * 3) (row encPl l))) = some [.s l[j].name] := by
        rw [Int.toNat_natCast, List.drop_zero, row_cons encPl_len l hjl']; rfl
      refine ⟨bnd_nat hjl', _, hnm, if_mk (fun hc => out _ _ _ rfl ?_ rfl) (fun hc => ?_)⟩
      · unfold okPl; rw [hget]; simp only
        have : ((l.take i).any fun y => y.name == l[i].name) = true := by
          rw [List.any_eq_true]
          exact ⟨l[j], by rw [List.mem_take_iff_getElem]; exact ⟨j, by omega, rfl⟩, hc⟩
        rw [this]; simp
      · refine ⟨rfl, i - (j + 1), by omega, j + 1, by rw [wrap_succ (by omega)]; rfl, by omega, rfl, ?_⟩
        rw [List.take_succ_eq_append_getElem hjl', List.any_append, hq]; simp only [List.any_cons, List.any_nil, hc, Bool.or_false]
    have hj' : j = i := by omega
    subst hj'
    refine roundW_exit [1, 3, 4, 10] (by kernel_rfl) rfl rfl ?_
    refine pre_rule Tryz.Yok (n := 84) (loc := Tryz.Y.loc 23) 100 [1, 3, 4, 6, 10] (by kernel_rfl) ?_
    refine Eq.mpr (f23_4 cap (row encPl l) l.length (j : Nat) none (row encE l[j].edges) l[j].edges.length l[j].name l[j].echo false _ _) ?_
    refine ⟨rfl, loopE [1, 3, 4, 6, 10] [1, 2, 3, 4, 6, 10] rfl (by kernel_rfl) (M13B cap l j l[j]) l[j].edges.length mk_len ⟨0, rfl, by omega, by omega, by simp⟩ ?_⟩
    rintro m vs h3' ⟨k, rfl, hk, rfl, hr⟩
    refine all_rule Tryz.Yok (loc := Tryz.Y.loc 23) 100 [1, 2, 3, 4, 6, 10] ?_
    refine Eq.mpr (f23_5 cap (row encPl l) l.length (j : Nat) none (row encE l[j].edges) l[j].edges.length l[j].name l[j].echo false (k : Nat) _ _) ?_
    refine if_lt_nat (fun hkl => ?_) (fun hkg => ?_)
    · refine ⟨bnd_nat hkl, _, _, _, _, _, by rw [Int.toNat_natCast]; exact row_get (f := encE) (k := 5) encE_len hkl, _, redge_con l[j].edges[k] cap (row encPl l) l.length, if_mk (fun hc => out _ _ _ rfl ?_ rfl) (fun hc => ?_)⟩
      · unfold okPl; rw [hget]; simp only
        have : (l[j].edges.all fun e => edgeS e cap l.length) = false := all_no (p := fun e => edgeS e cap l.length) hkl (by simpa using hc)
        rw [this, Bool.and_false]
      · exact ⟨rfl, l[j].edges.length - (k + 1), by omega, k + 1, by rw [wrap_succ (by omega)]; rfl, by omega, rfl, all_snoc (p := fun e => edgeS e cap l.length) hkl hr (by simpa using hc)⟩
    simp only [RoundE]
    rw [if_pos (by kernel_rfl)]
    refine at_pick rfl ?_
    refine ⟨rfl, [1, 3, 10], rfl, ?_⟩
    rw [List.take_of_length_le hkg] at hr
    have ho : okPl cap l j = true := by
      unfold okPl; rw [hget]; simp only
      rw [h1, h2, hq, hr, decide_eq_true h3]; rfl
    refine all_two Tryz.Yok (loc := Tryz.Y.loc 23) 100 [1, 3, 10] ?_
    refine Eq.mpr (f23_6 cap (row encPl l) l.length (j : Nat) false _ _) ?_
    rw [wrap_succ (by omega)]
    exact fun vs2 ht => roundW_normal ht rfl rfl rfl (l.length - (j + 1)) (by omega) ⟨j + 1, rfl, by omega, rfl, range_snoc hp ho⟩
  · refine at_two fun vs2 ht => roundW_exit2 [] ht (by kernel_rfl) rfl rfl rfl ?_
    refine end_rule Tryz.Yok (loc := Tryz.Y.loc 23) 100 [2] ?_
    refine Eq.mpr (f23_7 _ _) ?_
    have : i = l.length := by omega
    subst this
    exact finV1 (.inr rfl) rfl (.b _) (by simp [peerS, g1, g2, g3, g4, hp])
end Go.Y
