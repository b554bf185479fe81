/- Verdicts as lines, by contracts. -/
import Derived.Test.YtfnpgefoikffdaaDoorGTell4
import Derived.Test.YtfnpgefoikffdaaDoorYTrydP
import Derived.Test.YtfnpgefoikffdaaDoorYFun
namespace Go.Y
open Go.Proofs Go.Lib
set_option maxRecDepth 100000
set_option linter.unusedVariables false
set_option linter.unusedSimpArgs false

theorem Bd.frame {h h' : Heap} {id : Nat} {bs : List UInt8} (b : Bd h id bs) (hn : h.nx ≤ h'.nx) (hg : ∀ j, j < h.nx → h'.get j = h.get j) (ht : ∀ i, i < h.nx → h'.tagOf i = h.tagOf i) : Bd h' id bs := by
  obtain ⟨a, s, n, c, k, h1, h2, h3, h4, h5⟩ := b.ex
  have hlt := b.lt
  refine ⟨⟨a, s, n, c, k, by rw [hg id hlt]; exact h1, h2, h3.fr hn (fun j _ hj => hg j hj), fun j o e => ?_, h5⟩, by rw [ht id hlt]; exact b.tag, by omega⟩
  have := h4 j o e
  subst e
  rcases h3.2 with ⟨e, _⟩ | ⟨i, e, _, _, hi, _⟩
  · cases e
  · cases e; exact ⟨by rw [ht j hi]; exact this.1, this.2⟩

def numS (n : Int) : List UInt8 := [32] ++ itoa n
theorem numS_len {n : Int} (h : okI n) : (numS n).length ≤ 21 := by
  have := itoa_len h
  simp [numS]; omega
theorem rnum_con {n : Int} (h : okI n) : PCon Tryd.Y 19 [.i .i64 n] (· = .s (numS n)) := by
  have := itoa_len h
  exact tree_con Tryd.Yok (fn := Tryd.f19) (by kernel_rfl) (by kernel_rfl) rfl (fun K => f19_0 n .empty K) rfl ⟨_, print_con h, by simp; omega, finV1 (.inr rfl) rfl (.s _) rfl⟩

structure Ver where
  kind : Int
  whr : Int
  plc : Int
  err : Int
  flt : Int
  tr : Trc
  unused : List Int
  wit : List Trc
  nodes : Int
theorem trC_len (t : Trc) : (trC t).length = 3 := rfl
abbrev verC (v : Ver) : List V := [.i .i64 v.kind, .i .i64 v.whr, .i .i64 v.plc, .i .i64 v.err, .i .i64 v.flt, .i .i64 v.tr.k, .i .i64 v.tr.n, lst encCh v.tr.cs, lst encI v.unused, lst trC v.wit, .i .i64 v.nodes]
structure okVer (v : Ver) : Prop where
  whr : okI v.whr
  plc : okI v.plc
  err : okI v.err
  nodes : okI v.nodes
  tr : okTr v.tr
  un : ∀ x ∈ v.unused, okI x
  unl : v.unused.length ≤ 20
  wit : ∀ t ∈ v.wit, okTr t
  witl : v.wit.length ≤ 12

def nzT (t : Trc) : Bool := t.k != 0 || t.n != 0 || decide (0 < t.cs.length)
def oneW (t : Trc) : List UInt8 := if nzT t then linesS t else []
def witS (l : List Trc) : List UInt8 := l.flatMap oneW
theorem witS_snoc (l : List Trc) (t : Trc) : witS (l ++ [t]) = witS l ++ oneW t := by simp [witS]
theorem oneW_len {t : Trc} (h : okTr t) : (oneW t).length ≤ 300000 := by
  unfold oneW
  split
  · exact linesS_len h
  · simp
theorem witS_len : ∀ {l : List Trc}, (∀ t ∈ l, okTr t) → (witS l).length ≤ 300000 * l.length
  | [], _ => by simp [witS]
  | t :: l, h => by
    have h1 := oneW_len (h t (by simp))
    have h2 := witS_len (l := l) fun x hx => h x (List.mem_cons_of_mem _ hx)
    have : witS (t :: l) = oneW t ++ witS l := by simp [witS]
    rw [this, List.length_append, List.length_cons]; omega
theorem getTr (l : List Trc) {i : Nat} (h : i < l.length) : takeX 3 (List.drop (((i : Nat) : Int).toNat * 3) (row trC l)) = some (trC l[i]) := by
  rw [Int.toNat_natCast]; exact row_get (f := trC) (k := 3) trC_len h

def wpass : List UInt8 := [112, 97, 115, 115]
def wunused : List UInt8 := [117, 110, 117, 115, 101, 100]
def passS (v : Ver) : List UInt8 := lnS [wpass, itoa v.nodes] ++ lnS (wunused :: v.unused.map itoa) ++ witS v.wit
theorem sum_itoa : ∀ {l : List Int}, (∀ x ∈ l, okI x) → sumL (l.map itoa) ≤ 21 * l.length
  | [], _ => by simp [sumL]
  | a :: l, h => by
    have h1 := itoa_len (h a (by simp))
    have h2 := sum_itoa (l := l) fun x hx => h x (List.mem_cons_of_mem _ hx)
    simp only [List.map_cons, sumL, List.length_cons]; omega

theorem pass_con {v : Ver} (hv : okVer v) : PCon Tryd.Y 18 [.agg (verC v)] (· = .s (passS v)) := by
  refine pcon_of Tryd.Yok (fn := Tryd.f18) (by kernel_rfl) (by kernel_rfl) rfl ?_
  refine pre_rule Tryd.Yok (n := 45) (loc := Tryd.Y.loc 18) 100 [3, 8, 20, 21, 22] (by kernel_rfl) ?_
  refine Eq.mpr (f18_0 v.kind v.whr v.plc v.err v.flt v.tr.k v.tr.n (row encCh v.tr.cs) v.tr.cs.length (row encI v.unused) v.unused.length (row trC v.wit) v.wit.length v.nodes .empty _) ?_
  have hun := hv.unl
  have hwl := hv.witl
  have l1 := itoa_len hv.nodes
  have s1 : sumL [wpass, itoa v.nodes] ≤ 30 := by simp [sumL, wpass]; omega
  have s2 : sumL (wunused :: v.unused.map itoa) ≤ 500 := by
    have := sum_itoa hv.un
    simp only [sumL, wunused, List.length_cons, List.length_nil]; omega
  have n1 := lnS_len [wpass, itoa v.nodes]
  have n2 := lnS_len (wunused :: v.unused.map itoa)
  refine ⟨_, itoa_con hv.nodes.1 hv.nodes.2, _, line_t _ [wpass, itoa v.nodes] _ (by simp) (by omega), ?_⟩
  refine (wstr_con (Bd.new _) _ (by simp; omega)).mono fun w h1 ⟨e1, b1⟩ => ⟨_, .inl ⟨e1, _, _, _, nums_con v.unused (by omega) hv.un, ?_⟩⟩
  have hL : StrL (h1.push (.arr [.s wunused] true)) (some (h1.nx, 0)) 1 (some 1) 1 [wunused] := ⟨rfl, .inr ⟨h1.nx, rfl, rfl, by simp, by simp, .inr rfl⟩⟩
  obtain ⟨a2, l2, c2, k2, h2, q1, q2, q3, q4, q5, q6⟩ := hL.app (v.unused.map itoa) none (by simp; omega)
  rw [List.length_map, ← row_strs] at q1
  have b2 : Bd h2 _ _ := b1.frame (h' := h2) (by simp at q3; omega) (fun j hj => by
    rw [q5 j (by simp; omega) (fun o e => by cases e; omega), Heap.get_push, if_neg (by omega)]) (fun i hi => by rw [q4 i (by simp; omega)]; rfl)
  refine ⟨a2, l2, c2, k2, h2, by rw [List.length_map]; exact q1, _, line_f q2 (by simp; omega) (by simpa using (by omega : sumL (wunused :: v.unused.map itoa) ≤ 2 ^ 40)), ?_⟩
  refine (wstr_con b2 _ (by simp only [List.length_append, List.length_cons, List.length_nil]; simp only [List.cons_append, List.nil_append]; omega)).mono fun w h3 ⟨e3, b3⟩ => ⟨_, .inl ⟨e3, ?_⟩⟩
  have base : ∀ bs, bs = lnS [wpass, itoa v.nodes] ++ lnS (wunused :: v.unused.map itoa) → bs.length ≤ 1000 := fun bs e => by rw [e, List.length_append]; omega
  refine ⟨rfl, loop2 [3, 8, 20, 21, 22] [3, 8, 20, 21, 22] rfl (by kernel_rfl) (fun m vs h => ∃ (i id : Nat) (s8 : List UInt8), vs = [.p (some (id, 0)), .s s8, lst trC v.wit, .i .i64 v.wit.length, .i .i64 (i : Nat)] ∧ i ≤ v.wit.length ∧ m = v.wit.length - i ∧ Bd h id (lnS [wpass, itoa v.nodes] ++ lnS (wunused :: v.unused.map itoa) ++ witS (v.wit.take i))) v.wit.length mk_len ⟨0, _, _, rfl, by omega, by omega, by simpa [witS] using b3⟩ ?_⟩
  rintro m vs h ⟨i, id, s8, rfl, hi, rfl, hb⟩
  refine all_rule Tryd.Yok (loc := Tryd.Y.loc 18) 100 [3, 8, 20, 21, 22] ?_
  refine Eq.mpr (f18_1 (row trC v.wit) v.wit.length id s8 (i : Nat) h _) ?_
  have hwt : (witS (v.wit.take i)).length ≤ 300000 * 12 := by
    have := witS_len (l := v.wit.take i) fun t ht => hv.wit t (List.mem_of_mem_take ht)
    have : (v.wit.take i).length ≤ 12 := by simp; omega
    omega
  have hbs := base _ rfl
  refine if_lt_nat (fun hlt => ?_) (fun hge => ?_)
  · have okt := hv.wit _ (List.getElem_mem hlt)
    have next : ∀ h', Bd h' id (lnS [wpass, itoa v.nodes] ++ lnS (wunused :: v.unused.map itoa) ++ witS (v.wit.take i) ++ oneW v.wit[i]) → RoundW Tryd.Y 45 [3, 8, 20, 21, 22] [3, 8, 20, 21, 22] (fun m vs h => ∃ (i id : Nat) (s8 : List UInt8), vs = [.p (some (id, 0)), .s s8, lst trC v.wit, .i .i64 v.wit.length, .i .i64 (i : Nat)] ∧ i ≤ v.wit.length ∧ m = v.wit.length - i ∧ Bd h id (lnS [wpass, itoa v.nodes] ++ lnS (wunused :: v.unused.map itoa) ++ witS (v.wit.take i)))
        (v.wit.length - i) (loopId (post (flat (bodyOf Tryd.f18)))) (List.drop 1 (post (flat (bodyOf Tryd.f18)))) (FinS Tryd.Y Tryd.f18 fun w h => ∃ r, Frz h w r ∧ r = .s (passS v)) .normal 45 [.p (some (id, 0)), .s s8, lst trC v.wit, .i .i64 v.wit.length, .i .i64 (IntKind.i64.wrap ((i : Nat) + 1))] h' := fun h' hb' =>
      ⟨rfl, v.wit.length - (i + 1), by omega, i + 1, id, s8, by rw [wrap_succ (by omega)]; rfl, by omega, rfl, by rw [List.take_succ_eq_append_getElem hlt, witS_snoc, ← List.append_assoc]; exact hb'⟩
    have write : nzT v.wit[i] = true → ∃ s, PCon Tryd.Y 17 [.agg (trC v.wit[i])] (fun w => w = .s s) ∧ Con Tryd.Y 35 [.p (some (id, 0)), .s s] h fun w h' => ∃ n : Int, w = .tup [.i .i64 n, .nilifc] ∧ RoundW Tryd.Y 45 [3, 8, 20, 21, 22] [3, 8, 20, 21, 22] (fun m vs h => ∃ (i id : Nat) (s8 : List UInt8), vs = [.p (some (id, 0)), .s s8, lst trC v.wit, .i .i64 v.wit.length, .i .i64 (i : Nat)] ∧ i ≤ v.wit.length ∧ m = v.wit.length - i ∧ Bd h id (lnS [wpass, itoa v.nodes] ++ lnS (wunused :: v.unused.map itoa) ++ witS (v.wit.take i)))
        (v.wit.length - i) (loopId (post (flat (bodyOf Tryd.f18)))) (List.drop 1 (post (flat (bodyOf Tryd.f18)))) (FinS Tryd.Y Tryd.f18 fun w h => ∃ r, Frz h w r ∧ r = .s (passS v)) .normal 45 [.p (some (id, 0)), .s s8, lst trC v.wit, .i .i64 v.wit.length, .i .i64 (IntKind.i64.wrap ((i : Nat) + 1))] h' ∨
          ∃ (t : TypeId) (v_1 : V), w = .tup [.i .i64 n, .ifc t v_1] ∧ RoundW Tryd.Y 45 [3, 8, 20, 21, 22] [3, 8, 20, 21, 22] (fun m vs h => ∃ (i id : Nat) (s8 : List UInt8), vs = [.p (some (id, 0)), .s s8, lst trC v.wit, .i .i64 v.wit.length, .i .i64 (i : Nat)] ∧ i ≤ v.wit.length ∧ m = v.wit.length - i ∧ Bd h id (lnS [wpass, itoa v.nodes] ++ lnS (wunused :: v.unused.map itoa) ++ witS (v.wit.take i)))
        (v.wit.length - i) (loopId (post (flat (bodyOf Tryd.f18)))) (List.drop 1 (post (flat (bodyOf Tryd.f18)))) (FinS Tryd.Y Tryd.f18 fun w h => ∃ r, Frz h w r ∧ r = .s (passS v)) .normal 45 [.p (some (id, 0)), .s s8, lst trC v.wit, .i .i64 v.wit.length, .i .i64 (IntKind.i64.wrap ((i : Nat) + 1))] h' := by
      intro hz
      have hl := linesS_len okt
      refine ⟨_, lines_con okt, (wstr_con hb _ (by simp only [List.length_append] at hbs ⊢; omega)).mono fun w h' ⟨e, b⟩ => ⟨_, .inl ⟨e, next h' ?_⟩⟩⟩
      rw [oneW, if_pos hz]; exact b
    refine ⟨bnd_nat hlt, _, _, _, _, _, getTr v.wit hlt, if_mk (fun h1 => write ?_) (fun h1 => if_mk (fun h2 => write ?_) (fun h2 => if_pos_nat (fun h3 => write ?_) (fun h3 => next h ?_)))⟩
    · simp [nzT, h1]
    · simp [nzT, h2]
    · simp [nzT, h3]
    · have : nzT v.wit[i] = false := by simp only [nzT, h1, h2, h3]; simp
      rw [oneW, this]; simpa using hb
  · refine roundW_exit [3] (by kernel_rfl) rfl rfl ?_
    refine end_rule Tryd.Yok (loc := Tryd.Y.loc 18) 100 [2] ?_
    refine Eq.mpr (f18_2 id h _) ?_
    rw [List.take_of_length_le hge] at hb hwt
    exact (bstr_con hb (by simp only [List.length_append] at hbs ⊢; omega)).mono fun w h' e => ⟨_, e, finV1 (.inr rfl) rfl (.s _) rfl⟩
end Go.Y

/- What the pieces of functions come to: printed by program. -/
namespace Go.Y
open Go.Proofs
set_option maxRecDepth 100000
set_option maxHeartbeats 0
theorem f3_0 (x0Kind : Int) (x0Where : Int) (x0Place : Int) (x0Err : Int) (x0Fault : Int) (x0TraceKind : Int) (x0TraceN : Int) (cs0TraceChoices : List V) (n0TraceChoices : Nat) (cs0Unused : List V) (n0Unused : Nat) (cs0Witness : List V) (n0Witness : Nat) (x0Nodes : Int) (h : Heap) (K : Out → Nat → List V → Heap → Prop) : (codeP Tryd.Y (Tryd.Y.loc 3) 100 (pre (flat (bodyOf Tryd.f3))) ⟨(V.agg [V.i IntKind.i64 x0Kind, V.i IntKind.i64 x0Where, V.i IntKind.i64 x0Place, V.i IntKind.i64 x0Err, V.i IntKind.i64 x0Fault, V.i IntKind.i64 x0TraceKind, V.i IntKind.i64 x0TraceN, V.ts cs0TraceChoices n0TraceChoices none, V.ts cs0Unused n0Unused none, V.ts cs0Witness n0Witness none, V.i IntKind.i64 x0Nodes] :: List.replicate 40 .undef), [], h⟩ (VQ [1, 2, 25, 26, 27] K)) =
  (∃ (b : Bool),
  (PCon Tryd.Y (5 : Nat) [] fun (v : V) => v = V.b b) ∧
 If (!b)
 (K Out.ret 41
 [V.lb
 [V.i IntKind.i64 x0Kind, V.i IntKind.i64 x0Where, V.i IntKind.i64 x0Place, V.i IntKind.i64 x0Err,
 V.i IntKind.i64 x0Fault, V.i IntKind.i64 x0TraceKind, V.i IntKind.i64 x0TraceN,
 V.ts cs0TraceChoices n0TraceChoices none, V.ts cs0Unused n0Unused none, V.ts cs0Witness n0Witness none,
 V.i IntKind.i64 x0Nodes],
 V.b false, V.undef, V.undef, V.undef]
 h)
 (If (ltI (20 : Int) (↑n0Unused : Int))
 (K Out.ret 41
 [V.lb
 [V.i IntKind.i64 x0Kind, V.i IntKind.i64 x0Where, V.i IntKind.i64 x0Place, V.i IntKind.i64 x0Err,
 V.i IntKind.i64 x0Fault, V.i IntKind.i64 x0TraceKind, V.i IntKind.i64 x0TraceN,
 V.ts cs0TraceChoices n0TraceChoices none, V.ts cs0Unused n0Unused none, V.ts cs0Witness n0Witness none,
 V.i IntKind.i64 x0Nodes],
 V.b true, V.undef, V.undef, V.undef]
 h)
 (If (ltI (12 : Int) (↑n0Witness : Int))
 (K Out.ret 41
 [V.lb
 [V.i IntKind.i64 x0Kind, V.i IntKind.i64 x0Where, V.i IntKind.i64 x0Place, V.i IntKind.i64 x0Err,
 V.i IntKind.i64 x0Fault, V.i IntKind.i64 x0TraceKind, V.i IntKind.i64 x0TraceN,
 V.ts cs0TraceChoices n0TraceChoices none, V.ts cs0Unused n0Unused none,
 V.ts cs0Witness n0Witness none, V.i IntKind.i64 x0Nodes],
 V.b true, V.undef, V.undef, V.undef]
 h)
 (If (ltI (30 : Int) (↑n0TraceChoices : Int))
 (K Out.ret 41
 [V.lb
 [V.i IntKind.i64 x0Kind, V.i IntKind.i64 x0Where, V.i IntKind.i64 x0Place, V.i IntKind.i64 x0Err,
 V.i IntKind.i64 x0Fault, V.i IntKind.i64 x0TraceKind, V.i IntKind.i64 x0TraceN,
 V.ts cs0TraceChoices n0TraceChoices none, V.ts cs0Unused n0Unused none,
 V.ts cs0Witness n0Witness none, V.i IntKind.i64 x0Nodes],
 V.b true, V.undef, V.undef, V.undef]
 h)
 (K Out.normal 41
 [V.lb
 [V.i IntKind.i64 x0Kind, V.i IntKind.i64 x0Where, V.i IntKind.i64 x0Place, V.i IntKind.i64 x0Err,
 V.i IntKind.i64 x0Fault, V.i IntKind.i64 x0TraceKind, V.i IntKind.i64 x0TraceN,
 V.ts cs0TraceChoices n0TraceChoices none, V.ts cs0Unused n0Unused none,
 V.ts cs0Witness n0Witness none, V.i IntKind.i64 x0Nodes],
 V.b false, V.ts cs0Witness n0Witness none, V.i IntKind.i64 (↑n0Witness : Int),
 V.i IntKind.i64 (0 : Int)]
 h))))) := by kernel_rfl
theorem f3_1 (x0Kind : Int) (x0Where : Int) (x0Place : Int) (x0Err : Int) (x0Fault : Int) (x0TraceKind : Int) (x0TraceN : Int) (cs0TraceChoices : List V) (n0TraceChoices : Nat) (cs0Unused : List V) (n0Unused : Nat) (cs0Witness : List V) (n0Witness : Nat) (x0Nodes : Int) (x27 : Int) (h : Heap) (K : Out → Nat → List V → Heap → Prop) : (codeP Tryd.Y (Tryd.Y.loc 3) 100 ((flat (loopB (post (flat (bodyOf Tryd.f3)))))) ⟨mk 41 (([1, 25, 26, 27] : List Nat).zip [V.lb [V.i IntKind.i64 x0Kind, V.i IntKind.i64 x0Where, V.i IntKind.i64 x0Place, V.i IntKind.i64 x0Err, V.i IntKind.i64 x0Fault, V.i IntKind.i64 x0TraceKind, V.i IntKind.i64 x0TraceN, V.ts cs0TraceChoices n0TraceChoices none, V.ts cs0Unused n0Unused none, V.ts cs0Witness n0Witness none, V.i IntKind.i64 x0Nodes], V.ts cs0Witness n0Witness none, V.i IntKind.i64 (↑n0Witness : Int), V.i IntKind.i64 x27]), [], h⟩ (VQ [1, 2, 25, 26, 27] K)) =
  (If (ltI x27 (↑n0Witness : Int))
  (((0 : Int) ≤ x27 ∧ x27 < (↑n0Witness : Int)) ∧
 ∃ (n : Int),
 ∃ (n_1 : Int),
 ∃ (cs : List V),
 ∃ (l : Nat),
 ∃ (c : Option Nat),
 takeX 3 (List.drop (x27.toNat * (3 : Nat)) cs0Witness) =
 some [V.i IntKind.i64 n, V.i IntKind.i64 n_1, V.ts cs l c] ∧
 If (ltI (30 : Int) (↑l : Int))
 (K Out.ret 41
 [V.lb
 [V.i IntKind.i64 x0Kind, V.i IntKind.i64 x0Where, V.i IntKind.i64 x0Place,
 V.i IntKind.i64 x0Err, V.i IntKind.i64 x0Fault, V.i IntKind.i64 x0TraceKind,
 V.i IntKind.i64 x0TraceN, V.ts cs0TraceChoices n0TraceChoices none,
 V.ts cs0Unused n0Unused none, V.ts cs0Witness n0Witness none, V.i IntKind.i64 x0Nodes],
 V.b true, V.ts cs0Witness n0Witness none, V.i IntKind.i64 (↑n0Witness : Int), V.i IntKind.i64 x27]
 h)
 (K Out.normal 41
 [V.lb
 [V.i IntKind.i64 x0Kind, V.i IntKind.i64 x0Where, V.i IntKind.i64 x0Place,
 V.i IntKind.i64 x0Err, V.i IntKind.i64 x0Fault, V.i IntKind.i64 x0TraceKind,
 V.i IntKind.i64 x0TraceN, V.ts cs0TraceChoices n0TraceChoices none,
 V.ts cs0Unused n0Unused none, V.ts cs0Witness n0Witness none, V.i IntKind.i64 x0Nodes],
 V.undef, V.ts cs0Witness n0Witness none, V.i IntKind.i64 (↑n0Witness : Int),
 V.i IntKind.i64 (IntKind.i64.wrap (x27 + (1 : Int)))]
 h))
  (K (Out.exit 0) 41
 [V.lb
 [V.i IntKind.i64 x0Kind, V.i IntKind.i64 x0Where, V.i IntKind.i64 x0Place, V.i IntKind.i64 x0Err,
 V.i IntKind.i64 x0Fault, V.i IntKind.i64 x0TraceKind, V.i IntKind.i64 x0TraceN,
 V.ts cs0TraceChoices n0TraceChoices none, V.ts cs0Unused n0Unused none, V.ts cs0Witness n0Witness none,
 V.i IntKind.i64 x0Nodes],
 V.undef, V.ts cs0Witness n0Witness none, V.i IntKind.i64 (↑n0Witness : Int), V.i IntKind.i64 x27]
 h)) := by kernel_rfl
theorem f3_2 (x0Kind : Int) (x0Where : Int) (x0Place : Int) (x0Err : Int) (x0Fault : Int) (x0TraceKind : Int) (x0TraceN : Int) (cs0TraceChoices : List V) (n0TraceChoices : Nat) (cs0Unused : List V) (n0Unused : Nat) (cs0Witness : List V) (n0Witness : Nat) (x0Nodes : Int) (h : Heap) (K : Out → Nat → List V → Heap → Prop) : (codeP Tryd.Y (Tryd.Y.loc 3) 100 (((post (flat (bodyOf Tryd.f3))).drop 1)) ⟨mk 41 (([1] : List Nat).zip [V.lb [V.i IntKind.i64 x0Kind, V.i IntKind.i64 x0Where, V.i IntKind.i64 x0Place, V.i IntKind.i64 x0Err, V.i IntKind.i64 x0Fault, V.i IntKind.i64 x0TraceKind, V.i IntKind.i64 x0TraceN, V.ts cs0TraceChoices n0TraceChoices none, V.ts cs0Unused n0Unused none, V.ts cs0Witness n0Witness none, V.i IntKind.i64 x0Nodes]]), [], h⟩ (VQ [2] K)) =
  (∃ (s : List UInt8),
  (PCon Tryd.Y (6 : Nat)
 [V.agg
 [V.i IntKind.i64 x0Kind, V.i IntKind.i64 x0Where, V.i IntKind.i64 x0Place, V.i IntKind.i64 x0Err,
 V.i IntKind.i64 x0Fault, V.i IntKind.i64 x0TraceKind, V.i IntKind.i64 x0TraceN,
 V.ts cs0TraceChoices n0TraceChoices none, V.ts cs0Unused n0Unused none, V.ts cs0Witness n0Witness none,
 V.i IntKind.i64 x0Nodes]]
 fun (v : V) => v = V.s s) ∧
 ∃ (s_1 : List UInt8),
 (PCon Tryd.Y (7 : Nat)
 [V.agg
 [V.i IntKind.i64 x0Kind, V.i IntKind.i64 x0Where, V.i IntKind.i64 x0Place, V.i IntKind.i64 x0Err,
 V.i IntKind.i64 x0Fault, V.i IntKind.i64 x0TraceKind, V.i IntKind.i64 x0TraceN,
 V.ts cs0TraceChoices n0TraceChoices none, V.ts cs0Unused n0Unused none, V.ts cs0Witness n0Witness none,
 V.i IntKind.i64 x0Nodes]]
 fun (v : V) => v = V.s s_1) ∧
 K Out.ret 41 [V.b (s == s_1)] h) := by kernel_rfl
theorem f4_0 (x0PC : Int) (cs0Vars : List V) (n0Vars : Nat) (s0Cuts_0 : List UInt8) (s0Cuts_1 : List UInt8) (s0Cuts_2 : List UInt8) (s0Cuts_3 : List UInt8) (s0Cuts_4 : List UInt8) (s0Cuts_5 : List UInt8) (s0Cuts_6 : List UInt8) (s0Cuts_7 : List UInt8) (s0Cuts_8 : List UInt8) (s0Cuts_9 : List UInt8) (cs0Stack : List V) (n0Stack : Nat) (x0Mode : Int) (x0Err : Int) (x0Use : Int) (x0Timeout : Int) (x0Elapsed : Int) (cs0Before : List V) (n0Before : Nat) (cs0After : List V) (n0After : Nat) (cs0Sides : List V) (n0Sides : Nat) (s1 : List UInt8) (h : Heap) (K : Out → Nat → List V → Heap → Prop) : (codeP Tryd.Y (Tryd.Y.loc 4) 100 ((flat (bodyOf Tryd.f4))) ⟨(V.agg [V.i IntKind.i64 x0PC, V.ts cs0Vars n0Vars none, V.s s0Cuts_0, V.s s0Cuts_1, V.s s0Cuts_2, V.s s0Cuts_3, V.s s0Cuts_4, V.s s0Cuts_5, V.s s0Cuts_6, V.s s0Cuts_7, V.s s0Cuts_8, V.s s0Cuts_9, V.ts cs0Stack n0Stack none, V.i IntKind.i64 x0Mode, V.i IntKind.i64 x0Err, V.i IntKind.i64 x0Use, V.i IntKind.i64 x0Timeout, V.i IntKind.i64 x0Elapsed, V.ts cs0Before n0Before none, V.ts cs0After n0After none, V.ts cs0Sides n0Sides none] :: V.s s1 :: List.replicate 26 .undef), [], h⟩ (VQ [4] K)) =
  (∃ (b : Bool),
  (PCon Tryd.Y (5 : Nat) [] fun (v : V) => v = V.b b) ∧
 If (!b) (K Out.ret 28 [V.b false] h)
 (∃ (b : Bool),
 (PCon Tryd.Y (8 : Nat)
 [V.agg
 [V.sl none 0 (some 0) 0,
 V.sl none 0 (some 0) 0,
 V.sl none 0 (some 0) 0, V.i IntKind.i64 (0 : Int),
 V.i IntKind.i64 (0 : Int)],
 V.agg
 [V.i IntKind.i64 x0PC, V.ts cs0Vars n0Vars none, V.s s0Cuts_0, V.s s0Cuts_1, V.s s0Cuts_2, V.s s0Cuts_3,
 V.s s0Cuts_4, V.s s0Cuts_5, V.s s0Cuts_6, V.s s0Cuts_7, V.s s0Cuts_8, V.s s0Cuts_9,
 V.ts cs0Stack n0Stack none, V.i IntKind.i64 x0Mode, V.i IntKind.i64 x0Err, V.i IntKind.i64 x0Use,
 V.i IntKind.i64 x0Timeout, V.i IntKind.i64 x0Elapsed, V.ts cs0Before n0Before none,
 V.ts cs0After n0After none, V.ts cs0Sides n0Sides none]]
 fun (v : V) => v = V.b b) ∧
 If (!b) (K Out.ret 28 [V.b true] h)
 (If (ltI (60 : Int) (↑s1.length : Int)) (K Out.ret 28 [V.b true] h)
 (∃ (s : List UInt8),
 (PCon Tryd.Y (9 : Nat)
 [V.agg
 [V.i IntKind.i64 x0PC, V.ts cs0Vars n0Vars none, V.s s0Cuts_0, V.s s0Cuts_1, V.s s0Cuts_2,
 V.s s0Cuts_3, V.s s0Cuts_4, V.s s0Cuts_5, V.s s0Cuts_6, V.s s0Cuts_7, V.s s0Cuts_8,
 V.s s0Cuts_9, V.ts cs0Stack n0Stack none, V.i IntKind.i64 x0Mode, V.i IntKind.i64 x0Err,
 V.i IntKind.i64 x0Use, V.i IntKind.i64 x0Timeout, V.i IntKind.i64 x0Elapsed,
 V.ts cs0Before n0Before none, V.ts cs0After n0After none, V.ts cs0Sides n0Sides none]]
 fun (v : V) => v = V.s s) ∧
 ∃ (s_1 : List UInt8),
 (PCon Tryd.Y (10 : Nat)
 [V.agg
 [V.i IntKind.i64 x0PC, V.ts cs0Vars n0Vars none, V.s s0Cuts_0, V.s s0Cuts_1, V.s s0Cuts_2,
 V.s s0Cuts_3, V.s s0Cuts_4, V.s s0Cuts_5, V.s s0Cuts_6, V.s s0Cuts_7, V.s s0Cuts_8,
 V.s s0Cuts_9, V.ts cs0Stack n0Stack none, V.i IntKind.i64 x0Mode, V.i IntKind.i64 x0Err,
 V.i IntKind.i64 x0Use, V.i IntKind.i64 x0Timeout, V.i IntKind.i64 x0Elapsed,
 V.ts cs0Before n0Before none, V.ts cs0After n0After none, V.ts cs0Sides n0Sides none]]
 fun (v : V) => v = V.s s_1) ∧
 If (s == s_1)
 (∃ (s : List UInt8),
 (PCon Tryd.Y (11 : Nat) [V.s s1] fun (v : V) => v = V.s s) ∧
 ∃ (s_2 : List UInt8),
 (PCon Tryd.Y (12 : Nat) [V.s s1] fun (v : V) => v = V.s s_2) ∧
 K Out.ret 28 [V.b (s == s_2)] h)
 (K Out.ret 28 [V.b false] h))))) := by kernel_rfl
end Go.Y
