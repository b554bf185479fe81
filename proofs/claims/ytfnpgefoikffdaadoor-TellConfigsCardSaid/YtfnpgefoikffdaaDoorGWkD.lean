/- What is handed in may be known less well, however deep. -/
import Derived.Test.YtfnpgefoikffdaaDoorGRule
import Derived.Test.YtfnpgefoikffdaaDoorYTrydP
import Derived.Test.YtfnpgefoikffdaaDoorYFun
import Derived.Test.YtfnpgefoikffdaaDoorGTell12
import Derived.Test.YtfnpgefoikffdaaDoorYRow
import Derived.Lib.LaidTab
import Derived.Test.YtfnpgefoikffdaaDoorRows
namespace Go.Y

mutual
inductive WkD : V → V → Prop
  | same (v : V) : WkD v v
  | nil (c : Option Nat) (k : Nat) : WkD (.sl none 0 c k) (.ts [] 0 none)
  | ts (cs cs' : List V) (n : Nat) (c : Option Nat) (h : WkDs cs cs') : WkD (.ts cs n c) (.ts cs' n none)
  | agg (cs cs' : List V) (h : WkDs cs cs') : WkD (.agg cs) (.agg cs')
inductive WkDs : List V → List V → Prop
  | nil : WkDs [] []
  | cons (v v' : V) (l l' : List V) (h : WkD v v') (hl : WkDs l l') : WkDs (v :: l) (v' :: l')
end

mutual
theorem WkD.vr {W : Vw} {v v' : V} (h : WkD v v') {u : Value} (r : VR W v u) : VR W v' u := by
  cases h with
  | same => exact r
  | nil c k => cases r; exact .tsz _ (fun c h => by cases h)
  | ts cs cs' n c h =>
    cases r with
    | tsn _ _ a cap' hl hc => cases h; exact .tsn _ _ a cap' hl (fun c h => by cases h)
    | tsz _ hc => cases h; exact .tsz _ (fun c h => by cases h)
    | ts _ _ _ cap' blk off c e fr us hl hcap hs hc hr => exact .ts _ _ _ cap' blk off c e fr us hl (fun c h => by cases h) hs hc (WkDs.vr h hr)
  | agg cs cs' h => cases r with | agg _ us h1 => exact .agg _ _ (WkDs.vr h h1)
theorem WkDs.vr {W : Vw} {l l' : List V} (h : WkDs l l') {us : List Value} (r : VRs W l us) : VRs W l' us := by
  cases h with
  | nil => cases r; exact .nil
  | cons v v' l l' h hl => cases r with | cons _ _ _ _ h1 h2 => exact .cons _ _ _ _ (WkD.vr h h1) (WkDs.vr hl h2)
end
theorem PCon.wkD {Y : YP} {f : FuncId} {args args' : List V} {P : V → Prop} (hw : WkDs args args') (h : PCon Y f args' P) : PCon Y f args P :=
  ⟨h.body, fun W w us hs hg hv => h.tr W w us hs hg (hw.vr hv)⟩
end Go.Y

/- What the pieces of functions come to: printed by program. -/
namespace Go.Y
open Go.Proofs
set_option maxRecDepth 100000
set_option maxHeartbeats 0
theorem f5_0  (h : Heap) (K : Out → Nat → List V → Heap → Prop) : (codeP Tryd.Y (Tryd.Y.loc 5) 100 ((flat (bodyOf Tryd.f5))) ⟨(List.replicate 23 .undef), [], h⟩ (VQ [0] K)) =
  (∃ (s : List UInt8),
  (PCon Tryd.Y (6 : Nat)
 [V.agg
 [V.i IntKind.i64 (2 : Int), V.i IntKind.i64 (0 : Int), V.i IntKind.i64 (0 : Int), V.i IntKind.i64 (0 : Int),
 V.i IntKind.i64 (1 : Int), V.i IntKind.i64 (1 : Int), V.i IntKind.i64 (1 : Int),
 V.ts
 [V.i IntKind.i64 (1 : Int), V.i IntKind.i64 (0 : Int), V.i IntKind.i64 (0 : Int),
 V.i IntKind.i64 (1 : Int), V.i IntKind.i64 (0 : Int), V.i IntKind.i64 (0 : Int)]
 2 (some 2),
 V.sl none 0 (some 0) 0, V.sl none 0 (some 0) 0,
 V.i IntKind.i64 (4 : Int)]]
 fun (v : V) => v = V.s s) ∧
 If
 (s ==
 ([103, 117, 105, 108, 116, 121, 32, 100, 101, 97, 100, 108, 111, 99, 107, 32, 52, 10, 102, 97, 117, 108, 116, 32, 100, 101, 97, 100, 108, 111, 99, 107, 10, 50, 32, 115, 99, 114, 105, 112, 116, 10] : List UInt8))
 (∃ (s : List UInt8),
 (PCon Tryd.Y (9 : Nat)
 [V.agg
 [V.i IntKind.i64 (3 : Int), V.sl none 0 (some 0) 0, V.s [], V.s [],
 V.s [], V.s [], V.s [], V.s [], V.s [], V.s [], V.s [], V.s [],
 V.sl none 0 (some 0) 0, V.i IntKind.i64 (1 : Int),
 V.i IntKind.i64 (0 : Int), V.i IntKind.i64 (0 : Int), V.i IntKind.i64 (0 : Int),
 V.i IntKind.i64 (0 : Int), V.sl none 0 (some 0) 0,
 V.sl none 0 (some 0) 0,
 V.ts
 [V.b true, V.b false, V.b false, V.i IntKind.i64 (0 : Int), V.i IntKind.i64 (0 : Int), V.s [],
 V.sl none 0 (some 0) 0, V.s [],
 V.sl none 0 (some 0) 0, V.s ([97, 10] : List UInt8),
 V.s []]
 1 (some 1)]]
 fun (v : V) => v = V.s s) ∧
 If
 (s ==
 ([119, 97, 105, 116, 115, 32, 51, 10, 112, 101, 101, 114, 32, 48, 32, 48, 32, 48, 32, 114, 101, 97, 100, 121, 32, 34, 97, 92, 110, 34, 10] : List UInt8))
 (∃ (s : List UInt8),
 (PCon Tryd.Y (11 : Nat) [V.s ([] : List UInt8)] fun (v : V) => v = V.s s) ∧
 K Out.ret 23 [V.b (s == ([34, 34] : List UInt8))] h)
 (K Out.ret 23 [V.b false] h))
 (K Out.ret 23 [V.b false] h)) := by kernel_rfl
end Go.Y

/- The layer's own test run; what a verdict is told as: the law. -/
namespace Go.Y
open Go.Proofs Go.Lib
set_option maxRecDepth 100000
set_option linter.unusedVariables false
set_option linter.unusedSimpArgs false

theorem itoa_dig {n : Nat} (h : n < 10) : itoa (n : Int) = [UInt8.ofNat (48 + n)] := by
  unfold itoa
  rw [if_neg (by omega), Int.toNat_natCast, decDigits_one h]
def v0 : Ver := ⟨2, 0, 0, 0, 1, ⟨1, 1, [⟨1, 0, 0⟩, ⟨1, 0, 0⟩]⟩, [], [], 4⟩
def side1 : Side := ⟨true, false, false, 0, 0, [], [], [], [], [97, 10], []⟩
def cfg0 : Cfg := ⟨3, [], [], [], [], [], [], [], [], [], [], [], [], 1, 0, 0, 0, 0, [], [], [side1]⟩
theorem okI_lit {n : Int} (h : 0 ≤ n) (h2 : n ≤ 1000) : okI n := ⟨by omega, by omega⟩
theorem okv0 : okVer v0 := ⟨okI_lit (by decide) (by decide), okI_lit (by decide) (by decide), okI_lit (by decide) (by decide), okI_lit (by decide) (by decide), ⟨okI_lit (by decide) (by decide), by
  intro c hc
  simp [v0] at hc
  subst hc
  exact ⟨okI_lit (by decide) (by decide), okI_lit (by decide) (by decide), okI_lit (by decide) (by decide)⟩, by decide⟩, by simp [v0], by decide, by simp [v0], by decide⟩
theorem okside1 : okSd side1 := ⟨okI_lit (by decide) (by decide), okI_lit (by decide) (by decide), by decide, by decide, by simp [side1], by decide, by decide, by decide⟩
theorem okcfg0 : okCfg cfg0 := ⟨okI_lit (by decide) (by decide), okI_lit (by decide) (by decide), by decide, by simp [cfg0], by decide, by simp [cfg0]; exact okside1⟩
theorem i4 : itoa 4 = [52] := itoa_dig (n := 4) (by omega)
theorem i2 : itoa 2 = [50] := itoa_dig (n := 2) (by omega)
theorem i3 : itoa 3 = [51] := itoa_dig (n := 3) (by omega)
theorem i0 : itoa 0 = [48] := itoa_dig (n := 0) (by omega)
theorem ver0 : verS v0 = [103, 117, 105, 108, 116, 121, 32, 100, 101, 97, 100, 108, 111, 99, 107, 32, 52, 10, 102, 97, 117, 108, 116, 32, 100, 101, 97, 100, 108, 111, 99, 107, 10, 50, 32, 115, 99, 114, 105, 112, 116, 10] := by
  have h1 : mayT v0.tr = true := by decide
  have h2 : runN ⟨1, 0, 0⟩ [⟨1, 0, 0⟩] = 1 := by decide
  have h3 : encL v0.tr.cs = [50, 32, 115, 99, 114, 105, 112, 116, 10] := by
    show encL [⟨1, 0, 0⟩, ⟨1, 0, 0⟩] = _
    rw [encL_cons, h2, List.drop_of_length_le (by simp), encL]
    show itoa 2 ++ _ ++ _ ++ _ ++ _ = _
    rw [i2]; rfl
  have h4 : verS v0 = lnS [wguilty, nameS 1, itoa 4] ++ linesS v0.tr := rfl
  rw [h4, linesS, if_pos h1, encT', h3, lnS_cons, i4]
  rfl
theorem cfg0S : cfgS cfg0 = [119, 97, 105, 116, 115, 32, 51, 10, 112, 101, 101, 114, 32, 48, 32, 48, 32, 48, 32, 114, 101, 97, 100, 121, 32, 34, 97, 92, 110, 34, 10] := by
  have h1 : headS cfg0 = lnS [modeS 1, itoa 3] := rfl
  have h2 : sidesN cfg0.sides cfg0.sides.length = lnS [wpeer, itoa 0, itoa 0, itoa 0, wready, quoteS [97, 10]] := rfl
  rw [cfgS, h1, h2, lnS_cons, lnS_cons, i3, i0]
  rfl

theorem awake5 : PCon Tryd.Y 5 [] (· = .b true) := by
  refine tree_con Tryd.Yok (fn := Tryd.f5) (by kernel_rfl) (by kernel_rfl) rfl (fun K => f5_0 .empty K) rfl ?_
  have p1 := verdict_con okv0
  rw [ver0] at p1
  have p2 := config_con okcfg0
  rw [cfg0S] at p2
  refine ⟨_, p1.wkD ?_, if_mk (fun _ => ⟨_, p2.wkD ?_, if_mk (fun _ => ⟨_, text_con (s := []) (by simp), finV1 (.inr rfl) rfl (.b _) rfl⟩) (fun h => absurd h (by decide))⟩) (fun h => absurd h (by decide))⟩
  all_goals
    repeat' first
      | exact WkDs.nil
      | refine WkDs.cons _ _ _ _ ?_ ?_
      | exact WkD.same _
      | exact WkD.nil _ _
      | refine WkD.agg _ _ ?_
      | refine WkD.ts _ _ _ _ ?_

/-! ### the law of verdicts -/
structure wfTr (t : Trc) : Prop where
  n : okI t.n
  cs : ∀ c ∈ t.cs, okCh c
structure wfVer (v : Ver) : Prop where
  whr : okI v.whr
  plc : okI v.plc
  err : okI v.err
  nodes : okI v.nodes
  tr : wfTr v.tr
  un : ∀ x ∈ v.unused, okI x
  wit : ∀ t ∈ v.wit, wfTr t

theorem law3 {v : Ver} (hv : wfVer v) : PCon Tryd.Y 3 [.agg (verC v)] (· = .b true) := by
  refine pcon_of Tryd.Yok (fn := Tryd.f3) (by kernel_rfl) (by kernel_rfl) rfl ?_
  refine pre_tree Tryd.Yok 41 (fun K => f3_0 v.kind v.whr v.plc v.err v.flt v.tr.k v.tr.n (row encCh v.tr.cs) v.tr.cs.length (row encI v.unused) v.unused.length (row trC v.wit) v.wit.length v.nodes .empty K) rfl (by kernel_rfl) ?_
  have yes : ∀ h : Heap, ∃ r, Frz h (.b true) r ∧ r = .b true := fun h => ⟨_, .b _, rfl⟩
  refine ⟨_, awake5, if_mk (fun h => by cases h) (fun _ => if_lt (fun _ => fin_at (.inr rfl) rfl (yes _)) (fun h1 => if_lt (fun _ => fin_at (.inr rfl) rfl (yes _)) (fun h2 => if_lt (fun _ => fin_at (.inr rfl) rfl (yes _)) (fun h3 => ?_))))⟩
  refine ⟨rfl, loop2 [1, 25, 26, 27] [1, 2, 25, 26, 27] rfl (by kernel_rfl) (fun m vs _ => ∃ i : Nat, vs = [.lb (verC v), lst trC v.wit, .i .i64 v.wit.length, .i .i64 (i : Nat)] ∧ i ≤ v.wit.length ∧ m = v.wit.length - i ∧ (v.wit.take i).all (fun t => decide (t.cs.length ≤ 30)) = true) v.wit.length mk_len ⟨0, rfl, by omega, by omega, by simp⟩ ?_⟩
  rintro m vs h ⟨i, rfl, hi, rfl, hall⟩
  refine all_tree Tryd.Yok (fun K => f3_1 v.kind v.whr v.plc v.err v.flt v.tr.k v.tr.n (row encCh v.tr.cs) v.tr.cs.length (row encI v.unused) v.unused.length (row trC v.wit) v.wit.length v.nodes (i : Nat) h K) rfl ?_
  refine if_lt_nat (fun hlt => ?_) (fun hge => ?_)
  · refine ⟨bnd_nat hlt, _, _, _, _, _, getTr v.wit hlt, if_lt (fun _ => fin_at (.inr rfl) rfl (yes _)) (fun h4 => ⟨rfl, v.wit.length - (i + 1), by omega, i + 1, by rw [wrap_succ (by omega)]; rfl, by omega, rfl, all_snoc (p := fun t : Trc => decide (t.cs.length ≤ 30)) hlt hall (by simp; omega)⟩)⟩
  refine roundW_exit [1] (by kernel_rfl) rfl rfl ?_
  rw [List.take_of_length_le hge] at hall
  have hok : okVer v := ⟨hv.whr, hv.plc, hv.err, hv.nodes, ⟨hv.tr.n, hv.tr.cs, by omega⟩, hv.un, by omega, fun t ht => ⟨(hv.wit t ht).n, (hv.wit t ht).cs, by
    have := List.all_eq_true.1 hall t ht
    simp at this; omega⟩, by omega⟩
  refine end_tree Tryd.Yok (fun K => f3_2 v.kind v.whr v.plc v.err v.flt v.tr.k v.tr.n (row encCh v.tr.cs) v.tr.cs.length (row encI v.unused) v.unused.length (row trC v.wit) v.wit.length v.nodes h K) rfl ?_
  exact ⟨_, verdict_con hok, _, rverdict_con hok, finV1 (.inr rfl) rfl (.b _) (by simp)⟩
end Go.Y

/- Shapes of verdicts that come in to the law; the table that is laid. -/
namespace Go.Proofs.YtfnpgefoikffdaaDoor
open Go.Y Go.RowKit
open Go.Proofs
set_option maxRecDepth 100000

theorem own : ownKnob Tryd.prog.godebug = none := by kernel_rfl
theorem laidOut : laidOutB Tryd.prog = true := by kernel_rfl
theorem okI_wf {i : Int} (h : (Lit.int .i64 i).wf = true) : okI i := by
  simp only [Lit.wf, Bool.and_eq_true, decide_eq_true_eq] at h
  have h1 : IntKind.i64.min = -9223372036854775808 := rfl
  have h2 : IntKind.i64.max = 9223372036854775807 := rfl
  rw [h1, h2] at h
  exact h
theorem shp3 {n : Nat} {vs : List V} (h : Shp Tryd.Y n 3 vs) : ∃ x : {x : Int // okI x}, vs = encI x.1 := by
  obtain ⟨x, rfl, hw⟩ := shp_int (show Tryd.Y.kd 3 = some (.int .i64) by kernel_rfl) h
  exact ⟨⟨x, okI_wf hw⟩, rfl⟩
theorem shp22 {n : Nat} {vs : List V} (h : Shp Tryd.Y n 22 vs) : ∃ x : {x : Int // okI x}, vs = encI x.1 := by
  obtain ⟨x, rfl, hw⟩ := shp_int (show Tryd.Y.kd 22 = some (.int .i64) by kernel_rfl) h
  exact ⟨⟨x, okI_wf hw⟩, rfl⟩
theorem shp50 {n : Nat} {vs : List V} (h : Shp Tryd.Y n 50 vs) : ∃ x : {x : Cho // okCh x}, vs = encCh x.1 := by
  obtain ⟨m, rfl, h⟩ := shp_struct (show Tryd.Y.kd 50 = some (.struct [(0, 3), (1, 3), (2, 3)]) by kernel_rfl) h
  obtain ⟨a0, r0, rfl, h0, a1, r1, rfl, h1, a2, r2, rfl, h2, rfl⟩ := h
  obtain ⟨b0, rfl⟩ := shp3 h0
  obtain ⟨b1, rfl⟩ := shp3 h1
  obtain ⟨b2, rfl⟩ := shp3 h2
  exact ⟨⟨⟨b0.1, b1.1, b2.1⟩, b0.2, b1.2, b2.2⟩, rfl⟩
theorem shp23 {n : Nat} {vs : List V} (h : Shp Tryd.Y n 23 vs) : ∃ l : List Cho, vs = [lst encCh l] ∧ ∀ x ∈ l, okCh x := by
  obtain ⟨m, es, rfl, rfl, h, _⟩ := shp_slice (show Tryd.Y.kd 23 = some (.slice 50) by kernel_rfl) h
  obtain ⟨l, hl⟩ := list_of (f := fun x : {x : Cho // okCh x} => encCh x.1) fun x hx => shp50 (h x hx)
  simp at hl
  subst hl
  refine ⟨l.unattach, by simp [lst, row], fun x hx => ?_⟩
  obtain ⟨h, _⟩ := List.mem_unattach.1 hx
  exact h
theorem shp26 {n : Nat} {vs : List V} (h : Shp Tryd.Y n 26 vs) : ∃ l : List Int, vs = [lst encI l] ∧ ∀ x ∈ l, okI x := by
  obtain ⟨m, es, rfl, rfl, h, _⟩ := shp_slice (show Tryd.Y.kd 26 = some (.slice 3) by kernel_rfl) h
  obtain ⟨l, hl⟩ := list_of (f := fun x : {x : Int // okI x} => encI x.1) fun x hx => shp3 (h x hx)
  simp at hl
  subst hl
  refine ⟨l.unattach, by simp [lst, row], fun x hx => ?_⟩
  obtain ⟨h, _⟩ := List.mem_unattach.1 hx
  exact h
theorem shp25 {n : Nat} {vs : List V} (h : Shp Tryd.Y n 25 vs) : ∃ x : {x : Trc // wfTr x}, vs = trC x.1 := by
  obtain ⟨m, rfl, h⟩ := shp_struct (show Tryd.Y.kd 25 = some (.struct [(0, 3), (1, 3), (2, 23)]) by kernel_rfl) h
  obtain ⟨a0, r0, rfl, h0, a1, r1, rfl, h1, a2, r2, rfl, h2, rfl⟩ := h
  obtain ⟨b0, rfl⟩ := shp3 h0
  obtain ⟨b1, rfl⟩ := shp3 h1
  obtain ⟨b2, rfl, hb⟩ := shp23 h2
  exact ⟨⟨⟨b0.1, b1.1, b2⟩, b1.2, hb⟩, rfl⟩
theorem shp27 {n : Nat} {vs : List V} (h : Shp Tryd.Y n 27 vs) : ∃ l : List Trc, vs = [lst trC l] ∧ ∀ x ∈ l, wfTr x := by
  obtain ⟨m, es, rfl, rfl, h, hlen⟩ := shp_slice (show Tryd.Y.kd 27 = some (.slice 25) by kernel_rfl) h
  obtain ⟨l, hl⟩ := list_of (f := fun x : {x : Trc // wfTr x} => trC x.1) fun x hx => shp25 (h x hx)
  simp at hl
  subst hl
  refine ⟨l.unattach, by simp [lst, row], fun x hx => ?_⟩
  obtain ⟨h, _⟩ := List.mem_unattach.1 hx
  exact h
theorem shp29 {n : Nat} {vs : List V} (h : Shp Tryd.Y n 29 vs) : ∃ v : Ver, vs = verC v ∧ wfVer v := by
  obtain ⟨m, rfl, h⟩ := shp_struct (show Tryd.Y.kd 29 = some (.struct [(0, 3), (1, 3), (2, 3), (3, 22), (4, 3), (5, 25), (8, 26), (9, 27), (10, 3)]) by kernel_rfl) h
  obtain ⟨a0, r0, rfl, h0, a1, r1, rfl, h1, a2, r2, rfl, h2, a3, r3, rfl, h3, a4, r4, rfl, h4, a5, r5, rfl, h5, a6, r6, rfl, h6, a7, r7, rfl, h7, a8, r8, rfl, h8, rfl⟩ := h
  obtain ⟨b0, rfl⟩ := shp3 h0
  obtain ⟨b1, rfl⟩ := shp3 h1
  obtain ⟨b2, rfl⟩ := shp3 h2
  obtain ⟨b3, rfl⟩ := shp22 h3
  obtain ⟨b4, rfl⟩ := shp3 h4
  obtain ⟨b5, rfl⟩ := shp25 h5
  obtain ⟨b6, rfl, p6⟩ := shp26 h6
  obtain ⟨b7, rfl, p7⟩ := shp27 h7
  obtain ⟨b8, rfl⟩ := shp3 h8
  exact ⟨⟨b0.1, b1.1, b2.1, b3.1, b4.1, b5.1, b6, b7, b8.1⟩, rfl, ⟨b1.2, b2.2, b3.2, b8.2, b5.2, p6, p7⟩⟩

theorem served29 : ∀ n, servedB Tryd.Y n 29 = true
  | 0 => by kernel_rfl
  | 1 => by kernel_rfl
  | 2 => by kernel_rfl
  | 3 => by kernel_rfl
  | 4 => by kernel_rfl
  | 5 => by kernel_rfl
  | 6 => by kernel_rfl
  | n + 7 => by kernel_rfl

/-- The table of the powers of ten. -/
theorem tabbed {W : World} (h : laidMetH Tryd.prog Rows.tellVerdictsRow.laid W) : Tabbed (inW W) := by
  have h1 : laidMet Tryd.prog [("math/bits.deBruijn32tab", Rows.laid_math_bits_deBruijn32tab), ("math/bits.deBruijn64tab", Rows.laid_math_bits_deBruijn64tab), ("internal/strconv.uint64pow10", Rows.laid_internal_strconv_uint64pow10)] W := h
  obtain ⟨ps, hl, _⟩ := h1
  obtain ⟨_, _, _, _, _, q1, _, _, _, _, hl, _⟩ := hl
  obtain ⟨_, _, _, _, _, q2, _, _, _, _, hl, _⟩ := hl
  obtain ⟨g, t, cs, fuel, p, q3, hg, hty, hvar, hd, _, _⟩ := hl
  have hgn : Tryd.prog.globalNamed "internal/strconv.uint64pow10" = some 0 := by kernel_rfl
  rw [hgn] at hg
  obtain rfl := Option.some.inj hg
  have ht0 : (Tryd.prog.globals[0]?).map (·.type) = some 135 := by kernel_rfl
  rw [ht0] at hty
  obtain rfl := Option.some.inj hty
  have htab : (Rows.laid_internal_strconv_uint64pow10 : DataW Unit) = Lib.tabData .u64 Lib.pow10Tab := by kernel_rfl
  rw [htab] at hd
  have hcs := Lib.cells_of_tab (show Tryd.prog.underlying 135 = some (.array 20 114) by kernel_rfl) (show Tryd.prog.underlying 114 = some (.int .u64) by kernel_rfl) (show Tryd.prog.cellsOf 114 = 1 by kernel_rfl) (show Tryd.prog.cellsOf 135 = 20 by kernel_rfl) hd
  unfold World.var? at hvar
  rw [hgn] at hvar
  simp only [Option.bind_some] at hvar
  split at hvar
  · rename_i c e fr hb
    cases hvar
    intro pr hp
    simp only [tabs, List.mem_cons, List.not_mem_nil, or_false] at hp
    subst hp
    refine ⟨cs, e, fr, hb, ?_⟩
    rw [hcs, show pow10V = Lib.pow10Tab.map (V.i .u64) by kernel_rfl]
    have key : ∀ (zs : List Int) (w : Vw), VRs w (zs.map (V.i .u64)) (zs.map fun z => Value.int .u64 z) := by
      intro zs w
      induction zs with
      | nil => exact .nil
      | cons z zs ih => exact .cons _ _ _ _ (.i _ _) ih
    exact key _ _
  · cases hvar
end Go.Proofs.YtfnpgefoikffdaaDoor
