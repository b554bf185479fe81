/- The library's strings.Join and strconv.Itoa at this dump, by the shelf's contracts (the tables printed by the kit's tool). -/
import Derived.Test.YtfnpgefoikffdaaDoorYTrydP
import Derived.Test.YtfnpgefoikffdaaDoorYRow
import Derived.Test.YtfnpgefoikffdaaDoorYFun
import Derived.Shelf.Strings.OnBuilder
import Derived.Shelf.LaysM
import Derived.Shelf.Strconv.Itoa3
import Derived.Lib.LaidTab
namespace Go.Proofs
open Go.Shelf
def Tryd.lays156_ren : Go.Shelf.Ren := ⟨fun | 156 => 31 | 165 => 44 | 166 => 35 | 169 => 36 | 240 => 50 | 241 => 59 | 276 => 68 | 277 => 72 | n => n, fun | 31 => 51 | 9 => 9 | 3 => 3 | 4 => 4 | 0 => 0 | 20 => 20 | 72 => 86 | 76 => 89 | 70 => 83 | 37 => 84 | 75 => 88 | 127 => 113 | 164 => 129 | 5 => 5 | 80 => 91 | n => n, fun | n => n⟩

theorem Tryd.lays156 : Go.Proofs.Lays.n156 Tryd.prog Tryd.lays156_ren := {
  mixed := by kernel_rfl
  f156 := Tryd.func31.trans (congrArg some (by kernel_rfl))
  f165 := Tryd.func44.trans (congrArg some (by kernel_rfl))
  f166 := Tryd.func35.trans (congrArg some (by kernel_rfl))
  f169 := Tryd.func36.trans (congrArg some (by kernel_rfl))
  f240 := Tryd.func50.trans (congrArg some (by kernel_rfl))
  f241 := Tryd.func59.trans (congrArg some (by kernel_rfl))
  f276 := Tryd.func68.trans (congrArg some (by kernel_rfl))
  f277 := Tryd.func72.trans (congrArg some (by kernel_rfl))
  t0 := Tryd.underlying0
  a0 := Tryd.isAgg0
  z0 := Tryd.sizeOf0
  v0 := Tryd.zeroValue0
  t3 := Tryd.underlying3
  a3 := Tryd.isAgg3
  z3 := Tryd.sizeOf3
  v3 := Tryd.zeroValue3
  t4 := Tryd.underlying4
  a4 := Tryd.isAgg4
  z4 := Tryd.sizeOf4
  v4 := Tryd.zeroValue4
  t9 := Tryd.underlying9
  a9 := Tryd.isAgg9
  z9 := Tryd.sizeOf9
  v9 := Tryd.zeroValue9
  t20 := Tryd.underlying20
  a20 := Tryd.isAgg20
  z20 := Tryd.sizeOf20
  v20 := Tryd.zeroValue20
  t31 := Tryd.underlying51
  a31 := Tryd.isAgg51
  z31 := Tryd.sizeOf51
  v31 := Tryd.zeroValue51
  t37 := Tryd.underlying84
  a37 := Tryd.isAgg84
  z37 := Tryd.sizeOf84
  v37 := Tryd.zeroValue84
  t70 := Tryd.underlying83
  a70 := Tryd.isAgg83
  z70 := Tryd.sizeOf83
  v70 := Tryd.zeroValue83
  t72 := Tryd.underlying86
  a72 := Tryd.isAgg86
  z72 := Tryd.sizeOf86
  v72 := Tryd.zeroValue86
  t75 := Tryd.underlying88
  a75 := Tryd.isAgg88
  z75 := Tryd.sizeOf88
  v75 := Tryd.zeroValue88
  t76 := Tryd.underlying89
  a76 := Tryd.isAgg89
  z76 := Tryd.sizeOf89
  v76 := Tryd.zeroValue89
  t127 := Tryd.underlying113
  a127 := Tryd.isAgg113
  z127 := Tryd.sizeOf113
  v127 := Tryd.zeroValue113
  t164 := Tryd.underlying129
  a164 := Tryd.isAgg129
  z164 := Tryd.sizeOf129
  v164 := Tryd.zeroValue129 }

theorem Tryd.Builder_Extra_156 : Builder.Extra Tryd.prog Tryd.lays156_ren := {
  sizeBuilder := by kernel_rfl
  liesBuilder := by kernel_rfl
  t5 := Tryd.underlying5
  a5 := Tryd.isAgg5
  z5 := Tryd.sizeOf5
  v5 := Tryd.zeroValue5
  infoByte := by kernel_rfl
  cellsByte := by kernel_rfl
  sizeByte := by kernel_rfl
  neB5 := by decide }

def Tryd.laysM171_ren : Go.Shelf.Ren := ⟨fun | 171 => 16 | 243 => 33 | 246 => 46 | 283 => 60 | 284 => 61 | 285 => 62 | 286 => 63 | 129 => 74 | 317 => 73 | 318 => 75 | 319 => 76 | 320 => 77 | 337 => 81 | 338 => 82 | n => n, fun | 3 => 3 | 9 => 9 | 2 => 2 | 4 => 4 | 171 => 122 | 0 => 0 | 53 => 114 | 37 => 84 | 5 => 5 | 173 => 125 | 212 => 135 | 51 => 136 | 20 => 20 | 213 => 137 | 46 => 121 | 232 => 142 | 233 => 143 | n => n, fun | 17 => 0 | 18 => 2 | 19 => 3 | n => n⟩

theorem Tryd.laysM171 : Go.Proofs.LaysM.n171 Tryd.prog Tryd.laysM171_ren := {
  mixed := by kernel_rfl
  f129 := Tryd.func74.trans (congrArg some (by kernel_rfl))
  f171 := Tryd.func16.trans (congrArg some (by kernel_rfl))
  f243 := Tryd.func33.trans (congrArg some (by kernel_rfl))
  f246 := Tryd.func46.trans (congrArg some (by kernel_rfl))
  f283 := Tryd.func60.trans (congrArg some (by kernel_rfl))
  f284 := Tryd.func61.trans (congrArg some (by kernel_rfl))
  f285 := Tryd.func62.trans (congrArg some (by kernel_rfl))
  f286 := Tryd.func63.trans (congrArg some (by kernel_rfl))
  f317 := Tryd.func73.trans (congrArg some (by kernel_rfl))
  f318 := Tryd.func75.trans (congrArg some (by kernel_rfl))
  f319 := Tryd.func76.trans (congrArg some (by kernel_rfl))
  f320 := Tryd.func77.trans (congrArg some (by kernel_rfl))
  f337 := Tryd.func81.trans (congrArg some (by kernel_rfl))
  f338 := Tryd.func82.trans (congrArg some (by kernel_rfl))
  t0 := Tryd.underlying0
  a0 := Tryd.isAgg0
  z0 := Tryd.sizeOf0
  v0 := Tryd.zeroValue0
  t2 := Tryd.underlying2
  a2 := Tryd.isAgg2
  z2 := Tryd.sizeOf2
  v2 := Tryd.zeroValue2
  t3 := Tryd.underlying3
  a3 := Tryd.isAgg3
  z3 := Tryd.sizeOf3
  v3 := Tryd.zeroValue3
  t4 := Tryd.underlying4
  a4 := Tryd.isAgg4
  z4 := Tryd.sizeOf4
  v4 := Tryd.zeroValue4
  t5 := Tryd.underlying5
  a5 := Tryd.isAgg5
  z5 := Tryd.sizeOf5
  v5 := Tryd.zeroValue5
  t9 := Tryd.underlying9
  a9 := Tryd.isAgg9
  z9 := Tryd.sizeOf9
  v9 := Tryd.zeroValue9
  t20 := Tryd.underlying20
  a20 := Tryd.isAgg20
  z20 := Tryd.sizeOf20
  v20 := Tryd.zeroValue20
  t37 := Tryd.underlying84
  a37 := Tryd.isAgg84
  z37 := Tryd.sizeOf84
  v37 := Tryd.zeroValue84
  t46 := Tryd.underlying121
  a46 := Tryd.isAgg121
  z46 := Tryd.sizeOf121
  v46 := Tryd.zeroValue121
  t51 := Tryd.underlying136
  a51 := Tryd.isAgg136
  z51 := Tryd.sizeOf136
  v51 := Tryd.zeroValue136
  t53 := Tryd.underlying114
  a53 := Tryd.isAgg114
  z53 := Tryd.sizeOf114
  v53 := Tryd.zeroValue114
  t171 := Tryd.underlying122
  a171 := Tryd.isAgg122
  z171 := Tryd.sizeOf122
  v171 := Tryd.zeroValue122
  t173 := Tryd.underlying125
  a173 := Tryd.isAgg125
  z173 := Tryd.sizeOf125
  v173 := Tryd.zeroValue125
  t212 := Tryd.underlying135
  a212 := Tryd.isAgg135
  z212 := Tryd.sizeOf135
  v212 := Tryd.zeroValue135
  t213 := Tryd.underlying137
  a213 := Tryd.isAgg137
  z213 := Tryd.sizeOf137
  t232 := Tryd.underlying142
  a232 := Tryd.isAgg142
  z232 := Tryd.sizeOf142
  v232 := Tryd.zeroValue142
  t233 := Tryd.underlying143
  a233 := Tryd.isAgg143
  z233 := Tryd.sizeOf143
  v233 := Tryd.zeroValue143
  g17 := by kernel_rfl
  g18 := by kernel_rfl
  g19 := by kernel_rfl
  i0 := by kernel_rfl
  i2 := by kernel_rfl
  i3 := by kernel_rfl
  i4 := by kernel_rfl
  i5 := by kernel_rfl
  i9 := by kernel_rfl
  i20 := by kernel_rfl
  i37 := by kernel_rfl
  i46 := by kernel_rfl
  i51 := by kernel_rfl
  i53 := by kernel_rfl
  i171 := by kernel_rfl
  i173 := by kernel_rfl
  i212 := by kernel_rfl
  i232 := by kernel_rfl
  i233 := by kernel_rfl
  m17 := by kernel_rfl
  m18 := by kernel_rfl
  m19 := by kernel_rfl }

end Go.Proofs
namespace Go.Y
open Go.Proofs Go.Shelf Go.Lib Go.Sort
set_option linter.unusedVariables false
set_option linter.unusedSimpArgs false

theorem below_snap {W : Vw} {w w' : World} (h : RowKit.Below w.heap.size w w') (hs : ∀ b o, W.snap b = some o → w.heap[b]? = some o) (b : Nat) (o : Obj) (hb : W.snap b = some o) : w'.heap[b]? = some o := by
  have h1 := hs b o hb
  rw [h.block b (lt_of_block h1)]; exact h1

/-- A call of the library's that hands back a string. -/
theorem pcon_lib {Y : YP} {f : FuncId} {args : List V} {s : List UInt8} (hb : hasBody Y f) (h : ∀ (W : Vw) (w : World) (us : List Value), (∀ b o, W.snap b = some o → w.heap[b]? = some o) → Tabbed W → VRs W args us →
    Calls Y.P f us.toArray w fun e w' => e = .returned (.string ⟨s.toArray⟩) ∧ RowKit.Below w.heap.size w w') : PCon Y f args (· = .s s) :=
  ⟨hb, fun W w us hs hg hv => (h W w us hs hg hv).mono fun e w' ⟨he, hbw⟩ =>
    ⟨.s s, W, _, rfl, he, .s s, fun _ _ h => h, fun b o hb => below_snap hbw hs b o hb, fun b hb => .inl hb, hbw.size, fun b hb => hbw.block b hb, fun _ _ => .s s, ⟨hbw.os, hbw.tape, hbw.output⟩⟩⟩

theorem pow10_laid {W : Vw} {w : World} (hs : ∀ b o, W.snap b = some o → w.heap[b]? = some o) (hg : Tabbed W) : TabIs Tryd.prog w "internal/strconv.uint64pow10" .u64 pow10Tab := by
  obtain ⟨c, e, fr, h1, h2⟩ := hg (0, pow10V) (by simp [tabs])
  have hgn : Tryd.prog.globalNamed "internal/strconv.uint64pow10" = some 0 := by kernel_rfl
  unfold TabIs World.var?
  rw [hgn]
  simp only [Option.bind_some, hs _ _ h1]
  congr 1
  have key : ∀ (zs : List Int) (us : List Value), VRs W.dead (zs.map fun z => V.i .u64 z) us → us = zs.map fun z => Value.int .u64 z := by
    intro zs
    induction zs with
    | nil => intro us h; cases h; rfl
    | cons z zs ih => intro us h; cases h with | cons _ _ _ _ h1 h2 => cases h1; rw [ih _ h2]; rfl
  have e1 : pow10V = pow10Tab.map fun z => V.i .u64 z := by kernel_rfl
  rw [e1] at h2
  have := key _ _ h2
  apply Array.ext'
  rw [this]

theorem grow_below (w : World) (k : Nat) (os : Array Obj) : RowKit.Below w.heap.size w (grow (w.drewN k) os) :=
  ⟨by simp [grow, World.drewN], by simp [grow, World.drewN], by simp [grow, World.drewN], by simp [grow, World.drewN], fun b hb => by simp [grow, World.drewN, Array.getElem?_append_left hb]⟩

theorem itoa_con {n : Int} (h0 : -9223372036854775808 ≤ n) (h1 : n ≤ 9223372036854775807) : PCon Tryd.Y 16 [.i .i64 n] (· = .s (itoa n)) :=
  pcon_lib ⟨Tryd.f16, bodyOf Tryd.f16, by kernel_rfl, by kernel_rfl⟩ fun W w us hs hg hv => by
    cases hv with | cons _ _ _ _ a b => ?_
    cases a; cases b
    refine (Any.strconv_Itoa Tryd.laysM171 n h0 h1 w (pow10_laid hs hg)).mono ?_
    rintro e w' ⟨rfl, k, os, rfl⟩
    exact ⟨rfl, grow_below w k os⟩

theorem join_con (l : List (List UInt8)) (c : Option Nat) (sep : List UInt8) (hN : l.length ≤ 2 ^ 40) (hlen : (Lib.join l sep).length ≤ 140737488355328) : PCon Tryd.Y 31 [.ts (l.map .s) l.length c, .s sep] (· = .s (Lib.join l sep)) :=
  pcon_lib ⟨Tryd.f31, bodyOf Tryd.f31, by kernel_rfl, by kernel_rfl⟩ fun W w us hs hg hv => by
    cases hv with | cons _ _ _ _ a b => ?_
    cases b with | cons _ _ _ _ b1 b2 => ?_
    cases b2; cases b1
    have key : ∀ (l : List (List UInt8)) (us : List Value), VRs W.dead (l.map V.s) us → us = l.map fun s => Value.string ⟨s.toArray⟩ := by
      intro l
      induction l with
      | nil => intro us h; cases h; rfl
      | cons z zs ih => intro us h; cases h with | cons _ _ _ _ h1 h2 => cases h1; rw [ih _ h2]; rfl
    have hm : ((l.map fun s => (⟨s.toArray⟩ : ByteArray)).map (·.data.toList)) = l := by
      rw [List.map_map]; exact (List.map_congr_left fun s _ => by simp).trans (List.map_id _)
    cases l with
    | nil =>
      have none : ∀ (ad : Option Addr) (cp : Nat), Calls Tryd.Y.P 31 #[.slice ad 0 cp, .string ⟨sep.toArray⟩] w fun e w' => e = .returned (.string ⟨(Lib.join [] sep).toArray⟩) ∧ RowKit.Below w.heap.size w w' := fun ad cp =>
        (Any.strings_Join_none Tryd.lays156 Tryd.Builder_Extra_156 ad cp ⟨sep.toArray⟩ w).mono fun e w' ⟨he, hw⟩ => ⟨he, hw ▸ RowKit.Below.refl _ _⟩
      cases a with
      | tsn => exact none _ _
      | tsz => exact none _ _
      | ts => exact none _ _
    | cons x l =>
      cases a with
      | ts _ _ _ cap' blk off cc e fr us hl hcap h1 hc hr =>
        have hus := key _ _ hr
        have hb := hs _ _ h1
        have := Any.strings_Join Tryd.lays156 Tryd.Builder_Extra_156 blk off cap' ((x :: l).map fun s => (⟨s.toArray⟩ : ByteArray)) ⟨sep.toArray⟩ w (fun j y hy => ?_) (lt_of_block hb) (by simp only [List.length_map]; omega) (by simpa using hl) (by rw [hm]; exact hlen)
        · rw [hm] at this
          simp only [List.length_map] at this
          exact this
        · rw [cell_of hb]
          refine hc j _ ?_
          rw [hus]
          simp only [List.getElem?_map, Option.map_eq_some_iff] at hy ⊢
          obtain ⟨a, ha, rfl⟩ := hy
          exact ⟨a, ha, rfl⟩
end Go.Y

/- What the pieces of functions come to: printed by program. -/
namespace Go.Y
open Go.Proofs
set_option maxRecDepth 100000
set_option maxHeartbeats 0
theorem f11_0 (s0 : List UInt8) (h : Heap) (K : Out → Nat → List V → Heap → Prop) : (codeP Tryd.Y (Tryd.Y.loc 11) 100 ((flat (bodyOf Tryd.f11))) ⟨(V.s s0 :: List.replicate 16 .undef), [], h⟩ (VQ [2] K)) =
  (If (!s0 == ([] : List UInt8))
  (∃ (s : List UInt8),
 ∃ (n : Int),
 (PCon Tryd.Y (29 : Nat) [V.ts [V.s [], V.s s0] 1 (some 1)] fun (v : V) =>
 v = V.tup [V.s s, V.i IntKind.i64 n]) ∧
 K Out.ret 17 [V.s s] h)
  (∃ (s : List UInt8),
 ∃ (n : Int),
 (PCon Tryd.Y (29 : Nat) [V.sl none 0 (some 0) 0] fun (v : V) =>
 v = V.tup [V.s s, V.i IntKind.i64 n]) ∧
 K Out.ret 17 [V.s s] h)) := by kernel_rfl
theorem f12_0 (s0 : List UInt8) (h : Heap) (K : Out → Nat → List V → Heap → Prop) : (codeP Tryd.Y (Tryd.Y.loc 12) 100 ((flat (bodyOf Tryd.f12))) ⟨(V.s s0 :: List.replicate 9 .undef), [], h⟩ (VQ [2] K)) =
  (If (s0 == ([] : List UInt8))
  (∃ (s : List UInt8),
 (PCon Tryd.Y (30 : Nat) [V.sl none 0 (some 0) 0] fun (v : V) => v = V.s s) ∧
 K Out.ret 10 [V.s s] h)
  (∃ (s : List UInt8),
 (PCon Tryd.Y (30 : Nat) [V.ts [V.s [], V.s s0] 1 (some 1)] fun (v : V) => v = V.s s) ∧
 K Out.ret 10 [V.s s] h)) := by kernel_rfl
theorem f13_0 (cs0 : List V) (n0 : Nat) (h : Heap) (K : Out → Nat → List V → Heap → Prop) : (codeP Tryd.Y (Tryd.Y.loc 13) 100 ((flat (bodyOf Tryd.f13))) ⟨(V.ts cs0 n0 none :: List.replicate 5 .undef), [], h⟩ (VQ [2] K)) =
  (∃ (s : List UInt8),
  (PCon Tryd.Y (31 : Nat) [V.ts cs0 n0 none, V.s ([32] : List UInt8)] fun (v : V) => v = V.s s) ∧
 s.length + ([10] : List UInt8).length ≤ 1152921504606846976 ∧
 K Out.ret 6 [V.s (s ++ ([10] : List UInt8))] h) := by kernel_rfl
theorem f14_0 (cs0 : List V) (n0 : Nat) (h : Heap) (K : Out → Nat → List V → Heap → Prop) : (codeP Tryd.Y (Tryd.Y.loc 14) 100 (pre (flat (bodyOf Tryd.f14))) ⟨(V.ts cs0 n0 none :: List.replicate 18 .undef), [], h⟩ (VQ [3, 6, 7, 8] K)) =
  (K Out.normal 19
  [V.sl none 0 (some 0) 0, V.ts cs0 n0 none, V.i IntKind.i64 (↑n0 : Int),
 V.i IntKind.i64 (0 : Int)]
  h) := by kernel_rfl
theorem f14_1 (cs0 : List V) (n0 : Nat) (a3 : Option (Nat × Nat)) (l3 : Nat) (c3 : Option Nat) (k3 : Nat) (x8 : Int) (h : Heap) (K : Out → Nat → List V → Heap → Prop) : (codeP Tryd.Y (Tryd.Y.loc 14) 100 ((flat (loopB (post (flat (bodyOf Tryd.f14)))))) ⟨mk 19 (([3, 6, 7, 8] : List Nat).zip [V.sl a3 l3 c3 k3, V.ts cs0 n0 none, V.i IntKind.i64 (↑n0 : Int), V.i IntKind.i64 x8]), [], h⟩ (VQ [3, 6, 7, 8] K)) =
  (If (ltI x8 (↑n0 : Int))
  (((0 : Int) ≤ x8 ∧ x8 < (↑n0 : Int)) ∧
 ∃ (n : Int),
 takeX 1 (List.drop (x8.toNat * (1 : Nat)) cs0) = some [V.i IntKind.i64 n] ∧
 ∃ (s : List UInt8),
 (PCon Tryd.Y (16 : Nat) [V.i IntKind.i64 n] fun (v : V) => v = V.s s) ∧
 ∃ (a : Option (Nat × Nat)),
 ∃ (l : Nat),
 ∃ (c : Option Nat),
 ∃ (k : Nat),
 ∃ (h_1 : Heap),
 appendH Tryd.Y h 51 51 (V.sl a3 l3 c3 k3)
 (V.ts [V.s s] 1 (some 1)) =
 some (V.sl a l c k, h_1) ∧
 K Out.normal 19
 [V.sl a l c k, V.ts cs0 n0 none, V.i IntKind.i64 (↑n0 : Int),
 V.i IntKind.i64 (IntKind.i64.wrap (x8 + (1 : Int)))]
 h_1)
  (K (Out.exit 0) 19
 [V.sl a3 l3 c3 k3, V.ts cs0 n0 none, V.i IntKind.i64 (↑n0 : Int), V.i IntKind.i64 x8] h)) := by kernel_rfl
theorem f14_2 (a3 : Option (Nat × Nat)) (l3 : Nat) (c3 : Option Nat) (k3 : Nat) (h : Heap) (K : Out → Nat → List V → Heap → Prop) : (codeP Tryd.Y (Tryd.Y.loc 14) 100 (((post (flat (bodyOf Tryd.f14))).drop 1)) ⟨mk 19 (([3] : List Nat).zip [V.sl a3 l3 c3 k3]), [], h⟩ (VQ [2] K)) =
  (K Out.ret 19 [V.sl a3 l3 c3 k3] h) := by kernel_rfl
theorem f16_0 (x0 : Int) (h : Heap) (K : Out → Nat → List V → Heap → Prop) : (codeP Tryd.Y (Tryd.Y.loc 16) 100 ((flat (bodyOf Tryd.f16))) ⟨(V.i IntKind.i64 x0 :: List.replicate 4 .undef), [], h⟩ (VQ [2] K)) =
  (∃ (s : List UInt8),
  (PCon Tryd.Y (33 : Nat) [V.i IntKind.i64 x0] fun (v : V) => v = V.s s) ∧ K Out.ret 5 [V.s s] h) := by kernel_rfl
theorem f17_0 (x0Kind : Int) (x0N : Int) (cs0Choices : List V) (n0Choices : Nat) (h : Heap) (K : Out → Nat → List V → Heap → Prop) : (codeP Tryd.Y (Tryd.Y.loc 17) 100 ((flat (bodyOf Tryd.f17))) ⟨(V.agg [V.i IntKind.i64 x0Kind, V.i IntKind.i64 x0N, V.ts cs0Choices n0Choices none] :: List.replicate 10 .undef), [], h⟩ (VQ [2] K)) =
  (∃ (s : List UInt8),
  ∃ (n : Int),
 (PCon Tryd.Y (34 : Nat) [V.agg [V.i IntKind.i64 x0Kind, V.i IntKind.i64 x0N, V.ts cs0Choices n0Choices none]]
 fun (v : V) => v = V.tup [V.s s, V.i IntKind.i64 n]) ∧
 K Out.ret 11 [V.s s] h) := by kernel_rfl
theorem f19_0 (x0 : Int) (h : Heap) (K : Out → Nat → List V → Heap → Prop) : (codeP Tryd.Y (Tryd.Y.loc 19) 100 ((flat (bodyOf Tryd.f19))) ⟨(V.i IntKind.i64 x0 :: List.replicate 5 .undef), [], h⟩ (VQ [2] K)) =
  (∃ (s : List UInt8),
  (PCon Tryd.Y (37 : Nat) [V.i IntKind.i64 x0] fun (v : V) => v = V.s s) ∧
 ([32] : List UInt8).length + s.length ≤ 1152921504606846976 ∧
 K Out.ret 6 [V.s (([32] : List UInt8) ++ s)] h) := by kernel_rfl
theorem f21_0 (x0Kind : Int) (x0N : Int) (cs0Choices : List V) (n0Choices : Nat) (h : Heap) (K : Out → Nat → List V → Heap → Prop) : (codeP Tryd.Y (Tryd.Y.loc 21) 100 ((flat (bodyOf Tryd.f21))) ⟨(V.agg [V.i IntKind.i64 x0Kind, V.i IntKind.i64 x0N, V.ts cs0Choices n0Choices none] :: List.replicate 7 .undef), [], h⟩ (VQ [2] K)) =
  (∃ (b : Bool),
  (PCon Tryd.Y (38 : Nat) [V.agg [V.i IntKind.i64 x0Kind, V.i IntKind.i64 x0N, V.ts cs0Choices n0Choices none]]
 fun (v : V) => v = V.b b) ∧
 If (!b) (K Out.ret 8 [V.s ([] : List UInt8)] h)
 (∃ (s : List UInt8),
 (PCon Tryd.Y (39 : Nat) [V.agg [V.i IntKind.i64 x0Kind, V.i IntKind.i64 x0N, V.ts cs0Choices n0Choices none]]
 fun (v : V) => v = V.s s) ∧
 K Out.ret 8 [V.s s] h)) := by kernel_rfl
theorem f28_0 (s0 : List UInt8) (s1 : List UInt8) (h : Heap) (K : Out → Nat → List V → Heap → Prop) : (codeP Tryd.Y (Tryd.Y.loc 28) 100 ((flat (bodyOf Tryd.f28))) ⟨(V.s s0 :: V.s s1 :: List.replicate 11 .undef), [], h⟩ (VQ [4] K)) =
  (If (s1 == ([] : List UInt8)) (K Out.ret 13 [V.s ([] : List UInt8)] h)
  (([32] : List UInt8).length + s0.length ≤ 1152921504606846976 ∧
 (([32] : List UInt8) ++ s0).length + ([32] : List UInt8).length ≤ 1152921504606846976 ∧
 ∃ (s : List UInt8),
 (PCon Tryd.Y (12 : Nat) [V.s s1] fun (v : V) => v = V.s s) ∧
 (([32] : List UInt8) ++ s0 ++ ([32] : List UInt8)).length + s.length ≤ 1152921504606846976 ∧
 K Out.ret 13 [V.s (([32] : List UInt8) ++ s0 ++ ([32] : List UInt8) ++ s)] h)) := by kernel_rfl
end Go.Y
