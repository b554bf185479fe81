/- Shapes of models and configurations that come in to the law. -/
import Derived.Test.YtkcgmnhojldoiaaGreatYTryzP
import Derived.Test.YtkcgmnhojldoiaaGreatYRow
import Derived.Test.YtkcgmnhojldoiaaGreatGAct2
namespace Go.Proofs.YtkcgmnhojldoiaaGreat
open Go.Y Go.RowKit
open Go.Proofs
set_option maxRecDepth 100000

theorem own : ownKnob Tryz.prog.godebug = none := by kernel_rfl
theorem Zo4 : laidOutB Tryz.prog = true := by kernel_rfl
theorem shp3 {n : Nat} {vs : List V} (h : Shp UY n 3 vs) : ∃ x : Int, vs = encI x := by
 obtain ⟨x, rfl, _⟩ := Zib (show UY.kd 3 = some (.int .i64) by kernel_rfl) h
 exact ⟨x, rfl⟩
theorem shp2 {n : Nat} {vs : List V} (h : Shp UY n 2 vs) : ∃ x : Int, vs = encI x := by
 obtain ⟨x, rfl, _⟩ := Zib (show UY.kd 2 = some (.int .i64) by kernel_rfl) h
 exact ⟨x, rfl⟩
theorem shp4 {n : Nat} {vs : List V} (h : Shp UY n 4 vs) : ∃ x : Bool, vs = [.b x] := Zp5 (show UY.kd 4 = some .bool by kernel_rfl) h
theorem shp9 {n : Nat} {vs : List V} (h : Shp UY n 9 vs) : ∃ s : List UInt8, vs = [.s s] := by
 obtain ⟨s, h, _⟩ := Zsx (by kernel_rfl) h
 exact ⟨s, h⟩
theorem Zo5 {n : Nat} {vs : List V} (h : Shp UY n 31 vs) : ∃ l : List Int, vs = [lst encI l] := by
 obtain ⟨m, es, rfl, rfl, h, _⟩ := Xt (show UY.kd 31 = some (.slice 3) by kernel_rfl) h
 obtain ⟨l, hl⟩ := Qt (f := encI) fun x hx => shp3 (h x hx)
 simp at hl
 subst hl
 exact ⟨l, by simp [lst, row]⟩
theorem ZD9 {n : Nat} {vs : List V} (h : Shp UY n 63 vs) : ∃ x : List UInt8 × List UInt8, vs = ZE x := by
 obtain ⟨m, rfl, h⟩ := ZT (show UY.kd 63 = some (.struct [(0, 9), (1, 9)]) by kernel_rfl) h
 obtain ⟨a0, r0, rfl, h0, a1, r1, rfl, h1, rfl⟩ := h
 obtain ⟨b0, rfl⟩ := shp9 h0
 obtain ⟨b1, rfl⟩ := shp9 h1
 exact ⟨⟨b0, b1⟩, rfl⟩
theorem ZEa {n : Nat} {vs : List V} (h : Shp UY n 56 vs) : ∃ l : List (List UInt8 × List UInt8), vs = [lst ZE l] := by
 obtain ⟨m, es, rfl, rfl, h, _⟩ := Xt (show UY.kd 56 = some (.slice 63) by kernel_rfl) h
 obtain ⟨l, hl⟩ := Qt (f := ZE) fun x hx => ZD9 (h x hx)
 simp at hl
 subst hl
 exact ⟨l, by simp [lst, row]⟩
theorem ZEb {n : Nat} {vs : List V} (h : Shp UY n 59 vs) : ∃ x : Kid, vs = encK x := by
 obtain ⟨m, rfl, h⟩ := ZT (show UY.kd 59 = some (.struct [(0, 3), (1, 2), (2, 9), (3, 9), (4, 57)]) by kernel_rfl) h
 obtain ⟨a0, r0, rfl, h0, a1, r1, rfl, h1, a2, r2, rfl, h2, a3, r3, rfl, h3, a4, r4, rfl, h4, rfl⟩ := h
 obtain ⟨b0, rfl⟩ := shp3 h0
 obtain ⟨b1, rfl⟩ := shp2 h1
 obtain ⟨b2, rfl⟩ := shp9 h2
 obtain ⟨b3, rfl⟩ := shp9 h3
 obtain ⟨m, es, rfl, rfl, h, _⟩ := Xt (show UY.kd 57 = some (.slice 59) by kernel_rfl) h4
 exact ⟨⟨b0, b1, b2, b3, es.flatten, es.length⟩, rfl⟩
theorem ZEc {n : Nat} {vs : List V} (h : Shp UY n 57 vs) : ∃ l : List Kid, vs = [lst encK l] := by
 obtain ⟨m, es, rfl, rfl, h, _⟩ := Xt (show UY.kd 57 = some (.slice 59) by kernel_rfl) h
 obtain ⟨l, hl⟩ := Qt (f := encK) fun x hx => ZEb (h x hx)
 simp at hl
 subst hl
 exact ⟨l, by simp [lst, row]⟩
theorem ZAi {n : Nat} {vs : List V} (h : Shp UY n 59 vs) : ∃ (ck cn : Int) (cname cop : List UInt8) (kids : List Kid), vs = [.i .i64 ck, .i .i64 cn, .s cname, .s cop, lst encK kids] := by
 obtain ⟨m, rfl, h⟩ := ZT (show UY.kd 59 = some (.struct [(0, 3), (1, 2), (2, 9), (3, 9), (4, 57)]) by kernel_rfl) h
 obtain ⟨a0, r0, rfl, h0, a1, r1, rfl, h1, a2, r2, rfl, h2, a3, r3, rfl, h3, a4, r4, rfl, h4, rfl⟩ := h
 obtain ⟨b0, rfl⟩ := shp3 h0
 obtain ⟨b1, rfl⟩ := shp2 h1
 obtain ⟨b2, rfl⟩ := shp9 h2
 obtain ⟨b3, rfl⟩ := shp9 h3
 obtain ⟨l, rfl⟩ := ZEc h4
 exact ⟨b0, b1, b2, b3, l, rfl⟩
theorem ZEd {n : Nat} {vs : List V} (h : Shp UY n 61 vs) : ∃ x : Ins, vs = ZC x := by
 obtain ⟨m, rfl, h⟩ := ZT (show UY.kd 61 = some (.struct [(0, 3), (1, 3), (2, 9), (3, 2), (4, 56), (5, 59), (10, 31)]) by kernel_rfl) h
 obtain ⟨a0, r0, rfl, h0, a1, r1, rfl, h1, a2, r2, rfl, h2, a3, r3, rfl, h3, a4, r4, rfl, h4, a5, r5, rfl, h5, a6, r6, rfl, h6, rfl⟩ := h
 obtain ⟨b0, rfl⟩ := shp3 h0
 obtain ⟨b1, rfl⟩ := shp3 h1
 obtain ⟨b2, rfl⟩ := shp9 h2
 obtain ⟨b3, rfl⟩ := shp2 h3
 obtain ⟨b4, rfl⟩ := ZEa h4
 obtain ⟨ck, cn, cname, cop, kids, rfl⟩ := ZAi h5
 obtain ⟨b6, rfl⟩ := Zo5 h6
 exact ⟨⟨b0, b1, b2, b3, b4, ck, cn, cname, cop, kids, b6⟩, rfl⟩
theorem ZEe {n : Nat} {vs : List V} (h : Shp UY n 22 vs) : ∃ l : List Ins, vs = [lst ZC l] := by
 obtain ⟨m, es, rfl, rfl, h, _⟩ := Xt (show UY.kd 22 = some (.slice 61) by kernel_rfl) h
 obtain ⟨l, hl⟩ := Qt (f := ZC) fun x hx => ZEd (h x hx)
 simp at hl
 subst hl
 exact ⟨l, by simp [lst, row]⟩
theorem ZAj {n : Nat} {vs : List V} (h : Shp UY n 101 vs) : ∃ (k : Int) (s : List UInt8), vs = [.i .i64 k, .s s] := by
 obtain ⟨m, rfl, h⟩ := ZT (show UY.kd 101 = some (.struct [(0, 3), (1, 9)]) by kernel_rfl) h
 obtain ⟨a0, r0, rfl, h0, a1, r1, rfl, h1, rfl⟩ := h
 obtain ⟨b0, rfl⟩ := shp3 h0
 obtain ⟨b1, rfl⟩ := shp9 h1
 exact ⟨b0, b1, rfl⟩
theorem ZAk {n : Nat} {vs : List V} (h : Shp UY n 103 vs) : ∃ x : Wat, vs = ZD x := by
 obtain ⟨m, rfl, h⟩ := ZT (show UY.kd 103 = some (.struct [(0, 3), (1, 3), (2, 101), (4, 3), (5, 4), (6, 3)]) by kernel_rfl) h
 obtain ⟨a0, r0, rfl, h0, a1, r1, rfl, h1, a2, r2, rfl, h2, a3, r3, rfl, h3, a4, r4, rfl, h4, a5, r5, rfl, h5, rfl⟩ := h
 obtain ⟨b0, rfl⟩ := shp3 h0
 obtain ⟨b1, rfl⟩ := shp3 h1
 obtain ⟨b2, b2', rfl⟩ := ZAj h2
 obtain ⟨b3, rfl⟩ := shp3 h3
 obtain ⟨b4, rfl⟩ := shp4 h4
 obtain ⟨b5, rfl⟩ := shp3 h5
 exact ⟨⟨b0, b1, b2, b2', b3, b4, b5⟩, rfl⟩
theorem ZEf {n : Nat} {vs : List V} (h : Shp UY n 23 vs) : ∃ l : List Wat, vs = [lst ZD l] := by
 obtain ⟨m, es, rfl, rfl, h, _⟩ := Xt (show UY.kd 23 = some (.slice 103) by kernel_rfl) h
 obtain ⟨l, hl⟩ := Qt (f := ZD) fun x hx => ZAk (h x hx)
 simp at hl
 subst hl
 exact ⟨l, by simp [lst, row]⟩
theorem ZAl {n : Nat} {vs : List V} (h : Shp UY n 111 vs) : ∃ x : Y.Edge, vs = encE x := by
 obtain ⟨m, rfl, h⟩ := ZT (show UY.kd 111 = some (.struct [(0, 3), (1, 9), (2, 3), (3, 3), (4, 3)]) by kernel_rfl) h
 obtain ⟨a0, r0, rfl, h0, a1, r1, rfl, h1, a2, r2, rfl, h2, a3, r3, rfl, h3, a4, r4, rfl, h4, rfl⟩ := h
 obtain ⟨b0, rfl⟩ := shp3 h0
 obtain ⟨b1, rfl⟩ := shp9 h1
 obtain ⟨b2, rfl⟩ := shp3 h2
 obtain ⟨b3, rfl⟩ := shp3 h3
 obtain ⟨b4, rfl⟩ := shp3 h4
 exact ⟨⟨b0, b1, b2, b3, b4⟩, rfl⟩
theorem ZAm {n : Nat} {vs : List V} (h : Shp UY n 107 vs) : ∃ l : List Y.Edge, vs = [lst encE l] := by
 obtain ⟨m, es, rfl, rfl, h, _⟩ := Xt (show UY.kd 107 = some (.slice 111) by kernel_rfl) h
 obtain ⟨l, hl⟩ := Qt (f := encE) fun x hx => ZAl (h x hx)
 simp at hl
 subst hl
 exact ⟨l, by simp [lst, row]⟩
theorem ZAn {n : Nat} {vs : List V} (h : Shp UY n 109 vs) : ∃ x : Plc, vs = ZG x := by
 obtain ⟨m, rfl, h⟩ := ZT (show UY.kd 109 = some (.struct [(0, 9), (1, 4), (2, 107)]) by kernel_rfl) h
 obtain ⟨a0, r0, rfl, h0, a1, r1, rfl, h1, a2, r2, rfl, h2, rfl⟩ := h
 obtain ⟨b0, rfl⟩ := shp9 h0
 obtain ⟨b1, rfl⟩ := shp4 h1
 obtain ⟨b2, rfl⟩ := ZAm h2
 exact ⟨⟨b0, b1, b2⟩, rfl⟩
theorem ZEg {n : Nat} {vs : List V} (h : Shp UY n 64 vs) : ∃ l : List Plc, vs = [lst ZG l] := by
 obtain ⟨m, es, rfl, rfl, h, _⟩ := Xt (show UY.kd 64 = some (.slice 109) by kernel_rfl) h
 obtain ⟨l, hl⟩ := Qt (f := ZG) fun x hx => ZAn (h x hx)
 simp at hl
 subst hl
 exact ⟨l, by simp [lst, row]⟩
theorem ZEh {n : Nat} {vs : List V} (h : Shp UY n 66 vs) : ∃ x : Int × List Plc, vs = ZF x := by
 obtain ⟨m, rfl, h⟩ := ZT (show UY.kd 66 = some (.struct [(0, 3), (1, 64)]) by kernel_rfl) h
 obtain ⟨a0, r0, rfl, h0, a1, r1, rfl, h1, rfl⟩ := h
 obtain ⟨b0, rfl⟩ := shp3 h0
 obtain ⟨b1, rfl⟩ := ZEg h1
 exact ⟨⟨b0, b1⟩, rfl⟩
theorem ZEi {n : Nat} {vs : List V} (h : Shp UY n 26 vs) : ∃ l : List (Int × List Plc), vs = [lst ZF l] := by
 obtain ⟨m, es, rfl, rfl, h, _⟩ := Xt (show UY.kd 26 = some (.slice 66) by kernel_rfl) h
 obtain ⟨l, hl⟩ := Qt (f := ZF) fun x hx => ZEh (h x hx)
 simp at hl
 subst hl
 exact ⟨l, by simp [lst, row]⟩
theorem ZEj {n : Nat} {vs : List V} (h : Shp UY n 25 vs) : ∃ (ins : List Ins) (ws : List Wat), vs = XX ins ws := by
 obtain ⟨m, rfl, h⟩ := ZT (show UY.kd 25 = some (.struct [(0, 22), (1, 23)]) by kernel_rfl) h
 obtain ⟨a0, r0, rfl, h0, a1, r1, rfl, h1, rfl⟩ := h
 obtain ⟨b0, rfl⟩ := ZEe h0
 obtain ⟨b1, rfl⟩ := ZEf h1
 exact ⟨b0, b1, rfl⟩
abbrev ZAo (x : Mdl) : List V := mdlC x
theorem ZEk {n : Nat} {vs : List V} (h : Shp UY n 28 vs) : ∃ x : Mdl, vs = ZAo x := by
 obtain ⟨m, rfl, h⟩ := ZT (show UY.kd 28 = some (.struct [(0, 25), (2, 26), (3, 3), (4, 3)]) by kernel_rfl) h
 obtain ⟨a0, r0, rfl, h0, a1, r1, rfl, h1, a2, r2, rfl, h2, a3, r3, rfl, h3, rfl⟩ := h
 obtain ⟨b0, b0', rfl⟩ := ZEj h0
 obtain ⟨b1, rfl⟩ := ZEi h1
 obtain ⟨b2, rfl⟩ := shp3 h2
 obtain ⟨b3, rfl⟩ := shp3 h3
 exact ⟨⟨b0, b0', b1, b2, b3⟩, rfl⟩

/-! ### Configurations -/
theorem ZAp {n : Nat} {vs : List V} (h : Shp UY n 106 vs) : ∃ x : List UInt8 × List UInt8, vs = ZE x := by
 obtain ⟨m, rfl, h⟩ := ZT (show UY.kd 106 = some (.struct [(0, 9), (1, 9)]) by kernel_rfl) h
 obtain ⟨a0, r0, rfl, h0, a1, r1, rfl, h1, rfl⟩ := h
 obtain ⟨b0, rfl⟩ := shp9 h0
 obtain ⟨b1, rfl⟩ := shp9 h1
 exact ⟨⟨b0, b1⟩, rfl⟩
theorem ZEl {n : Nat} {vs : List V} (h : Shp UY n 29 vs) : ∃ l : List (List UInt8 × List UInt8), vs = [lst ZE l] := by
 obtain ⟨m, es, rfl, rfl, h, _⟩ := Xt (show UY.kd 29 = some (.slice 106) by kernel_rfl) h
 obtain ⟨l, hl⟩ := Qt (f := ZE) fun x hx => ZAp (h x hx)
 simp at hl
 subst hl
 exact ⟨l, by simp [lst, row]⟩
theorem ZEm {n : Nat} {vs : List V} (h : Shp UY n 32 vs) : ∃ x : Int, vs = encI x := by
 obtain ⟨x, rfl, _⟩ := Zib (show UY.kd 32 = some (.int .i64) by kernel_rfl) h
 exact ⟨x, rfl⟩
theorem ZAq {P : List V → Prop} : ∀ {es : List (List V)}, es.length = 10 → (∀ x ∈ es, ∃ s : List UInt8, x = [.s s]) → ∃ c0 c1 c2 c3 c4 c5 c6 c7 c8 c9 : List UInt8, es.flatten = [.s c0, .s c1, .s c2, .s c3, .s c4, .s c5, .s c6, .s c7, .s c8, .s c9]
 | [e0, e1, e2, e3, e4, e5, e6, e7, e8, e9], _, h => by
  obtain ⟨c0, rfl⟩ := h e0 (by simp)
  obtain ⟨c1, rfl⟩ := h e1 (by simp)
  obtain ⟨c2, rfl⟩ := h e2 (by simp)
  obtain ⟨c3, rfl⟩ := h e3 (by simp)
  obtain ⟨c4, rfl⟩ := h e4 (by simp)
  obtain ⟨c5, rfl⟩ := h e5 (by simp)
  obtain ⟨c6, rfl⟩ := h e6 (by simp)
  obtain ⟨c7, rfl⟩ := h e7 (by simp)
  obtain ⟨c8, rfl⟩ := h e8 (by simp)
  obtain ⟨c9, rfl⟩ := h e9 (by simp)
  exact ⟨c0, c1, c2, c3, c4, c5, c6, c7, c8, c9, rfl⟩
theorem ZEn {n : Nat} {vs : List V} (h : Shp UY n 30 vs) : ∃ c0 c1 c2 c3 c4 c5 c6 c7 c8 c9 : List UInt8, vs = [.s c0, .s c1, .s c2, .s c3, .s c4, .s c5, .s c6, .s c7, .s c8, .s c9] := by
 have hk : UY.kd 30 = some (.arr 10 9) := by kernel_rfl
 cases n with
 | zero => exact h.elim
 | succ n =>
  obtain ⟨es, rfl, h1, h2⟩ := (by simpa [Shp, hk] using h : ∃ es : List (List V), vs = es.flatten ∧ es.length = 10 ∧ ∀ x ∈ es, Shp UY n 9 x)
  exact ZAq (P := fun _ => True) h1 fun x hx => shp9 (h2 x hx)
theorem ZEo {n : Nat} {vs : List V} (h : Shp UY n 38 vs) : ∃ l : List (List UInt8), vs = [lst encT l] := by
 obtain ⟨m, es, rfl, rfl, h, _⟩ := Xt (show UY.kd 38 = some (.slice 9) by kernel_rfl) h
 obtain ⟨l, hl⟩ := Qt (f := encT) fun x hx => shp9 (h x hx)
 simp at hl
 subst hl
 exact ⟨l, by simp [lst, row]⟩
theorem ZEp {n : Nat} {vs : List V} (h : Shp UY n 69 vs) : ∃ x : Side, vs = Zn x := by
 obtain ⟨m, rfl, h⟩ := ZT (show UY.kd 69 = some (.struct [(0, 4), (1, 4), (2, 4), (3, 3), (4, 3), (5, 9), (6, 38), (7, 9), (8, 31), (9, 9), (10, 9)]) by kernel_rfl) h
 obtain ⟨a0, r0, rfl, h0, a1, r1, rfl, h1, a2, r2, rfl, h2, a3, r3, rfl, h3, a4, r4, rfl, h4, a5, r5, rfl, h5, a6, r6, rfl, h6, a7, r7, rfl, h7, a8, r8, rfl, h8, a9, r9, rfl, h9, a10, r10, rfl, h10, rfl⟩ := h
 obtain ⟨b0, rfl⟩ := shp4 h0
 obtain ⟨b1, rfl⟩ := shp4 h1
 obtain ⟨b2, rfl⟩ := shp4 h2
 obtain ⟨b3, rfl⟩ := shp3 h3
 obtain ⟨b4, rfl⟩ := shp3 h4
 obtain ⟨b5, rfl⟩ := shp9 h5
 obtain ⟨b6, rfl⟩ := ZEo h6
 obtain ⟨b7, rfl⟩ := shp9 h7
 obtain ⟨b8, rfl⟩ := Zo5 h8
 obtain ⟨b9, rfl⟩ := shp9 h9
 obtain ⟨b10, rfl⟩ := shp9 h10
 exact ⟨{ on := b0, shut := b1, eof := b2, place := b3, clock := b4, typed := b5, lines := b6, fly := b7, ages := b8, ready := b9, buffer := b10 }, rfl⟩
theorem ZEq {n : Nat} {vs : List V} (h : Shp UY n 33 vs) : ∃ l : List Side, vs = [lst Zn l] := by
 obtain ⟨m, es, rfl, rfl, h, _⟩ := Xt (show UY.kd 33 = some (.slice 69) by kernel_rfl) h
 obtain ⟨l, hl⟩ := Qt (f := Zn) fun x hx => ZEp (h x hx)
 simp at hl
 subst hl
 exact ⟨l, by simp [lst, row]⟩
abbrev ZAr (x : Cfg) : List V := cfgC x
theorem ZEr {n : Nat} {vs : List V} (h : Shp UY n 35 vs) : ∃ x : Cfg, vs = ZAr x := by
 obtain ⟨m, rfl, h⟩ := ZT (show UY.kd 35 = some (.struct [(0, 3), (1, 29), (2, 30), (12, 31), (13, 3), (14, 32), (15, 3), (16, 3), (17, 3), (18, 31), (19, 31), (20, 33)]) by kernel_rfl) h
 obtain ⟨a0, r0, rfl, h0, a1, r1, rfl, h1, a2, r2, rfl, h2, a3, r3, rfl, h3, a4, r4, rfl, h4, a5, r5, rfl, h5, a6, r6, rfl, h6, a7, r7, rfl, h7, a8, r8, rfl, h8, a9, r9, rfl, h9, a10, r10, rfl, h10, a11, r11, rfl, h11, rfl⟩ := h
 obtain ⟨b0, rfl⟩ := shp3 h0
 obtain ⟨b1, rfl⟩ := ZEl h1
 obtain ⟨c0, c1, c2, c3, c4, c5, c6, c7, c8, c9, rfl⟩ := ZEn h2
 obtain ⟨b3, rfl⟩ := Zo5 h3
 obtain ⟨b4, rfl⟩ := shp3 h4
 obtain ⟨b5, rfl⟩ := ZEm h5
 obtain ⟨b6, rfl⟩ := shp3 h6
 obtain ⟨b7, rfl⟩ := shp3 h7
 obtain ⟨b8, rfl⟩ := shp3 h8
 obtain ⟨b9, rfl⟩ := Zo5 h9
 obtain ⟨b10, rfl⟩ := Zo5 h10
 obtain ⟨b11, rfl⟩ := ZEq h11
 exact ⟨⟨b0, b1, c0, c1, c2, c3, c4, c5, c6, c7, c8, c9, b3, b4, b5, b6, b7, b8, b9, b10, b11⟩, rfl⟩

/-! ### All types are served -/
theorem Zfk : ∀ n, Zy UY n 3 = true
 | 0 => by kernel_rfl
 | n + 1 => by kernel_rfl
theorem Zo6 : ∀ n, Zy UY n 2 = true
 | 0 => by kernel_rfl
 | n + 1 => by kernel_rfl
theorem Ziv : ∀ n, Zy UY n 9 = true
 | 0 => by kernel_rfl
 | n + 1 => by kernel_rfl
theorem Zrk : ∀ n, Zy UY n 31 = true
 | 0 => by kernel_rfl
 | n + 1 => Eq.trans (show Zy UY (n + 1) 31 = Zy UY n 3 by kernel_rfl) (Zfk n)
theorem Zrl : ∀ n, Zy UY n 63 = true
 | 0 => by kernel_rfl
 | n + 1 => Eq.trans (show Zy UY (n + 1) 63 = (Zy UY n 9 && (Zy UY n 9 && true)) by kernel_rfl) (by rw [Ziv n]; rfl)
theorem Zrm : ∀ n, Zy UY n 56 = true
 | 0 => by kernel_rfl
 | n + 1 => Eq.trans (show Zy UY (n + 1) 56 = Zy UY n 63 by kernel_rfl) (Zrl n)
theorem Zhg : ∀ n, Zy UY n 59 = true ∧ Zy UY n 57 = true
 | 0 => ⟨by kernel_rfl, by kernel_rfl⟩
 | n + 1 => by
  obtain ⟨h1, h2⟩ := Zhg n
  refine ⟨Eq.trans (show Zy UY (n + 1) 59 = (Zy UY n 3 && (Zy UY n 2 && (Zy UY n 9 && (Zy UY n 9 && (Zy UY n 57 && true))))) by kernel_rfl) (by rw [Zfk n, Zo6 n, Ziv n, h2]; rfl), Eq.trans (show Zy UY (n + 1) 57 = Zy UY n 59 by kernel_rfl) h1⟩
theorem Zrn : ∀ n, Zy UY n 61 = true
 | 0 => by kernel_rfl
 | n + 1 => Eq.trans (show Zy UY (n + 1) 61 = (Zy UY n 3 && (Zy UY n 3 && (Zy UY n 9 && (Zy UY n 2 && (Zy UY n 56 && (Zy UY n 59 && (Zy UY n 31 && true))))))) by kernel_rfl) (by rw [Zfk n, Zo6 n, Ziv n, Zrm n, (Zhg n).1, Zrk n]; rfl)
theorem Zro : ∀ n, Zy UY n 22 = true
 | 0 => by kernel_rfl
 | n + 1 => Eq.trans (show Zy UY (n + 1) 22 = Zy UY n 61 by kernel_rfl) (Zrn n)
theorem Zrp : ∀ n, Zy UY n 23 = true
 | 0 => by kernel_rfl
 | 1 => by kernel_rfl
 | 2 => by kernel_rfl
 | 3 => by kernel_rfl
 | n + 4 => by kernel_rfl
theorem Zrq : ∀ n, Zy UY n 26 = true
 | 0 => by kernel_rfl
 | 1 => by kernel_rfl
 | 2 => by kernel_rfl
 | 3 => by kernel_rfl
 | 4 => by kernel_rfl
 | 5 => by kernel_rfl
 | 6 => by kernel_rfl
 | n + 7 => by kernel_rfl
theorem Zrr : ∀ n, Zy UY n 25 = true
 | 0 => by kernel_rfl
 | n + 1 => Eq.trans (show Zy UY (n + 1) 25 = (Zy UY n 22 && (Zy UY n 23 && true)) by kernel_rfl) (by rw [Zro n, Zrp n]; rfl)
theorem Zrs : ∀ n, Zy UY n 28 = true
 | 0 => by kernel_rfl
 | n + 1 => Eq.trans (show Zy UY (n + 1) 28 = (Zy UY n 25 && (Zy UY n 26 && (Zy UY n 3 && (Zy UY n 3 && true)))) by kernel_rfl) (by rw [Zrr n, Zrq n, Zfk n]; rfl)
theorem Zrt : ∀ n, Zy UY n 35 = true
 | 0 => by kernel_rfl
 | 1 => by kernel_rfl
 | 2 => by kernel_rfl
 | 3 => by kernel_rfl
 | 4 => by kernel_rfl
 | 5 => by kernel_rfl
 | n + 6 => by kernel_rfl
end Go.Proofs.YtkcgmnhojldoiaaGreat
