/- A closed run, in parts: printed by program. -/
import Derived.Test.YtlnpmefmmiacaaaGreatHAw6
import Derived.Test.YtlnpmefmmiacaaaGreatHBound3
import Derived.Test.YtlnpmefmmiacaaaGreatYTryzP
import Derived.Test.YtlnpmefmmiacaaaGreatYRow
import Derived.Test.YtlnpmefmmiacaaaGreatHBound
namespace Go.Y
open Go.Proofs
set_option maxRecDepth 1000000
def Tryz.kA28 : List V := [.agg [.ts [.i .i64 (13), .i .i64 (0), .s [], .i .i64 (0), .ts [] 0 (some 0), .i .i64 (0), .i .i64 (0), .s [], .s [], .ts [] 0 (some 0), .ts [.i .i64 (0), .i .i64 (1)] 2 none, .i .i64 (4), .i .i64 (4), .s [], .i .i64 (0), .ts [] 0 (some 0), .i .i64 (0), .i .i64 (0), .s [], .s [], .ts [] 0 (some 0), .ts [] 0 (some 0), .i .i64 (7), .i .i64 (0), .s [], .i .i64 (0), .ts [] 0 (some 0), .i .i64 (0), .i .i64 (0), .s [], .s [], .ts [] 0 (some 0), .ts [] 0 (some 0), .i .i64 (7), .i .i64 (0), .s [], .i .i64 (0), .ts [] 0 (some 0), .i .i64 (0), .i .i64 (0), .s [], .s [], .ts [] 0 (some 0), .ts [] 0 (some 0), .i .i64 (16), .i .i64 (0), .s [], .i .i64 (0), .ts [] 0 (some 0), .i .i64 (0), .i .i64 (0), .s [], .s [], .ts [] 0 (some 0), .ts [] 0 (some 0)] 5 none, .ts [.i .i64 (3), .i .i64 (-1), .i .i64 (0), .s [], .i .i64 (2), .b false, .i .i64 (15), .i .i64 (2), .i .i64 (-1), .i .i64 (0), .s [], .i .i64 (3), .b false, .i .i64 (22)] 2 none, .ts [.i .i64 (4), .ts [.s [97], .b false, .ts [] 0 (some 0)] 1 none] 1 none, .i .i64 (0), .i .i64 (9)]]
def Tryz.kR28 : V := .i .i64 (1241)
theorem Tryz.kP28 : PCon Tryz.Y 9 Tryz.kA28 (· = Tryz.kR28) := callN_ok Tryz.Yok (knT_ok Tryz.kT28ok Tryz.knok) (n := 200) (by kernel_rfl) (by kernel_rfl)
def Tryz.kT29 : Known := (9, Tryz.kA28, Tryz.kR28) :: Tryz.kT28
theorem Tryz.kT29ok : KnowOK Tryz.Y Tryz.kT29 := .cons _ _ _ _ Tryz.kP28 Tryz.kT28ok
theorem awake33 : PCon Tryz.Y 4 [] (· = .b true) := callN_ok Tryz.Yok (knT_ok Tryz.kT29ok Tryz.knok) (n := 200) (by kernel_rfl) (by kernel_rfl)
end Go.Y

/- The law: all bounds agree with the reference. -/
namespace Go.Y
open Go.Proofs
set_option maxRecDepth 100000
set_option maxHeartbeats 2000000

theorem small_list {ins : List Ins} {ws : List Wat} {ps : List (Int × List Plc)} (h : smallM ins ws ps = true) : ins.length ≤ 40 ∧ ps.length ≤ 9 ∧ listS ins ∧ ∀ p ∈ ps, ∀ x ∈ p.2, x.name.length < 2 ^ 30 := by
  unfold smallM at h
  simp only [Bool.and_eq_true, decide_eq_true_eq, List.all_eq_true] at h
  refine ⟨h.1.1.1.1, h.1.1.1.2, fun x hx => ?_, fun p hp x hx => ?_⟩
  · have := h.1.2 x hx
    unfold smallI at this
    simp only [Bool.and_eq_true, decide_eq_true_eq] at this
    exact this.1.1.1.1.2
  · have := h.2 p hp
    unfold smallRo smallP at this
    simp only [Bool.and_eq_true, decide_eq_true_eq, List.all_eq_true] at this
    have := this.2 x hx
    unfold smallPl at this
    simp only [Bool.and_eq_true, decide_eq_true_eq] at this
    omega

theorem law3_con (ins : List Ins) (ws : List Wat) (ps : List (Int × List Plc)) (lat mat op : Int) : PCon Tryz.Y 3 [.agg (modC ins ws ps lat mat), .i .i64 op] (· = .b true) := by
  refine tree_con Tryz.Yok (fn := Tryz.f3) (by kernel_rfl) (by kernel_rfl) rfl (fun K => f3_0 (row encIn ins) ins.length (row encWa ws) ws.length (row encPr ps) ps.length lat mat op .empty K) rfl ?_
  have fin : ∀ x : Bool, x = true → Fin Tryz.Y Tryz.f3 [4] (fun v h => ∃ r, Frz h v r ∧ r = .b true) .ret 49 [.b x] .empty := fun x hx => finV1 (.inr rfl) rfl (.b _) (by rw [hx])
  refine ⟨_, awake33, if_mk (fun h => by cases h) (fun _ => ⟨_, small5n ins ws ps lat mat, if_mk (fun _ => fin _ rfl) (fun h => ?_)⟩)⟩
  have h : smallM ins ws ps = true := by simpa using h
  obtain ⟨hi, hp, hs, hn⟩ := small_list h
  have hl : ins.length < 2 ^ 30 := by omega
  have hpl : ps.length < 2 ^ 30 := by omega
  have R := rbytes_con ins ws ps lat mat hn hpl hl hs
  have rest : ∃ n : Int, (PCon Tryz.Y 11 [.agg (codeC ins ws), .i .i64 op] fun v => v = .i .i64 n) ∧ ∃ n_1 : Int, (PCon Tryz.Y 12 [.agg (codeC ins ws), .i .i64 op] fun v => v = .i .i64 n_1) ∧ Fin Tryz.Y Tryz.f3 [4] (fun v h => ∃ r, Frz h v r ∧ r = .b true) .ret 49 [.b (n == n_1)] .empty :=
    ⟨_, long_con ins ws op hl, _, rlong_con ins ws op hl, fin _ (by simp)⟩
  refine ⟨_, R, ?_⟩
  refine if_lt (fun hb => ?_) (fun hb => ?_)
  · refine ⟨_, num_con ins ws ps lat mat hl hs, _, rnum_con ins ws ps lat mat hn hpl hl hs, if_mk (fun _ => ?_) (fun g => by simp at g)⟩
    refine ⟨_, bytes_con ins ws ps lat mat hl hs, _, R, if_mk (fun _ => ?_) (fun g => by simp at g)⟩
    refine ⟨_, bits_con ins ws ps lat mat hl hs, if_mk (fun _ => rest) (fun g => ?_)⟩
    unfold bitsM at g
    rw [if_neg (by omega)] at g
    simp at g
  · refine ⟨_, num_con ins ws ps lat mat hl hs, _, rnum_con ins ws ps lat mat hn hpl hl hs, if_mk (fun _ => ?_) (fun g => by simp at g)⟩
    refine ⟨_, bytes_con ins ws ps lat mat hl hs, _, R, if_mk (fun _ => ?_) (fun g => by simp at g)⟩
    refine ⟨_, bits_con ins ws ps lat mat hl hs, if_mk (fun _ => rest) (fun g => ?_)⟩
    have := bytesM_bd ins ps lat mat hs
    unfold bitsM at g
    rw [if_pos (by omega)] at g
    simp at g
end Go.Y

/- Shapes of models that come in to the law. -/
namespace Go.Proofs.YtlnpmefmmiacaaaGreat
open Go.Y Go.RowKit
open Go.Proofs
set_option maxRecDepth 100000

theorem own : ownKnob Tryz.prog.godebug = none := by kernel_rfl
theorem laidOut : laidOutB Tryz.prog = true := by kernel_rfl
theorem shp3 {n : Nat} {vs : List V} (h : Shp Tryz.Y n 3 vs) : ∃ x : Int, vs = encI x := by
  obtain ⟨x, rfl, _⟩ := shp_int (show Tryz.Y.kd 3 = some (.int .i64) by kernel_rfl) h
  exact ⟨x, rfl⟩
theorem shp2 {n : Nat} {vs : List V} (h : Shp Tryz.Y n 2 vs) : ∃ x : Int, vs = encI x := by
  obtain ⟨x, rfl, _⟩ := shp_int (show Tryz.Y.kd 2 = some (.int .i64) by kernel_rfl) h
  exact ⟨x, rfl⟩
theorem shp4 {n : Nat} {vs : List V} (h : Shp Tryz.Y n 4 vs) : ∃ x : Bool, vs = [.b x] := shp_bool (show Tryz.Y.kd 4 = some .bool by kernel_rfl) h
theorem shp9 {n : Nat} {vs : List V} (h : Shp Tryz.Y n 9 vs) : ∃ s : List UInt8, vs = [.s s] := by
  obtain ⟨s, h, _⟩ := shp_str (by kernel_rfl) h
  exact ⟨s, h⟩
theorem shp33 {n : Nat} {vs : List V} (h : Shp Tryz.Y n 33 vs) : ∃ l : List Int, vs = [lst encI l] := by
  obtain ⟨m, es, rfl, rfl, h, _⟩ := shp_slice (show Tryz.Y.kd 33 = some (.slice 3) by kernel_rfl) h
  obtain ⟨l, hl⟩ := list_of (f := encI) fun x hx => shp3 (h x hx)
  simp at hl
  subst hl
  exact ⟨l, by simp [lst, row]⟩
theorem shp55 {n : Nat} {vs : List V} (h : Shp Tryz.Y n 55 vs) : ∃ x : List UInt8 × List UInt8, vs = encPt x := by
  obtain ⟨m, rfl, h⟩ := shp_struct (show Tryz.Y.kd 55 = some (.struct [(0, 9), (1, 9)]) by kernel_rfl) h
  obtain ⟨a0, r0, rfl, h0, a1, r1, rfl, h1, rfl⟩ := h
  obtain ⟨b0, rfl⟩ := shp9 h0
  obtain ⟨b1, rfl⟩ := shp9 h1
  exact ⟨⟨b0, b1⟩, rfl⟩
theorem shp48 {n : Nat} {vs : List V} (h : Shp Tryz.Y n 48 vs) : ∃ l : List (List UInt8 × List UInt8), vs = [lst encPt l] := by
  obtain ⟨m, es, rfl, rfl, h, _⟩ := shp_slice (show Tryz.Y.kd 48 = some (.slice 55) by kernel_rfl) h
  obtain ⟨l, hl⟩ := list_of (f := encPt) fun x hx => shp55 (h x hx)
  simp at hl
  subst hl
  exact ⟨l, by simp [lst, row]⟩
theorem shp51 {n : Nat} {vs : List V} (h : Shp Tryz.Y n 51 vs) : ∃ x : Kid, vs = encK x := by
  obtain ⟨m, rfl, h⟩ := shp_struct (show Tryz.Y.kd 51 = some (.struct [(0, 3), (1, 2), (2, 9), (3, 9), (4, 49)]) by kernel_rfl) h
  obtain ⟨a0, r0, rfl, h0, a1, r1, rfl, h1, a2, r2, rfl, h2, a3, r3, rfl, h3, a4, r4, rfl, h4, rfl⟩ := h
  obtain ⟨b0, rfl⟩ := shp3 h0
  obtain ⟨b1, rfl⟩ := shp2 h1
  obtain ⟨b2, rfl⟩ := shp9 h2
  obtain ⟨b3, rfl⟩ := shp9 h3
  obtain ⟨m, es, rfl, rfl, h, _⟩ := shp_slice (show Tryz.Y.kd 49 = some (.slice 51) by kernel_rfl) h4
  exact ⟨⟨b0, b1, b2, b3, es.flatten, es.length⟩, rfl⟩
theorem shp49 {n : Nat} {vs : List V} (h : Shp Tryz.Y n 49 vs) : ∃ l : List Kid, vs = [lst encK l] := by
  obtain ⟨m, es, rfl, rfl, h, _⟩ := shp_slice (show Tryz.Y.kd 49 = some (.slice 51) by kernel_rfl) h
  obtain ⟨l, hl⟩ := list_of (f := encK) fun x hx => shp51 (h x hx)
  simp at hl
  subst hl
  exact ⟨l, by simp [lst, row]⟩
theorem shp51c {n : Nat} {vs : List V} (h : Shp Tryz.Y n 51 vs) : ∃ (ck cn : Int) (cname cop : List UInt8) (kids : List Kid), vs = [.i .i64 ck, .i .i64 cn, .s cname, .s cop, lst encK kids] := by
  obtain ⟨m, rfl, h⟩ := shp_struct (show Tryz.Y.kd 51 = some (.struct [(0, 3), (1, 2), (2, 9), (3, 9), (4, 49)]) by kernel_rfl) h
  obtain ⟨a0, r0, rfl, h0, a1, r1, rfl, h1, a2, r2, rfl, h2, a3, r3, rfl, h3, a4, r4, rfl, h4, rfl⟩ := h
  obtain ⟨b0, rfl⟩ := shp3 h0
  obtain ⟨b1, rfl⟩ := shp2 h1
  obtain ⟨b2, rfl⟩ := shp9 h2
  obtain ⟨b3, rfl⟩ := shp9 h3
  obtain ⟨l, rfl⟩ := shp49 h4
  exact ⟨b0, b1, b2, b3, l, rfl⟩
theorem shp53 {n : Nat} {vs : List V} (h : Shp Tryz.Y n 53 vs) : ∃ x : Ins, vs = encIn x := by
  obtain ⟨m, rfl, h⟩ := shp_struct (show Tryz.Y.kd 53 = some (.struct [(0, 3), (1, 3), (2, 9), (3, 2), (4, 48), (5, 51), (10, 33)]) by kernel_rfl) h
  obtain ⟨a0, r0, rfl, h0, a1, r1, rfl, h1, a2, r2, rfl, h2, a3, r3, rfl, h3, a4, r4, rfl, h4, a5, r5, rfl, h5, a6, r6, rfl, h6, rfl⟩ := h
  obtain ⟨b0, rfl⟩ := shp3 h0
  obtain ⟨b1, rfl⟩ := shp3 h1
  obtain ⟨b2, rfl⟩ := shp9 h2
  obtain ⟨b3, rfl⟩ := shp2 h3
  obtain ⟨b4, rfl⟩ := shp48 h4
  obtain ⟨ck, cn, cname, cop, kids, rfl⟩ := shp51c h5
  obtain ⟨b6, rfl⟩ := shp33 h6
  exact ⟨⟨b0, b1, b2, b3, b4, ck, cn, cname, cop, kids, b6⟩, rfl⟩
theorem shp22 {n : Nat} {vs : List V} (h : Shp Tryz.Y n 22 vs) : ∃ l : List Ins, vs = [lst encIn l] := by
  obtain ⟨m, es, rfl, rfl, h, _⟩ := shp_slice (show Tryz.Y.kd 22 = some (.slice 53) by kernel_rfl) h
  obtain ⟨l, hl⟩ := list_of (f := encIn) fun x hx => shp53 (h x hx)
  simp at hl
  subst hl
  exact ⟨l, by simp [lst, row]⟩
theorem shp72 {n : Nat} {vs : List V} (h : Shp Tryz.Y n 72 vs) : ∃ (k : Int) (s : List UInt8), vs = [.i .i64 k, .s s] := by
  obtain ⟨m, rfl, h⟩ := shp_struct (show Tryz.Y.kd 72 = some (.struct [(0, 3), (1, 9)]) by kernel_rfl) h
  obtain ⟨a0, r0, rfl, h0, a1, r1, rfl, h1, rfl⟩ := h
  obtain ⟨b0, rfl⟩ := shp3 h0
  obtain ⟨b1, rfl⟩ := shp9 h1
  exact ⟨b0, b1, rfl⟩
theorem shp74 {n : Nat} {vs : List V} (h : Shp Tryz.Y n 74 vs) : ∃ x : Wat, vs = encWa x := by
  obtain ⟨m, rfl, h⟩ := shp_struct (show Tryz.Y.kd 74 = some (.struct [(0, 3), (1, 3), (2, 72), (4, 3), (5, 4), (6, 3)]) by kernel_rfl) h
  obtain ⟨a0, r0, rfl, h0, a1, r1, rfl, h1, a2, r2, rfl, h2, a3, r3, rfl, h3, a4, r4, rfl, h4, a5, r5, rfl, h5, rfl⟩ := h
  obtain ⟨b0, rfl⟩ := shp3 h0
  obtain ⟨b1, rfl⟩ := shp3 h1
  obtain ⟨b2, b2', rfl⟩ := shp72 h2
  obtain ⟨b3, rfl⟩ := shp3 h3
  obtain ⟨b4, rfl⟩ := shp4 h4
  obtain ⟨b5, rfl⟩ := shp3 h5
  exact ⟨⟨b0, b1, b2, b2', b3, b4, b5⟩, rfl⟩
theorem shp23 {n : Nat} {vs : List V} (h : Shp Tryz.Y n 23 vs) : ∃ l : List Wat, vs = [lst encWa l] := by
  obtain ⟨m, es, rfl, rfl, h, _⟩ := shp_slice (show Tryz.Y.kd 23 = some (.slice 74) by kernel_rfl) h
  obtain ⟨l, hl⟩ := list_of (f := encWa) fun x hx => shp74 (h x hx)
  simp at hl
  subst hl
  exact ⟨l, by simp [lst, row]⟩
theorem shp81 {n : Nat} {vs : List V} (h : Shp Tryz.Y n 81 vs) : ∃ x : Y.Edge, vs = encE x := by
  obtain ⟨m, rfl, h⟩ := shp_struct (show Tryz.Y.kd 81 = some (.struct [(0, 3), (1, 9), (2, 3), (3, 3), (4, 3)]) by kernel_rfl) h
  obtain ⟨a0, r0, rfl, h0, a1, r1, rfl, h1, a2, r2, rfl, h2, a3, r3, rfl, h3, a4, r4, rfl, h4, rfl⟩ := h
  obtain ⟨b0, rfl⟩ := shp3 h0
  obtain ⟨b1, rfl⟩ := shp9 h1
  obtain ⟨b2, rfl⟩ := shp3 h2
  obtain ⟨b3, rfl⟩ := shp3 h3
  obtain ⟨b4, rfl⟩ := shp3 h4
  exact ⟨⟨b0, b1, b2, b3, b4⟩, rfl⟩
theorem shp77 {n : Nat} {vs : List V} (h : Shp Tryz.Y n 77 vs) : ∃ l : List Y.Edge, vs = [lst encE l] := by
  obtain ⟨m, es, rfl, rfl, h, _⟩ := shp_slice (show Tryz.Y.kd 77 = some (.slice 81) by kernel_rfl) h
  obtain ⟨l, hl⟩ := list_of (f := encE) fun x hx => shp81 (h x hx)
  simp at hl
  subst hl
  exact ⟨l, by simp [lst, row]⟩
theorem shp79 {n : Nat} {vs : List V} (h : Shp Tryz.Y n 79 vs) : ∃ x : Plc, vs = encPl x := by
  obtain ⟨m, rfl, h⟩ := shp_struct (show Tryz.Y.kd 79 = some (.struct [(0, 9), (1, 4), (2, 77)]) by kernel_rfl) h
  obtain ⟨a0, r0, rfl, h0, a1, r1, rfl, h1, a2, r2, rfl, h2, rfl⟩ := h
  obtain ⟨b0, rfl⟩ := shp9 h0
  obtain ⟨b1, rfl⟩ := shp4 h1
  obtain ⟨b2, rfl⟩ := shp77 h2
  exact ⟨⟨b0, b1, b2⟩, rfl⟩
theorem shp56 {n : Nat} {vs : List V} (h : Shp Tryz.Y n 56 vs) : ∃ l : List Plc, vs = [lst encPl l] := by
  obtain ⟨m, es, rfl, rfl, h, _⟩ := shp_slice (show Tryz.Y.kd 56 = some (.slice 79) by kernel_rfl) h
  obtain ⟨l, hl⟩ := list_of (f := encPl) fun x hx => shp79 (h x hx)
  simp at hl
  subst hl
  exact ⟨l, by simp [lst, row]⟩
theorem shp58 {n : Nat} {vs : List V} (h : Shp Tryz.Y n 58 vs) : ∃ x : Int × List Plc, vs = encPr x := by
  obtain ⟨m, rfl, h⟩ := shp_struct (show Tryz.Y.kd 58 = some (.struct [(0, 3), (1, 56)]) by kernel_rfl) h
  obtain ⟨a0, r0, rfl, h0, a1, r1, rfl, h1, rfl⟩ := h
  obtain ⟨b0, rfl⟩ := shp3 h0
  obtain ⟨b1, rfl⟩ := shp56 h1
  exact ⟨⟨b0, b1⟩, rfl⟩
theorem shp26 {n : Nat} {vs : List V} (h : Shp Tryz.Y n 26 vs) : ∃ l : List (Int × List Plc), vs = [lst encPr l] := by
  obtain ⟨m, es, rfl, rfl, h, _⟩ := shp_slice (show Tryz.Y.kd 26 = some (.slice 58) by kernel_rfl) h
  obtain ⟨l, hl⟩ := list_of (f := encPr) fun x hx => shp58 (h x hx)
  simp at hl
  subst hl
  exact ⟨l, by simp [lst, row]⟩
theorem shp25 {n : Nat} {vs : List V} (h : Shp Tryz.Y n 25 vs) : ∃ (ins : List Ins) (ws : List Wat), vs = codeC ins ws := by
  obtain ⟨m, rfl, h⟩ := shp_struct (show Tryz.Y.kd 25 = some (.struct [(0, 22), (1, 23)]) by kernel_rfl) h
  obtain ⟨a0, r0, rfl, h0, a1, r1, rfl, h1, rfl⟩ := h
  obtain ⟨b0, rfl⟩ := shp22 h0
  obtain ⟨b1, rfl⟩ := shp23 h1
  exact ⟨b0, b1, rfl⟩
structure Mod where
  ins : List Ins
  ws : List Wat
  ps : List (Int × List Plc)
  lat : Int
  mat : Int
abbrev encMo (x : Mod) : List V := modC x.ins x.ws x.ps x.lat x.mat
theorem shp28 {n : Nat} {vs : List V} (h : Shp Tryz.Y n 28 vs) : ∃ x : Mod, vs = encMo x := by
  obtain ⟨m, rfl, h⟩ := shp_struct (show Tryz.Y.kd 28 = some (.struct [(0, 25), (2, 26), (3, 3), (4, 3)]) by kernel_rfl) h
  obtain ⟨a0, r0, rfl, h0, a1, r1, rfl, h1, a2, r2, rfl, h2, a3, r3, rfl, h3, rfl⟩ := h
  obtain ⟨b0, b0', rfl⟩ := shp25 h0
  obtain ⟨b1, rfl⟩ := shp26 h1
  obtain ⟨b2, rfl⟩ := shp3 h2
  obtain ⟨b3, rfl⟩ := shp3 h3
  exact ⟨⟨b0, b0', b1, b2, b3⟩, rfl⟩

/-! ### All types are served -/
theorem served3 : ∀ n, servedB Tryz.Y n 3 = true
  | 0 => by kernel_rfl
  | n + 1 => by kernel_rfl
theorem served2 : ∀ n, servedB Tryz.Y n 2 = true
  | 0 => by kernel_rfl
  | n + 1 => by kernel_rfl
theorem served4 : ∀ n, servedB Tryz.Y n 4 = true
  | 0 => by kernel_rfl
  | n + 1 => by kernel_rfl
theorem served9 : ∀ n, servedB Tryz.Y n 9 = true
  | 0 => by kernel_rfl
  | n + 1 => by kernel_rfl
theorem served33 : ∀ n, servedB Tryz.Y n 33 = true
  | 0 => by kernel_rfl
  | n + 1 => Eq.trans (show servedB Tryz.Y (n + 1) 33 = servedB Tryz.Y n 3 by kernel_rfl) (served3 n)
theorem served55 : ∀ n, servedB Tryz.Y n 55 = true
  | 0 => by kernel_rfl
  | n + 1 => Eq.trans (show servedB Tryz.Y (n + 1) 55 = (servedB Tryz.Y n 9 && (servedB Tryz.Y n 9 && true)) by kernel_rfl) (by rw [served9 n]; rfl)
theorem served48 : ∀ n, servedB Tryz.Y n 48 = true
  | 0 => by kernel_rfl
  | n + 1 => Eq.trans (show servedB Tryz.Y (n + 1) 48 = servedB Tryz.Y n 55 by kernel_rfl) (served55 n)
theorem servedKid : ∀ n, servedB Tryz.Y n 51 = true ∧ servedB Tryz.Y n 49 = true
  | 0 => ⟨by kernel_rfl, by kernel_rfl⟩
  | n + 1 => by
    obtain ⟨h1, h2⟩ := servedKid n
    refine ⟨Eq.trans (show servedB Tryz.Y (n + 1) 51 = (servedB Tryz.Y n 3 && (servedB Tryz.Y n 2 && (servedB Tryz.Y n 9 && (servedB Tryz.Y n 9 && (servedB Tryz.Y n 49 && true))))) by kernel_rfl) (by rw [served3 n, served2 n, served9 n, h2]; rfl), Eq.trans (show servedB Tryz.Y (n + 1) 49 = servedB Tryz.Y n 51 by kernel_rfl) h1⟩
theorem served53 : ∀ n, servedB Tryz.Y n 53 = true
  | 0 => by kernel_rfl
  | n + 1 => Eq.trans (show servedB Tryz.Y (n + 1) 53 = (servedB Tryz.Y n 3 && (servedB Tryz.Y n 3 && (servedB Tryz.Y n 9 && (servedB Tryz.Y n 2 && (servedB Tryz.Y n 48 && (servedB Tryz.Y n 51 && (servedB Tryz.Y n 33 && true))))))) by kernel_rfl) (by rw [served3 n, served2 n, served9 n, served48 n, (servedKid n).1, served33 n]; rfl)
theorem served22 : ∀ n, servedB Tryz.Y n 22 = true
  | 0 => by kernel_rfl
  | n + 1 => Eq.trans (show servedB Tryz.Y (n + 1) 22 = servedB Tryz.Y n 53 by kernel_rfl) (served53 n)
theorem served23 : ∀ n, servedB Tryz.Y n 23 = true
  | 0 => by kernel_rfl
  | 1 => by kernel_rfl
  | 2 => by kernel_rfl
  | 3 => by kernel_rfl
  | n + 4 => by kernel_rfl
theorem served26 : ∀ n, servedB Tryz.Y n 26 = true
  | 0 => by kernel_rfl
  | 1 => by kernel_rfl
  | 2 => by kernel_rfl
  | 3 => by kernel_rfl
  | 4 => by kernel_rfl
  | 5 => by kernel_rfl
  | 6 => by kernel_rfl
  | n + 7 => by kernel_rfl
theorem served25 : ∀ n, servedB Tryz.Y n 25 = true
  | 0 => by kernel_rfl
  | n + 1 => Eq.trans (show servedB Tryz.Y (n + 1) 25 = (servedB Tryz.Y n 22 && (servedB Tryz.Y n 23 && true)) by kernel_rfl) (by rw [served22 n, served23 n]; rfl)
theorem served28 : ∀ n, servedB Tryz.Y n 28 = true
  | 0 => by kernel_rfl
  | n + 1 => Eq.trans (show servedB Tryz.Y (n + 1) 28 = (servedB Tryz.Y n 25 && (servedB Tryz.Y n 26 && (servedB Tryz.Y n 3 && (servedB Tryz.Y n 3 && true)))) by kernel_rfl) (by rw [served25 n, served26 n, served3 n]; rfl)
end Go.Proofs.YtlnpmefmmiacaaaGreat
