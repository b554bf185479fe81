/- What the pieces of functions come to: printed by program. -/
import Derived.Test.YtpddiafjmkjpmaaYTryP
import Derived.Test.YtpddiafjmkjpmaaYLoop
import Derived.Test.YtpddiafjmkjpmaaGSmall
import Derived.Test.YtpddiafjmkjpmaaYRow
namespace Go.Y
open Go.Proofs
set_option maxRecDepth 100000
set_option maxHeartbeats 0
theorem f55_0 (x0Cap : Int) (cs0Places : List V) (n0Places : Nat) (h : Heap) (K : Out → Nat → List V → Heap → Prop) : (codeP Try.Y (Try.Y.loc 55) 100 (pre (flat (bodyOf Try.f55))) ⟨(V.agg [V.i IntKind.i64 x0Cap, V.ts cs0Places n0Places none] :: List.replicate 59 .undef), [], h⟩ (VQ [1, 2, 10, 26, 27, 28] K)) =
  (∃ (n : Int),
  hcells (h.push (YObj.arr [V.i IntKind.i64 x0Cap, V.ts cs0Places n0Places none] true)) h.nx 0 1 =
 some [V.i IntKind.i64 n] ∧
 If (ltI n (1 : Int))
 (K Out.ret 60 [V.p (some (h.nx, 0)), V.b false, V.tup [], V.undef, V.undef, V.undef]
 (h.push (YObj.arr [V.i IntKind.i64 x0Cap, V.ts cs0Places n0Places none] true)))
 (∃ (n : Int),
 hcells (h.push (YObj.arr [V.i IntKind.i64 x0Cap, V.ts cs0Places n0Places none] true)) h.nx 0
 1 =
 some [V.i IntKind.i64 n] ∧
 If (ltI (16 : Int) n)
 (K Out.ret 60
 [V.p (some (h.nx, 0)), V.b false, V.i IntKind.i64 n, V.undef, V.undef, V.undef]
 (h.push (YObj.arr [V.i IntKind.i64 x0Cap, V.ts cs0Places n0Places none] true)))
 (∃ (cs : List V),
 ∃ (l : Nat),
 ∃ (c : Option Nat),
 hcells (h.push (YObj.arr [V.i IntKind.i64 x0Cap, V.ts cs0Places n0Places none] true)) h.nx 1
 1 =
 some [V.ts cs l c] ∧
 If (ltI (↑l : Int) (1 : Int))
 (K Out.ret 60
 [V.p (some (h.nx, 0)), V.b false, V.i IntKind.i64 n, V.undef, V.undef, V.undef]
 (h.push (YObj.arr [V.i IntKind.i64 x0Cap, V.ts cs0Places n0Places none] true)))
 (∃ (cs : List V),
 ∃ (l : Nat),
 ∃ (c : Option Nat),
 hcells (h.push (YObj.arr [V.i IntKind.i64 x0Cap, V.ts cs0Places n0Places none] true)) h.nx
 1 1 =
 some [V.ts cs l c] ∧
 If (ltI (16 : Int) (↑l : Int))
 (K Out.ret 60
 [V.p (some (h.nx, 0)), V.b false, V.i IntKind.i64 n, V.undef, V.undef,
 V.undef]
 (h.push (YObj.arr [V.i IntKind.i64 x0Cap, V.ts cs0Places n0Places none] true)))
 (∃ (cs : List V),
 ∃ (l : Nat),
 ∃ (c : Option Nat),
 hcells
 (h.push
 (YObj.arr [V.i IntKind.i64 x0Cap, V.ts cs0Places n0Places none] true))
 h.nx 1 1 =
 some [V.ts cs l c] ∧
 K Out.normal 60
 [V.p (some (h.nx, 0)), V.b false, V.i IntKind.i64 n, V.ts cs l c,
 V.i IntKind.i64 (↑l : Int), V.i IntKind.i64 (0 : Int)]
 (h.push
 (YObj.arr [V.i IntKind.i64 x0Cap, V.ts cs0Places n0Places none] true))))))) := by kernel_rfl
theorem f55_1 (id1 : Nat) (x10 : Int) (c26 : Option Nat) (cs26 : List V) (n26 : Nat) (x27 : Int) (x28 : Int) (h : Heap) (K : Out → Nat → List V → Heap → Prop) : (codeP Try.Y (Try.Y.loc 55) 100 ((flat (loopB (post (flat (bodyOf Try.f55)))))) ⟨mk 60 (([1, 10, 26, 27, 28] : List Nat).zip [V.p (some (id1, 0)), V.i IntKind.i64 x10, V.ts cs26 n26 c26, V.i IntKind.i64 x27, V.i IntKind.i64 x28]), [], h⟩ (VQ [1, 2, 10, 26, 27, 28] K)) =
  (If (ltI x28 x27)
  (((0 : Int) ≤ x28 ∧ x28 < (↑n26 : Int)) ∧
 ∃ (s : List UInt8),
 ∃ (b : Bool),
 ∃ (cs : List V),
 ∃ (l : Nat),
 ∃ (c : Option Nat),
 takeX 3 (List.drop (x28.toNat * (3 : Nat)) cs26) = some [V.s s, V.b b, V.ts cs l c] ∧
 ∃ (h_1 : Heap),
 hstore
 (h.pushT (Try.Y.tag (37 : Nat))
 (YObj.arr [V.s [], V.b false, V.sl none (0 : Nat) (some (0 : Nat)) (0 : Nat)] true))
 h.nx 0 [V.s s, V.b b, V.ts cs l c] =
 some h_1 ∧
 ∃ (s : List UInt8),
 hcells h_1 h.nx 0 1 = some [V.s s] ∧
 ∃ (b : Bool),
 (PCon Try.Y (95 : Nat) [V.s s] fun (v : V) => v = V.b b) ∧
 If (!b)
 (K Out.ret 60
 [V.p (some (id1, 0)), V.b false, V.i IntKind.i64 x10, V.ts cs26 n26 c26,
 V.i IntKind.i64 x27, V.i IntKind.i64 x28]
 h_1)
 (∃ (s : List UInt8),
 hcells h_1 h.nx 0 1 = some [V.s s] ∧
 ∃ (c : UInt8),
 ((0 : Int) ≤ (0 : Int) ∧ s[Int.toNat (0 : Int)]? = some c) ∧
 If (ltI (↑c.toNat : Int) (97 : Int))
 (K Out.ret 60
 [V.p (some (id1, 0)), V.b false, V.i IntKind.i64 x10,
 V.ts cs26 n26 c26, V.i IntKind.i64 x27, V.i IntKind.i64 x28]
 h_1)
 (∃ (cs : List V),
 ∃ (l : Nat),
 ∃ (c : Option Nat),
 hcells h_1 h.nx 2 1 = some [V.ts cs l c] ∧
 If (ltI (8 : Int) (↑l : Int))
 (K Out.ret 60
 [V.p (some (id1, 0)), V.b false, V.i IntKind.i64 x10,
 V.ts cs26 n26 c26, V.i IntKind.i64 x27, V.i IntKind.i64 x28]
 h_1)
 (∃ (cs : List V),
 ∃ (l : Nat),
 ∃ (c : Option Nat),
 hcells h_1 id1 1 1 = some [V.ts cs l c] ∧
 ((0 : Int) ≤ x28 ∧ x28 ≤ (↑l : Int)) ∧
 Con Try.Y (96 : Nat)
 [V.ts
 (List.take ((x28.toNat - (0 : Nat)) * (3 : Nat))
 (List.drop ((0 : Nat) * (3 : Nat)) cs))
 (x28.toNat - (0 : Nat))
 (Option.map (fun (x : Nat) => x - (0 : Nat)) c),
 V.fn (Fn.func (97 : Nat)) []
 [V.p (some (h.nx, 0))]]
 h_1 fun (v : V) (h' : Heap) =>
 ∃ (b : Bool),
 v = V.b b ∧
 If b
 (K Out.ret 60
 [V.p (some (id1, 0)), V.b false,
 V.i IntKind.i64 x10, V.ts cs26 n26 c26,
 V.i IntKind.i64 x27, V.i IntKind.i64 x28]
 h')
 (∃ (cs : List V),
 ∃ (l : Nat),
 ∃ (c : Option Nat),
 hcells h' h.nx 2 1 =
 some [V.ts cs l c] ∧
 Con Try.Y (84 : Nat)
 [V.ts cs l c,
 V.fn (Fn.func (98 : Nat)) []
 [V.p (some (id1, 0))]]
 h' fun (v : V) (h' : Heap) =>
 ∃ (b : Bool),
 v = V.b b ∧
 If b
 (K Out.ret 60
 [V.p (some (id1, 0)),
 V.b false, V.i IntKind.i64 x10,
 V.ts cs26 n26 c26,
 V.i IntKind.i64 x27,
 V.i IntKind.i64 x28]
 h')
 (K Out.normal 60
 [V.p (some (id1, 0)),
 V.undef, V.i IntKind.i64 x10,
 V.ts cs26 n26 c26,
 V.i IntKind.i64 x27,
 V.i IntKind.i64
 (IntKind.i64.wrap
 (x28 + (1 : Int)))]
 h'))))))
  (K (Out.exit 0) 60
 [V.p (some (id1, 0)), V.undef, V.i IntKind.i64 x10, V.ts cs26 n26 c26, V.i IntKind.i64 x27,
 V.i IntKind.i64 x28]
 h)) := by kernel_rfl
theorem f55_2  (h : Heap) (K : Out → Nat → List V → Heap → Prop) : (codeP Try.Y (Try.Y.loc 55) 100 (((post (flat (bodyOf Try.f55))).drop 1)) ⟨mk 60 (([] : List Nat).zip []), [], h⟩ (VQ [2] K)) =
  (K Out.ret 60 [V.b true] h) := by kernel_rfl
theorem f96_0 (cs0 : List V) (n0 : Nat) (id1 : Nat) (h : Heap) (K : Out → Nat → List V → Heap → Prop) : (codeP Try.Y (Try.Y.loc 96) 100 ((flat (bodyOf Try.f96))) ⟨(V.ts cs0 n0 none :: V.fn (Fn.func 97) [] [V.p (some (id1, 0))] :: List.replicate 7 .undef), [], h⟩ (VQ [4] K)) =
  (Con Try.Y (117 : Nat) [V.ts cs0 n0 none, V.fn (Fn.func 97) [] [V.p (some (id1, 0))]] h
  fun (v : V) (h' : Heap) => ∃ (n : Int), v = V.i IntKind.i64 n ∧ K Out.ret 9 [V.b (leI (0 : Int) n)] h') := by kernel_rfl
theorem f117_0 (cs0 : List V) (n0 : Nat) (id1 : Nat) (h : Heap) (K : Out → Nat → List V → Heap → Prop) : (codeP Try.Y (Try.Y.loc 117) 100 (pre (flat (bodyOf Try.f117))) ⟨(V.ts cs0 n0 none :: V.fn (Fn.func 97) [] [V.p (some (id1, 0))] :: List.replicate 17 .undef), [], h⟩ (VQ [0, 1, 7, 8] K)) =
  (K Out.normal 19
  [V.ts cs0 n0 none, V.fn (Fn.func 97) [] [V.p (some (id1, 0))], V.i IntKind.i64 (↑n0 : Int),
 V.i IntKind.i64 (0 : Int)]
  h) := by kernel_rfl
theorem f117_1 (cs0 : List V) (n0 : Nat) (id1 : Nat) (x8 : Int) (h : Heap) (K : Out → Nat → List V → Heap → Prop) : (codeP Try.Y (Try.Y.loc 117) 100 ((flat (loopB (post (flat (bodyOf Try.f117)))))) ⟨mk 19 (([0, 1, 7, 8] : List Nat).zip [V.ts cs0 n0 none, V.fn (Fn.func 97) [] [V.p (some (id1, 0))], V.i IntKind.i64 (↑n0 : Int), V.i IntKind.i64 x8]), [], h⟩ (VQ [0, 1, 4, 7, 8] K)) =
  (If (ltI x8 (↑n0 : Int))
  (((0 : Int) ≤ x8 ∧ x8 < (↑n0 : Int)) ∧
 ∃ (s : List UInt8),
 ∃ (b : Bool),
 ∃ (cs : List V),
 ∃ (l : Nat),
 ∃ (c : Option Nat),
 takeX 3 (List.drop (x8.toNat * (3 : Nat)) cs0) = some [V.s s, V.b b, V.ts cs l c] ∧
 ∃ (b_1 : Bool),
 RCon Try.Y 97 [V.agg [V.s s, V.b b, V.ts cs l c], V.p (some (id1, 0))] h
 (V.b b_1) ∧
 If b_1
 (K Out.ret 19
 [V.ts cs0 n0 none, V.fn (Fn.func 97) [] [V.p (some (id1, 0))],
 V.i IntKind.i64 x8, V.i IntKind.i64 (↑n0 : Int), V.i IntKind.i64 x8]
 h)
 (K Out.normal 19
 [V.ts cs0 n0 none, V.fn (Fn.func 97) [] [V.p (some (id1, 0))], V.undef,
 V.i IntKind.i64 (↑n0 : Int), V.i IntKind.i64 (IntKind.i64.wrap (x8 + (1 : Int)))]
 h))
  (K (Out.exit 0) 19
 [V.ts cs0 n0 none, V.fn (Fn.func 97) [] [V.p (some (id1, 0))], V.undef,
 V.i IntKind.i64 (↑n0 : Int), V.i IntKind.i64 x8]
 h)) := by kernel_rfl
theorem f117_2  (h : Heap) (K : Out → Nat → List V → Heap → Prop) : (codeP Try.Y (Try.Y.loc 117) 100 (((post (flat (bodyOf Try.f117))).drop 1)) ⟨mk 19 (([] : List Nat).zip []), [], h⟩ (VQ [4] K)) =
  (K Out.ret 19 [V.i IntKind.i64 (-1 : Int)] h) := by kernel_rfl
theorem f84_0 (cs0 : List V) (n0 : Nat) (id1 : Nat) (h : Heap) (K : Out → Nat → List V → Heap → Prop) : (codeP Try.Y (Try.Y.loc 84) 100 ((flat (bodyOf Try.f84))) ⟨(V.ts cs0 n0 none :: V.fn (Fn.func 98) [] [V.p (some (id1, 0))] :: List.replicate 7 .undef), [], h⟩ (VQ [4] K)) =
  (Con Try.Y (110 : Nat) [V.ts cs0 n0 none, V.fn (Fn.func 98) [] [V.p (some (id1, 0))]] h
  fun (v : V) (h' : Heap) => ∃ (n : Int), v = V.i IntKind.i64 n ∧ K Out.ret 9 [V.b (leI (0 : Int) n)] h') := by kernel_rfl
theorem f110_0 (cs0 : List V) (n0 : Nat) (id1 : Nat) (h : Heap) (K : Out → Nat → List V → Heap → Prop) : (codeP Try.Y (Try.Y.loc 110) 100 (pre (flat (bodyOf Try.f110))) ⟨(V.ts cs0 n0 none :: V.fn (Fn.func 98) [] [V.p (some (id1, 0))] :: List.replicate 17 .undef), [], h⟩ (VQ [0, 1, 7, 8] K)) =
  (K Out.normal 19
  [V.ts cs0 n0 none, V.fn (Fn.func 98) [] [V.p (some (id1, 0))], V.i IntKind.i64 (↑n0 : Int),
 V.i IntKind.i64 (0 : Int)]
  h) := by kernel_rfl
theorem f110_1 (cs0 : List V) (n0 : Nat) (id1 : Nat) (x8 : Int) (h : Heap) (K : Out → Nat → List V → Heap → Prop) : (codeP Try.Y (Try.Y.loc 110) 100 ((flat (loopB (post (flat (bodyOf Try.f110)))))) ⟨mk 19 (([0, 1, 7, 8] : List Nat).zip [V.ts cs0 n0 none, V.fn (Fn.func 98) [] [V.p (some (id1, 0))], V.i IntKind.i64 (↑n0 : Int), V.i IntKind.i64 x8]), [], h⟩ (VQ [0, 1, 4, 7, 8] K)) =
  (If (ltI x8 (↑n0 : Int))
  (((0 : Int) ≤ x8 ∧ x8 < (↑n0 : Int)) ∧
 ∃ (n : Int),
 ∃ (s : List UInt8),
 ∃ (n_1 : Int),
 ∃ (n_2 : Int),
 ∃ (n_3 : Int),
 takeX 5 (List.drop (x8.toNat * (5 : Nat)) cs0) =
 some [V.i IntKind.i64 n, V.s s, V.i IntKind.i64 n_1, V.i IntKind.i64 n_2, V.i IntKind.i64 n_3] ∧
 Con Try.Y 98
 [V.agg [V.i IntKind.i64 n, V.s s, V.i IntKind.i64 n_1, V.i IntKind.i64 n_2, V.i IntKind.i64 n_3],
 V.p (some (id1, 0))]
 h fun (v : V) (h' : Heap) =>
 ∃ (b : Bool),
 v = V.b b ∧
 If b
 (K Out.ret 19
 [V.ts cs0 n0 none, V.fn (Fn.func 98) [] [V.p (some (id1, 0))],
 V.i IntKind.i64 x8, V.i IntKind.i64 (↑n0 : Int), V.i IntKind.i64 x8]
 h')
 (K Out.normal 19
 [V.ts cs0 n0 none, V.fn (Fn.func 98) [] [V.p (some (id1, 0))], V.undef,
 V.i IntKind.i64 (↑n0 : Int), V.i IntKind.i64 (IntKind.i64.wrap (x8 + (1 : Int)))]
 h'))
  (K (Out.exit 0) 19
 [V.ts cs0 n0 none, V.fn (Fn.func 98) [] [V.p (some (id1, 0))], V.undef,
 V.i IntKind.i64 (↑n0 : Int), V.i IntKind.i64 x8]
 h)) := by kernel_rfl
theorem f110_2  (h : Heap) (K : Out → Nat → List V → Heap → Prop) : (codeP Try.Y (Try.Y.loc 110) 100 (((post (flat (bodyOf Try.f110))).drop 1)) ⟨mk 19 (([] : List Nat).zip []), [], h⟩ (VQ [4] K)) =
  (K Out.ret 19 [V.i IntKind.i64 (-1 : Int)] h) := by kernel_rfl
theorem f97_0 (s0Name : List UInt8) (b0Echo : Bool) (cs0Edges : List V) (n0Edges : Nat) (id1 : Nat) (h : Heap) (K : Out → Nat → List V → Heap → Prop) : (codeP Try.Y (Try.Y.loc 97) 100 ((flat (bodyOf Try.f97))) ⟨(V.agg [V.s s0Name, V.b b0Echo, V.ts cs0Edges n0Edges none] :: V.p (some (id1, 0)) :: List.replicate 7 .undef), [], h⟩ (VQ [3] K)) =
  (∃ (s : List UInt8), hcells h id1 0 1 = some [V.s s] ∧ K Out.ret 9 [V.b (s0Name == s)] h) := by kernel_rfl
theorem f98_0 (x0Kind : Int) (s0Text : List UInt8) (x0Lo : Int) (x0Hi : Int) (x0To : Int) (id1 : Nat) (h : Heap) (K : Out → Nat → List V → Heap → Prop) : (codeP Try.Y (Try.Y.loc 98) 100 ((flat (bodyOf Try.f98))) ⟨(V.agg [V.i IntKind.i64 x0Kind, V.s s0Text, V.i IntKind.i64 x0Lo, V.i IntKind.i64 x0Hi, V.i IntKind.i64 x0To] :: V.p (some (id1, 0)) :: List.replicate 6 .undef), [], h⟩ (VQ [3] K)) =
  (∃ (n : Int),
  ∃ (cs : List V),
 ∃ (l : Nat),
 ∃ (c : Option Nat),
 hcells h id1 0 2 = some [V.i IntKind.i64 n, V.ts cs l c] ∧
 ∃ (b : Bool),
 (PCon Try.Y (99 : Nat)
 [V.agg
 [V.i IntKind.i64 x0Kind, V.s s0Text, V.i IntKind.i64 x0Lo, V.i IntKind.i64 x0Hi,
 V.i IntKind.i64 x0To],
 V.agg [V.i IntKind.i64 n, V.ts cs l c]]
 fun (v : V) => v = V.b b) ∧
 K Out.ret 8 [V.b !b] h) := by kernel_rfl
end Go.Y

/- peer.May, by its contract. -/
namespace Go.Y
open Go.Proofs
set_option maxRecDepth 100000

theorem hcells_of {h : Heap} {id : Nat} {cs : List V} {wr : Bool} (hg : h.get id = some (.arr cs wr)) (off n : Nat) : hcells h id off n = takeX n (cs.drop off) := by
  simp only [hcells, hg]

theorem row_takeP {α : Type} {f : α → List V} {k : Nat} (hk : ∀ x, (f x).length = k) (l : List α) (n : Nat) : (row f l).take (n * k) = row f (l.take n) := by
  induction l generalizing n with
  | nil => simp [row]
  | cons x l ih =>
    have h : row f (x :: l) = f x ++ row f l := by simp [row]
    cases n with
    | zero => simp [row]
    | succ n =>
      have h2 : row f (x :: l.take n) = f x ++ row f (l.take n) := by simp [row]
      rw [List.take_succ_cons, h, h2, ← ih n, Nat.add_mul, Nat.one_mul, Nat.add_comm, ← hk x, List.take_length_add_append]

/-! ### names that were met -/
theorem met97 (x y : Plc) {h : Heap} {id : Nat} (hg : h.get id = some (.arr (encPl x) true)) : Con Try.Y 97 [.agg (encPl y), .p (some (id, 0))] h fun v h' => v = .b (y.name == x.name) ∧ h' = h := by
  refine conz_of Try.Yok (fn := Try.f97) (by kernel_rfl) (by kernel_rfl) (end_rule Try.Yok (loc := Try.Y.loc 97) 100 [3] ?_)
  refine Eq.mpr (f97_0 y.name y.echo (row encE y.edges) y.edges.length id h _) ?_
  exact ⟨x.name, by rw [hcells_of hg]; rfl, finC (.inr rfl) rfl (.now ⟨rfl, rfl⟩)⟩
theorem rcon97 (x y : Plc) {h : Heap} {id : Nat} (hg : h.get id = some (.arr (encPl x) true)) : RCon Try.Y 97 [.agg (encPl y), .p (some (id, 0))] h (.b (y.name == x.name)) :=
  ⟨h, met97 x y hg, fun _ _ => rfl, fun _ hp => hp⟩

theorem index97 (l : List Plc) (x : Plc) {h : Heap} {id : Nat} (hg : h.get id = some (.arr (encPl x) true)) (hl : l.length < 2 ^ 30) :
    Con Try.Y 117 [lst encPl l, .fn (.func 97) [] [.p (some (id, 0))]] h fun v h' => ∃ n : Int, v = .i .i64 n ∧ leI 0 n = (l.any fun y => y.name == x.name) ∧ h' = h := by
  refine conz_of Try.Yok (fn := Try.f117) (by kernel_rfl) (by kernel_rfl) ?_
  refine pre_rule Try.Yok (n := 19) (loc := Try.Y.loc 117) 100 [0, 1, 7, 8] (by kernel_rfl) ?_
  refine Eq.mpr (f117_0 (row encPl l) l.length id h _) ?_
  refine ⟨rfl, loop2 [0, 1, 7, 8] [0, 1, 4, 7, 8] rfl (by kernel_rfl) (fun m vs h' => ∃ i : Nat, vs = [lst encPl l, .fn (.func 97) [] [.p (some (id, 0))], .i .i64 l.length, .i .i64 (i : Nat)] ∧ i ≤ l.length ∧ ((l.take i).any fun y => y.name == x.name) = false ∧ m = l.length - i ∧ h' = h) l.length mk_len ⟨0, rfl, by omega, by simp, by omega, rfl⟩ ?_⟩
  rintro m vs h' ⟨i, rfl, hi, hno, rfl, rfl⟩
  refine all_rule Try.Yok (loc := Try.Y.loc 117) 100 [0, 1, 4, 7, 8] ?_
  refine Eq.mpr (f117_1 (row encPl l) l.length id (i : Nat) h' _) ?_
  refine if_lt_nat (fun hlt => ?_) (fun hge => ?_)
  · refine ⟨bnd_nat hlt, _, _, _, _, _, by rw [Int.toNat_natCast]; exact row_get (f := encPl) (k := 3) encPl_len hlt, _, rcon97 x l[i] hg, if_mk (fun hc => ?_) (fun hc => ?_)⟩
    · refine fin_at (.inr rfl) rfl (.now ⟨(i : Nat), rfl, ?_, rfl⟩)
      have : (l.any fun y => y.name == x.name) = true := List.any_eq_true.2 ⟨l[i], List.getElem_mem hlt, hc⟩
      rw [this]; simp [leI]
    · refine ⟨rfl, l.length - (i + 1), by omega, i + 1, ?_, by omega, ?_, rfl, rfl⟩
      · rw [wrap_succ (by omega)]; rfl
      · rw [List.take_succ_eq_append_getElem hlt, List.any_append, hno]; simp only [List.any_cons, List.any_nil, hc, Bool.or_false]
  · refine roundW_exit [] (by kernel_rfl) rfl rfl ?_
    refine end_rule Try.Yok (loc := Try.Y.loc 117) 100 [4] ?_
    refine Eq.mpr (f117_2 h' _) ?_
    rw [List.take_of_length_le hge] at hno
    exact finC (.inr rfl) rfl (.now ⟨-1, rfl, by rw [hno]; rfl, rfl⟩)

theorem contains97 (l : List Plc) (x : Plc) {h : Heap} {id : Nat} (hg : h.get id = some (.arr (encPl x) true)) (hl : l.length < 2 ^ 30) :
    Con Try.Y 96 [lst encPl l, .fn (.func 97) [] [.p (some (id, 0))]] h fun v h' => v = .b (l.any fun y => y.name == x.name) ∧ h' = h := by
  refine conz_of Try.Yok (fn := Try.f96) (by kernel_rfl) (by kernel_rfl) (end_rule Try.Yok (loc := Try.Y.loc 96) 100 [4] ?_)
  refine Eq.mpr (f96_0 (row encPl l) l.length id h _) ?_
  refine (index97 l x hg hl).mono fun v h' ⟨n, e1, e2, e3⟩ => ⟨n, e1, ?_⟩
  subst e3
  rw [e2]
  exact finC (.inr rfl) rfl (.now ⟨rfl, rfl⟩)

/-! ### edges that are not right -/
theorem wrong98 (e : Edge) (cap : Int) (l : List Plc) {h : Heap} {id : Nat} (hg : h.get id = some (.arr (peerC cap l) true)) : Con Try.Y 98 [.agg (encE e), .p (some (id, 0))] h fun v h' => v = .b (!edgeS e cap l.length) ∧ h' = h := by
  refine conz_of Try.Yok (fn := Try.f98) (by kernel_rfl) (by kernel_rfl) (end_rule Try.Yok (loc := Try.Y.loc 98) 100 [3] ?_)
  refine Eq.mpr (f98_0 e.kind e.text e.lo e.hi e.to id h _) ?_
  exact ⟨cap, row encPl l, l.length, none, by rw [hcells_of hg]; rfl, _, right_con e cap (row encPl l) l.length, finC (.inr rfl) rfl (.now ⟨rfl, rfl⟩)⟩

theorem index98 (k : List Edge) (cap : Int) (l : List Plc) {h : Heap} {id : Nat} (hg : h.get id = some (.arr (peerC cap l) true)) (hl : k.length < 2 ^ 30) :
    Con Try.Y 110 [lst encE k, .fn (.func 98) [] [.p (some (id, 0))]] h fun v h' => ∃ n : Int, v = .i .i64 n ∧ leI 0 n = (k.any fun e => !edgeS e cap l.length) ∧ h' = h := by
  refine conz_of Try.Yok (fn := Try.f110) (by kernel_rfl) (by kernel_rfl) ?_
  refine pre_rule Try.Yok (n := 19) (loc := Try.Y.loc 110) 100 [0, 1, 7, 8] (by kernel_rfl) ?_
  refine Eq.mpr (f110_0 (row encE k) k.length id h _) ?_
  refine ⟨rfl, loop2 [0, 1, 7, 8] [0, 1, 4, 7, 8] rfl (by kernel_rfl) (fun m vs h' => ∃ i : Nat, vs = [lst encE k, .fn (.func 98) [] [.p (some (id, 0))], .i .i64 k.length, .i .i64 (i : Nat)] ∧ i ≤ k.length ∧ ((k.take i).any fun e => !edgeS e cap l.length) = false ∧ m = k.length - i ∧ h' = h) k.length mk_len ⟨0, rfl, by omega, by simp, by omega, rfl⟩ ?_⟩
  rintro m vs h' ⟨i, rfl, hi, hno, rfl, rfl⟩
  refine all_rule Try.Yok (loc := Try.Y.loc 110) 100 [0, 1, 4, 7, 8] ?_
  refine Eq.mpr (f110_1 (row encE k) k.length id (i : Nat) h' _) ?_
  refine if_lt_nat (fun hlt => ?_) (fun hge => ?_)
  · refine ⟨bnd_nat hlt, _, _, _, _, _, by rw [Int.toNat_natCast]; exact row_get (f := encE) (k := 5) encE_len hlt, (wrong98 k[i] cap l hg).mono fun v h2 ⟨e1, e2⟩ => ⟨_, e1, ?_⟩⟩
    subst e2
    refine if_mk (fun hc => ?_) (fun hc => ?_)
    · refine fin_at (.inr rfl) rfl (.now ⟨(i : Nat), rfl, ?_, rfl⟩)
      have : (k.any fun e => !edgeS e cap l.length) = true := List.any_eq_true.2 ⟨k[i], List.getElem_mem hlt, hc⟩
      rw [this]; simp [leI]
    · refine ⟨rfl, k.length - (i + 1), by omega, i + 1, ?_, by omega, ?_, rfl, rfl⟩
      · rw [wrap_succ (by omega)]; rfl
      · rw [List.take_succ_eq_append_getElem hlt, List.any_append, hno]; simp only [List.any_cons, List.any_nil, hc, Bool.or_false]
  · refine roundW_exit [] (by kernel_rfl) rfl rfl ?_
    refine end_rule Try.Yok (loc := Try.Y.loc 110) 100 [4] ?_
    refine Eq.mpr (f110_2 h' _) ?_
    rw [List.take_of_length_le hge] at hno
    exact finC (.inr rfl) rfl (.now ⟨-1, rfl, by rw [hno]; rfl, rfl⟩)

theorem contains98 (k : List Edge) (cap : Int) (l : List Plc) {h : Heap} {id : Nat} (hg : h.get id = some (.arr (peerC cap l) true)) (hl : k.length < 2 ^ 30) :
    Con Try.Y 84 [lst encE k, .fn (.func 98) [] [.p (some (id, 0))]] h fun v h' => v = .b (k.any fun e => !edgeS e cap l.length) ∧ h' = h := by
  refine conz_of Try.Yok (fn := Try.f84) (by kernel_rfl) (by kernel_rfl) (end_rule Try.Yok (loc := Try.Y.loc 84) 100 [4] ?_)
  refine Eq.mpr (f84_0 (row encE k) k.length id h _) ?_
  refine (index98 k cap l hg hl).mono fun v h' ⟨n, e1, e2, e3⟩ => ⟨n, e1, ?_⟩
  subst e3
  rw [e2]
  exact finC (.inr rfl) rfl (.now ⟨rfl, rfl⟩)

/-! ### May -/
def M55 (cap : Int) (l : List Plc) (m : Nat) (vs : List V) (h : Heap) : Prop :=
  ∃ (id i : Nat), vs = [.p (some (id, 0)), .i .i64 cap, lst encPl l, .i .i64 l.length, .i .i64 (i : Nat)] ∧ h.get id = some (.arr (peerC cap l) true) ∧ id < h.nx ∧ i ≤ l.length ∧ m = l.length - i ∧ (List.range i).all (okPl cap l) = true

theorem any_neg {α : Type} (p : α → Bool) (k : List α) : (k.any fun x => !p x) = !k.all p := by
  induction k with
  | nil => rfl
  | cons x k ih => rw [List.any_cons, List.all_cons, ih]; cases p x <;> simp

theorem peer_con (cap : Int) (l : List Plc) : PCon Try.Y 55 [.agg (peerC cap l)] (· = .b (peerS cap l)) := by
  refine pcon_of Try.Yok (fn := Try.f55) (by kernel_rfl) (by kernel_rfl) rfl ?_
  refine pre_rule Try.Yok (n := 60) (loc := Try.Y.loc 55) 100 [1, 2, 10, 26, 27, 28] (by kernel_rfl) ?_
  refine Eq.mpr (f55_0 cap (row encPl l) l.length .empty _) ?_
  have no : ∀ h, peerS cap l = false → ∃ r, Frz h (.b false) r ∧ r = .b (peerS cap l) := fun h e => ⟨_, .b _, by rw [e]⟩
  have hg0 : (Heap.empty.push (YObj.arr (peerC cap l) true)).get Heap.empty.nx = some (.arr (peerC cap l) true) := by simp
  have c1 : hcells (Heap.empty.push (YObj.arr (peerC cap l) true)) Heap.empty.nx 0 1 = some [.i .i64 cap] := by rw [hcells_of hg0]; rfl
  have c2 : hcells (Heap.empty.push (YObj.arr (peerC cap l) true)) Heap.empty.nx 1 1 = some [lst encPl l] := by rw [hcells_of hg0]; rfl
  refine ⟨cap, c1, if_lt (fun g => fin_at (.inr rfl) rfl (no _ (by simp [peerS, show leI 1 cap = false by simp [leI]; omega]))) (fun g1 => ?_)⟩
  refine ⟨cap, c1, if_lt (fun g => fin_at (.inr rfl) rfl (no _ (by simp [peerS, show leI cap 16 = false by simp [leI]; omega]))) (fun g2 => ?_)⟩
  refine ⟨_, _, _, c2, if_lt (fun g => fin_at (.inr rfl) rfl (no _ (by simp [peerS, show ¬ 1 ≤ l.length by omega]))) (fun g3 => ?_)⟩
  refine ⟨_, _, _, c2, if_lt (fun g => fin_at (.inr rfl) rfl (no _ (by simp [peerS, show ¬ l.length ≤ 16 by omega]))) (fun g4 => ?_)⟩
  have g1 : leI 1 cap = true := by simp [leI]; omega
  have g2 : leI cap 16 = true := by simp [leI]; omega
  have g3 : 1 ≤ l.length := by omega
  have g4 : l.length ≤ 16 := by omega
  refine ⟨_, _, _, c2, rfl, loop2 [1, 10, 26, 27, 28] [1, 2, 10, 26, 27, 28] rfl (by kernel_rfl) (M55 cap l) l.length mk_len ⟨_, 0, rfl, hg0, by simp [Heap.push, Heap.empty], by omega, by omega, by simp⟩ ?_⟩
  rintro m vs h ⟨id, i, rfl, hg, hid, hi, rfl, hp⟩
  refine all_rule Try.Yok (loc := Try.Y.loc 55) 100 [1, 2, 10, 26, 27, 28] ?_
  refine Eq.mpr (f55_1 id cap none (row encPl l) l.length (l.length : Nat) (i : Nat) h _) ?_
  refine if_lt_nat (fun hlt => ?_) (fun hge => ?_)
  · have hget : l[i]? = some l[i] := List.getElem?_eq_getElem hlt
    have htag : Try.Y.tag 37 = none := by kernel_rfl
    rw [htag]
    have hgp : ∀ j, (h.pushT none (YObj.arr [.s [], .b false, .sl none 0 (some 0) 0] true)).get j = if j = h.nx then some (YObj.arr [.s [], .b false, .sl none 0 (some 0) 0] true) else h.get j := fun j => Heap.get_pushT _ _ _ _
    let h1 : Heap := (h.pushT none (YObj.arr [.s [], .b false, .sl none 0 (some 0) 0] true)).set h.nx (some (.arr (encPl l[i]) true))
    have hst : hstore (h.pushT none (YObj.arr [.s [], .b false, .sl none 0 (some 0) 0] true)) h.nx 0 (encPl l[i]) = some h1 := by
      simp only [hstore, hgp, if_true]
      rfl
    have hx : h1.get h.nx = some (.arr (encPl l[i]) true) := by rw [Heap.get_set, if_pos rfl]
    have hpp : h1.get id = some (.arr (peerC cap l) true) := by
      rw [Heap.get_set, if_neg (by omega), hgp, if_neg (by omega)]; exact hg
    have hnx : h1.nx = h.nx + 1 := rfl
    have out : ∀ h, okPl cap l i = false → ∃ r, Frz h (.b false) r ∧ r = .b (peerS cap l) := fun h ho => no h (peer_no hlt ho)
    refine ⟨bnd_nat hlt, l[i].name, l[i].echo, row encE l[i].edges, l[i].edges.length, none, by rw [Int.toNat_natCast]; exact row_get (f := encPl) (k := 3) encPl_len hlt, h1, hst, ?_⟩
    refine ⟨l[i].name, by rw [hcells_of hx]; rfl, _, name_con l[i].name, if_mk (fun h2 => fin_at (.inr rfl) rfl (out _ (by unfold okPl; rw [hget]; simp only; rw [show nameS l[i].name = false by simpa using h2]; rfl))) (fun h2 => ?_)⟩
    have h2 : nameS l[i].name = true := by simpa using h2
    obtain ⟨c, r, hcr⟩ : ∃ c r, l[i].name = c :: r := by
      cases hnm : l[i].name with
      | nil => rw [hnm] at h2; cases h2
      | cons c r => exact ⟨c, r, rfl⟩
    refine ⟨l[i].name, by rw [hcells_of hx]; rfl, c, ⟨by omega, by rw [hcr]; rfl⟩, if_mk (fun h3 => fin_at (.inr rfl) rfl (out _ (by unfold okPl; rw [hget]; simp only; rw [show headS l[i].name = false by rw [hcr]; simp [headS, h3]]; simp))) (fun h3 => ?_)⟩
    have h3 : headS l[i].name = true := by rw [hcr]; simp [headS, h3]
    refine ⟨row encE l[i].edges, l[i].edges.length, none, by rw [hcells_of hx]; rfl, if_lt (fun h4 => fin_at (.inr rfl) rfl (out _ (by unfold okPl; rw [hget]; simp only; rw [decide_eq_false (show ¬ l[i].edges.length ≤ 8 by omega)]; simp))) (fun h4 => ?_)⟩
    have h4 : l[i].edges.length ≤ 8 := by omega
    refine ⟨row encPl l, l.length, none, by rw [hcells_of hpp]; rfl, ⟨by omega, by omega⟩, ?_⟩
    have harg : (V.ts (List.take (((i : Nat) : Int).toNat * 3 - 0 * 3) (List.drop (0 * 3) (row encPl l))) (((i : Nat) : Int).toNat - 0) (Option.map (fun x => x - 0) none)) = lst encPl (l.take i) := by
      rw [Int.toNat_natCast]
      simp only [Nat.zero_mul, List.drop_zero, Nat.sub_zero, Option.map_none, lst]
      rw [row_takeP encPl_len, List.length_take, Nat.min_eq_left (by omega)]
    have hsub : (((i : Nat) : Int).toNat - 0) * 3 = ((i : Nat) : Int).toNat * 3 - 0 * 3 := by omega
    rw [hsub, harg]
    refine (contains97 (l.take i) l[i] hx (by rw [List.length_take]; omega)).mono fun v h' ⟨e1, e2⟩ => ⟨_, e1, ?_⟩
    subst e2
    refine if_mk (fun h5 => fin_at (.inr rfl) rfl (out _ (by unfold okPl; rw [hget]; simp only; rw [h5]; simp))) (fun h5 => ?_)
    refine ⟨row encE l[i].edges, l[i].edges.length, none, by rw [hcells_of hx]; rfl, ?_⟩
    refine (contains98 l[i].edges cap l hpp (by omega)).mono fun v h' ⟨e1, e2⟩ => ⟨_, e1, ?_⟩
    subst e2
    rw [any_neg]
    refine if_mk (fun h6 => fin_at (.inr rfl) rfl (out _ (by unfold okPl; rw [hget]; simp only; rw [show (l[i].edges.all fun e => edgeS e cap l.length) = false by simpa using h6]; simp))) (fun h6 => ?_)
    have h6 : (l[i].edges.all fun e => edgeS e cap l.length) = true := by simpa using h6
    have ho : okPl cap l i = true := by
      unfold okPl; rw [hget]; simp only
      rw [h2, h3, h5, h6, decide_eq_true h4]; rfl
    refine ⟨rfl, l.length - (i + 1), by omega, id, i + 1, by rw [wrap_succ (by omega)]; rfl, hpp, by omega, by omega, rfl, range_snoc hp ho⟩
  · refine roundW_exit [] (by kernel_rfl) rfl rfl ?_
    refine end_rule Try.Yok (loc := Try.Y.loc 55) 100 [2] ?_
    refine Eq.mpr (f55_2 _ _) ?_
    have : i = l.length := by omega
    subst this
    exact finV1 (.inr rfl) rfl (.b _) (by simp [peerS, g1, g2, g3, g4, hp])
end Go.Y

/- Some objects become read-only ahead of a call; an object's cells with them. -/
namespace Go.Y

theorem FrzAL.length {h : Heap} : ∀ {l l' : List V}, FrzAL h l l' → l.length = l'.length
  | _, _, .nil => rfl
  | _, _, .cons _ _ _ _ _ hl => by simp [hl.length]
theorem FrzAL.get {h : Heap} : ∀ {l l' : List V}, FrzAL h l l' → ∀ {j : Nat} {v' : V}, l'[j]? = some v' → ∃ v, l[j]? = some v ∧ FrzA h v v'
  | _, _, .nil, j, v', h => by simp at h
  | _, _, .cons v v1 l l' hv hl, 0, v', h => by simp at h; subst h; exact ⟨v, rfl, hv⟩
  | _, _, .cons v v1 l l' hv hl, j + 1, v', h => by simp at h; simpa using hl.get h
theorem FrzAL.refl {h : Heap} : ∀ l : List V, FrzAL h l l
  | [] => .nil
  | v :: l => .cons _ _ _ _ (.same v) (FrzAL.refl l)

theorem HRel.cool {W : Vw} {h : Heap} {w : World} (hr : HRel W h w) (D : List Nat) {O : Nat} {cs cs' : List V} {wr : Bool} (hg : h.get O = some (.arr cs wr)) (hD : O ∉ D) (hf : FrzAL (takeD h D) cs cs') :
    HRel (W.frzD D w) ((killD h D).set O (some (.arr cs' wr))) w := by
  obtain ⟨g1, g2⟩ := hr.frzD D
  have hk : (killD h D).get O = some (.arr cs wr) := by rw [killD_get, if_neg hD]; exact hg
  refine ⟨g1.nx, fun j => ?_, fun j hj => ?_, g1.snap, fun j o hj => ?_, g1.inj, g1.apart, fun p hp => g1.tg p hp⟩
  · rw [Heap.get_set]
    by_cases e : j = O
    · subst e; rw [if_pos rfl, g1.lv j, hk]; simp
    · rw [if_neg e]; exact g1.lv j
  · rw [Heap.get_set] at hj
    by_cases e : j = O
    · subst e; exact g1.lt j (by rw [hk]; rfl)
    · rw [if_neg e] at hj; exact g1.lt j hj
  · rw [Heap.get_set] at hj
    by_cases e : j = O
    · subst e
      rw [if_pos rfl] at hj
      simp only [Option.some.injEq] at hj
      subst hj
      obtain ⟨c, e, fr, h1, h2, h3, h4, h5⟩ := hr.obj j _ hg
      refine ⟨c, e, fr, h1, h2, by rw [← hf.length]; exact h3, fun i v' hi => ?_, by rw [← hf.length]; exact h5⟩
      obtain ⟨v, hv, hz⟩ := hf.get hi
      obtain ⟨u, hu, hvu⟩ := h4 i v hv
      exact ⟨u, hu, hz.vr (Fz.of hr D) (frzD_le hr D) hvu⟩
    · rw [if_neg e] at hj; exact g1.obj j o hj

/-- A call, once some objects are read-only; what one object holds is known by them. -/
theorem Con.cool {Y : YP} {f : FuncId} {args args' : List V} {h : Heap} {Q : V → Heap → Prop} (D : List Nat) {O : Nat} {cs cs' : List V} {wr : Bool} (hg : h.get O = some (.arr cs wr)) (hD : O ∉ D) (hf : FrzAL (takeD h D) cs cs') (ha : FrzAL (takeD h D) args args')
    (c : Con Y f args' ((killD h D).set O (some (.arr cs' wr))) Q) : Con Y f args h Q :=
  ⟨c.body, fun W w us hr hv => by
    have g1 := hr.cool D hg hD hf
    have g2 := (hr.frzD D).2
    refine (c.tr (W.frzD D w) w us g1 (ha.vr (Fz.of hr D) (frzD_le hr D) hv)).mono ?_
    rintro e w' ⟨v, h', W', u, h1, h2, h3, h4, h5⟩
    exact ⟨v, h', W', u, h1, h2, h3, h4, g2.trans h5⟩⟩
/-- .. and behind it. -/
theorem Con.coolR {Y : YP} {f : FuncId} {args : List V} {h : Heap} {Q : V → Heap → Prop}
    (c : Con Y f args h fun v h' => ∃ (D : List Nat) (O : Nat) (cs cs' : List V) (wr : Bool), h'.get O = some (.arr cs wr) ∧ O ∉ D ∧ FrzAL (takeD h' D) cs cs' ∧ ∃ v', FrzA (takeD h' D) v v' ∧ Q v' ((killD h' D).set O (some (.arr cs' wr)))) : Con Y f args h Q :=
  ⟨c.body, fun W w us hr hv => (c.tr W w us hr hv).mono fun e w' ⟨v, h', W', u, ⟨D, O, cs, cs', wr, h1, h2, h3, v', h4, h5⟩, he, hh, hvu, hst⟩ =>
    ⟨v', _, _, u, h5, he, hh.cool D h1 h2 h3, h4.vr (Fz.of hh D) (frzD_le hh D) hvu, hst.trans (hh.frzD D).2⟩⟩

theorem HRel.more {W : Vw} {h : Heap} {w w' : World} (r : HRel W h w) {s : Nat → Option Obj} (hs : ∀ b o, W.snap b = some o → s b = some o) (hz : w.heap.size ≤ w'.heap.size)
    (hk : ∀ b, b < w.heap.size → w'.heap[b]? = w.heap[b]?) (hn : ∀ b o, s b = some o → w'.heap[b]? = some o) (hstr : Str w w') :
    HRel (W.more w.heap.size s) h w' ∧ Stp W W.own w (W.more w.heap.size s) (W.more w.heap.size s).own w' := by
  have hle := more_le (w := w) hs
  have hsame : Same w w' := fun b o hb => by rw [hk b (lt_of_block hb)]; exact hb
  have hlt : ∀ id, W.lv id → (W.mu id).1 < w.heap.size := by
    intro id hl
    obtain ⟨o, ho⟩ := r.block hl
    exact lt_of_block ho
  refine ⟨⟨r.nx, r.lv, r.lt, ?_, ?_, r.inj, ?_, fun p hp => ⟨(r.tg p hp).1, (((r.tg p hp).2).same hsame).mono hle (by rw [r.nx]; exact (r.tg p hp).1)⟩⟩, ⟨hle, hz, fun b hb _ => hk b hb, fun b hb => .inl hb, ?_, hstr⟩⟩
  · intro b o hb
    simp only [Vw.more] at hb
    split at hb
    · exact hn b o hb
    · exact hsame b o (r.snap b o hb)
  · intro id o ho
    have hid : id < W.nx := by rw [r.nx]; exact r.lt id (by simp [ho])
    exact ((r.obj id o ho).same hsame).mono hle hid
  · intro id hl
    have := hlt id hl
    simp only [Vw.more]
    rw [if_neg (by omega)]
    exact r.apart id hl
  · intro b hb
    simp only [Vw.more] at hb
    split at hb
    · rename_i h1; exact .inr (.inr h1)
    · exact .inl hb

/-- A call of a function that starts from nothing, of what becomes read-only. -/
theorem Con.ofP {Y : YP} {f : FuncId} {args args' : List V} {h : Heap} {P : V → Prop} (D : List Nat) (hf : FrzAL (takeD h D) args args') (p : PCon Y f args' P) : Con Y f args h fun v h' => P v ∧ h' = killD h D :=
  ⟨p.body, fun W w us hr hv => by
    obtain ⟨g1, g2⟩ := hr.frzD D
    refine (p.tr (W.frzD D w) w us g1.snap (hf.vr (Fz.of hr D) (frzD_le hr D) hv)).mono ?_
    rintro e w' ⟨r, W', u, h1, h2, h3, h4, h5, h6, h7, h8, h9, h10⟩
    obtain ⟨k1, k2⟩ := g1.more (s := W'.snap) h4 h7 h8 h5 h10
    refine ⟨r, _, _, u, ⟨h1, rfl⟩, h2, k1, h9 _ ?_, g2.trans k2⟩
    intro b o hb
    simp only [Vw.more]
    split
    · exact hb
    · rename_i hlt
      rcases h6 b (by simp [hb]) with h9' | h9'
      · cases hsn : (W.frzD D w).snap b with
        | none => exact absurd hsn h9'
        | some o' => rw [h4 b o' hsn] at hb; exact hb
      · exact absurd h9' hlt⟩
theorem killD_nil (h : Heap) : killD h [] = h := rfl
end Go.Y
