/- What the pieces of functions come to: printed by program. -/
import Derived.Test.YtfnpgefoikffdaaDoorYTrydP
import Derived.Test.YtfnpgefoikffdaaDoorYFun
import Derived.Test.YtfnpgefoikffdaaDoorGRule
import Derived.Test.YtfnpgefoikffdaaDoorGB1
import Derived.Test.YtfnpgefoikffdaaDoorGShelfT
import Derived.Test.YtfnpgefoikffdaaDoorTD2
import Derived.Test.YtfnpgefoikffdaaDoorTD3
import Derived.Test.YtfnpgefoikffdaaDoorTD4
namespace Go.Y
open Go.Proofs
set_option maxRecDepth 100000
set_option maxHeartbeats 0
theorem f65_0 (cs0 : List V) (n0 : Nat) (h : Heap) (K : Out → Nat → List V → Heap → Prop) : (codeP Tryd.Y (Tryd.Y.loc 65) 100 ((flat (bodyOf Tryd.f65))) ⟨(V.ts cs0 n0 none :: V.fn (Fn.func 66) [] [] :: List.replicate 7 .undef), [], h⟩ (VQ [4] K)) =
  (Con Tryd.Y (79 : Nat) [V.ts cs0 n0 none, V.fn (Fn.func 66) [] []] h fun (v : V) (h' : Heap) =>
  ∃ (n : Int), v = V.i IntKind.i64 n ∧ K Out.ret 9 [V.b (leI (0 : Int) n)] h') := by kernel_rfl
theorem f79_0 (cs0 : List V) (n0 : Nat) (h : Heap) (K : Out → Nat → List V → Heap → Prop) : (codeP Tryd.Y (Tryd.Y.loc 79) 100 (pre (flat (bodyOf Tryd.f79))) ⟨(V.ts cs0 n0 none :: V.fn (Fn.func 66) [] [] :: List.replicate 17 .undef), [], h⟩ (VQ [0, 1, 7, 8] K)) =
  (K Out.normal 19
  [V.ts cs0 n0 none, V.fn (Fn.func 66) [] [], V.i IntKind.i64 (↑n0 : Int), V.i IntKind.i64 (0 : Int)] h) := by kernel_rfl
theorem f79_1 (cs0 : List V) (n0 : Nat) (x8 : Int) (h : Heap) (K : Out → Nat → List V → Heap → Prop) : (codeP Tryd.Y (Tryd.Y.loc 79) 100 ((flat (loopB (post (flat (bodyOf Tryd.f79)))))) ⟨mk 19 (([0, 1, 7, 8] : List Nat).zip [V.ts cs0 n0 none, V.fn (Fn.func 66) [] [], V.i IntKind.i64 (↑n0 : Int), V.i IntKind.i64 x8]), [], h⟩ (VQ [0, 1, 4, 7, 8] K)) =
  (If (ltI x8 (↑n0 : Int))
  (((0 : Int) ≤ x8 ∧ x8 < (↑n0 : Int)) ∧
 ∃ (n : Int),
 ∃ (n_1 : Int),
 ∃ (n_2 : Int),
 takeX 3 (List.drop (x8.toNat * (3 : Nat)) cs0) =
 some [V.i IntKind.i64 n, V.i IntKind.i64 n_1, V.i IntKind.i64 n_2] ∧
 ∃ (b : Bool),
 (PCon Tryd.Y 66 [V.agg [V.i IntKind.i64 n, V.i IntKind.i64 n_1, V.i IntKind.i64 n_2]]
 fun (v : V) => v = V.b b) ∧
 If b
 (K Out.ret 19
 [V.ts cs0 n0 none, V.fn (Fn.func 66) [] [], V.i IntKind.i64 x8,
 V.i IntKind.i64 (↑n0 : Int), V.i IntKind.i64 x8]
 h)
 (K Out.normal 19
 [V.ts cs0 n0 none, V.fn (Fn.func 66) [] [], V.undef, V.i IntKind.i64 (↑n0 : Int),
 V.i IntKind.i64 (IntKind.i64.wrap (x8 + (1 : Int)))]
 h))
  (K (Out.exit 0) 19
 [V.ts cs0 n0 none, V.fn (Fn.func 66) [] [], V.undef, V.i IntKind.i64 (↑n0 : Int), V.i IntKind.i64 x8] h)) := by kernel_rfl
theorem f79_2  (h : Heap) (K : Out → Nat → List V → Heap → Prop) : (codeP Tryd.Y (Tryd.Y.loc 79) 100 (((post (flat (bodyOf Tryd.f79))).drop 1)) ⟨mk 19 (([] : List Nat).zip []), [], h⟩ (VQ [4] K)) =
  (K Out.ret 19 [V.i IntKind.i64 (-1 : Int)] h) := by kernel_rfl
end Go.Y

/- What the pieces of functions come to: printed by program. -/
namespace Go.Y
open Go.Proofs
set_option maxRecDepth 100000
set_option maxHeartbeats 0
theorem f39_0 (x0Kind : Int) (x0N : Int) (cs0Choices : List V) (n0Choices : Nat) (h : Heap) (K : Out → Nat → List V → Heap → Prop) : (codeP Tryd.Y (Tryd.Y.loc 39) 100 (pre (flat (bodyOf Tryd.f39))) ⟨(V.agg [V.i IntKind.i64 x0Kind, V.i IntKind.i64 x0N, V.ts cs0Choices n0Choices none] :: List.replicate 54 .undef), [], h⟩ (VQ [1, 3, 4] K)) =
  (∃ (s : List UInt8),
  (PCon Tryd.Y (53 : Nat) [V.i IntKind.i64 x0Kind, V.i IntKind.i64 x0N] fun (v : V) => v = V.s s) ∧
 s.length + ([10] : List UInt8).length ≤ 1152921504606846976 ∧
 K Out.normal 55
 [V.lb [V.i IntKind.i64 x0Kind, V.i IntKind.i64 x0N, V.ts cs0Choices n0Choices none],
 V.s (s ++ ([10] : List UInt8)), V.i IntKind.i64 (0 : Int)]
 h) := by kernel_rfl
theorem f39_1 (x0Kind : Int) (x0N : Int) (cs0Choices : List V) (n0Choices : Nat) (s3 : List UInt8) (x4 : Int) (h : Heap) (K : Out → Nat → List V → Heap → Prop) : (codeP Tryd.Y (Tryd.Y.loc 39) 100 (pre (flat (loopB (post (flat (bodyOf Tryd.f39)))))) ⟨mk 55 (([1, 3, 4] : List Nat).zip [V.lb [V.i IntKind.i64 x0Kind, V.i IntKind.i64 x0N, V.ts cs0Choices n0Choices none], V.s s3, V.i IntKind.i64 x4]), [], h⟩ (VQ [1, 3, 4] K)) =
  (If (ltI x4 (↑n0Choices : Int))
  (K Out.normal 55
 [V.lb [V.i IntKind.i64 x0Kind, V.i IntKind.i64 x0N, V.ts cs0Choices n0Choices none], V.s s3, V.i IntKind.i64 x4] h)
  (K (Out.exit 0) 55
 [V.lb [V.i IntKind.i64 x0Kind, V.i IntKind.i64 x0N, V.ts cs0Choices n0Choices none], V.s s3, V.i IntKind.i64 x4] h)) := by kernel_rfl
theorem f39_2 (x0Kind : Int) (x0N : Int) (cs0Choices : List V) (n0Choices : Nat) (s3 : List UInt8) (x4 : Int) (h : Heap) (K : Out → Nat → List V → Heap → Prop) : (codeP Tryd.Y (Tryd.Y.loc 39) 100 (pre (flat (blockB (post (flat (loopB (post (flat (bodyOf Tryd.f39))))))))) ⟨mk 55 (([1, 3, 4] : List Nat).zip [V.lb [V.i IntKind.i64 x0Kind, V.i IntKind.i64 x0N, V.ts cs0Choices n0Choices none], V.s s3, V.i IntKind.i64 x4]), [], h⟩ (VQ [1, 3, 4, 5] K)) =
  (K Out.normal 55
  [V.lb [V.i IntKind.i64 x0Kind, V.i IntKind.i64 x0N, V.ts cs0Choices n0Choices none], V.s s3, V.i IntKind.i64 x4,
 V.i IntKind.i64 x4]
  h) := by kernel_rfl
theorem f39_3 (x0Kind : Int) (x0N : Int) (cs0Choices : List V) (n0Choices : Nat) (s3 : List UInt8) (x5 : Int) (x4 : Int) (h : Heap) (K : Out → Nat → List V → Heap → Prop) : (codeP Tryd.Y (Tryd.Y.loc 39) 100 ((flat (loopB (post (flat (blockB (post (flat (loopB (post (flat (bodyOf Tryd.f39)))))))))))) ⟨mk 55 (([1, 3, 4, 5] : List Nat).zip [V.lb [V.i IntKind.i64 x0Kind, V.i IntKind.i64 x0N, V.ts cs0Choices n0Choices none], V.s s3, V.i IntKind.i64 x4, V.i IntKind.i64 x5]), [], h⟩ (VQ [1, 3, 4, 5] K)) =
  (If (ltI x5 (↑n0Choices : Int))
  (((0 : Int) ≤ x5 ∧ x5 < (↑n0Choices : Int)) ∧
 ∃ (n : Int),
 ∃ (n_1 : Int),
 ∃ (n_2 : Int),
 takeX 3 (List.drop (x5.toNat * (3 : Nat)) cs0Choices) =
 some [V.i IntKind.i64 n, V.i IntKind.i64 n_1, V.i IntKind.i64 n_2] ∧
 ((0 : Int) ≤ x4 ∧ x4 < (↑n0Choices : Int)) ∧
 ∃ (n_3 : Int),
 ∃ (n_4 : Int),
 ∃ (n_5 : Int),
 takeX 3 (List.drop (x4.toNat * (3 : Nat)) cs0Choices) =
 some [V.i IntKind.i64 n_3, V.i IntKind.i64 n_4, V.i IntKind.i64 n_5] ∧
 If (n == n_3 && (n_1 == n_4 && (n_2 == n_5 && true)))
 (K Out.normal 55
 [V.lb [V.i IntKind.i64 x0Kind, V.i IntKind.i64 x0N, V.ts cs0Choices n0Choices none], V.s s3,
 V.i IntKind.i64 x4, V.i IntKind.i64 (IntKind.i64.wrap (x5 + (1 : Int)))]
 h)
 (K (Out.exit 2) 55
 [V.lb [V.i IntKind.i64 x0Kind, V.i IntKind.i64 x0N, V.ts cs0Choices n0Choices none], V.s s3,
 V.i IntKind.i64 x4, V.i IntKind.i64 x5]
 h))
  (K (Out.exit 2) 55
 [V.lb [V.i IntKind.i64 x0Kind, V.i IntKind.i64 x0N, V.ts cs0Choices n0Choices none], V.s s3, V.i IntKind.i64 x4,
 V.i IntKind.i64 x5]
 h)) := by kernel_rfl
theorem f39_4 (x0Kind : Int) (x0N : Int) (cs0Choices : List V) (n0Choices : Nat) (s3 : List UInt8) (x5 : Int) (x4 : Int) (h : Heap) (K : Out → Nat → List V → Heap → Prop) : (codeP Tryd.Y (Tryd.Y.loc 39) 100 (((post (flat (blockB (post (flat (loopB (post (flat (bodyOf Tryd.f39))))))))).drop 1)) ⟨mk 55 (([1, 3, 4, 5] : List Nat).zip [V.lb [V.i IntKind.i64 x0Kind, V.i IntKind.i64 x0N, V.ts cs0Choices n0Choices none], V.s s3, V.i IntKind.i64 x4, V.i IntKind.i64 x5]), [], h⟩ (VQ [1, 3, 4] K)) =
  (∃ (s : List UInt8),
  (PCon Tryd.Y (54 : Nat) [V.i IntKind.i64 (IntKind.i64.wrap (x5 - x4))] fun (v : V) => v = V.s s) ∧
 s3.length + s.length ≤ 1152921504606846976 ∧
 (s3 ++ s).length + ([32] : List UInt8).length ≤ 1152921504606846976 ∧
 ((0 : Int) ≤ x4 ∧ x4 < (↑n0Choices : Int)) ∧
 ∃ (n : Int),
 ∃ (n_1 : Int),
 ∃ (n_2 : Int),
 takeX 3 (List.drop (x4.toNat * (3 : Nat)) cs0Choices) =
 some [V.i IntKind.i64 n, V.i IntKind.i64 n_1, V.i IntKind.i64 n_2] ∧
 ∃ (s_1 : List UInt8),
 (PCon Tryd.Y (55 : Nat) [V.agg [V.i IntKind.i64 n, V.i IntKind.i64 n_1, V.i IntKind.i64 n_2]]
 fun (v : V) => v = V.s s_1) ∧
 (s3 ++ s ++ ([32] : List UInt8)).length + s_1.length ≤ 1152921504606846976 ∧
 (s3 ++ s ++ ([32] : List UInt8) ++ s_1).length + ([10] : List UInt8).length ≤
 1152921504606846976 ∧
 K Out.normal 55
 [V.lb [V.i IntKind.i64 x0Kind, V.i IntKind.i64 x0N, V.ts cs0Choices n0Choices none],
 V.s (s3 ++ s ++ ([32] : List UInt8) ++ s_1 ++ ([10] : List UInt8)),
 V.i IntKind.i64 x5]
 h) := by kernel_rfl
theorem f39_5 (s3z2 : List UInt8) (h : Heap) (K : Out → Nat → List V → Heap → Prop) : (codeP Tryd.Y (Tryd.Y.loc 39) 100 (((post (flat (bodyOf Tryd.f39))).drop 1)) ⟨mk 55 (([3] : List Nat).zip [V.s s3z2]), [], h⟩ (VQ [2] K)) =
  (K Out.ret 55 [V.s s3z2] h) := by kernel_rfl
end Go.Y

/- Traces as lines: what choices, traces and their lines are, by contracts. -/
namespace Go.Y
open Go.Proofs Go.Lib
set_option maxRecDepth 100000
set_option linter.unusedVariables false
set_option linter.unusedSimpArgs false

theorem tree_con {Y : YP} (hY : YOK Y) {f : FuncId} {fn : Func} (hf : Y.P.funcs[f]? = some fn) (hb : fn.body.isSome = true) {args : List V} (hc : coldAll args = true) {P : V → Prop} {slots : List Nat} {env' : List V} {T : (Out → Nat → List V → Heap → Prop) → Prop}
    (tree : ∀ K, codeP Y (Y.loc f) 100 (flat (bodyOf fn)) ⟨env', [], .empty⟩ (VQ slots K) = T K) (he : args ++ List.replicate (fn.ntmps - args.length) .undef = env')
    (hfin : T (Fin Y fn slots (fun v h => ∃ r, Frz h v r ∧ P r))) : PCon Y f args P := by
  refine pcon_of hY hf hb hc ?_
  rw [he]
  refine end_rule hY (loc := Y.loc f) 100 slots ?_
  rw [tree]
  exact hfin
theorem all_no {α : Type} {p : α → Bool} {l : List α} {i : Nat} (hi : i < l.length) (h : p l[i] = false) : l.all p = false :=
  List.all_eq_false.2 ⟨l[i], List.getElem_mem hi, by simp [h]⟩
theorem all_snoc {α : Type} {p : α → Bool} {l : List α} {i : Nat} (hi : i < l.length) (h : (l.take i).all p = true) (h1 : p l[i] = true) : (l.take (i + 1)).all p = true := by
  rw [List.take_succ_eq_append_getElem hi, List.all_append, h]
  simp [h1]
theorem getI (l : List Int) {i : Nat} (h : i < l.length) : takeX 1 (List.drop (((i : Nat) : Int).toNat * 1) (row encI l)) = some [.i .i64 l[i]] := by
  rw [Int.toNat_natCast]; exact row_get (f := encI) (k := 1) encI_len h

/-! ### numbers -/
def okI (n : Int) : Prop := -9223372036854775808 ≤ n ∧ n ≤ 9223372036854775807

theorem dec_len : ∀ (k u : Nat), u < 10 ^ (k + 1) → (decDigits u).length ≤ k + 1
  | 0, u, h => by rw [decDigits_one (by omega)]; simp
  | k + 1, u, h => by
    rw [decDigits]
    split
    · simp
    · rename_i hu
      have := dec_len k (u / 10) (by rw [Nat.pow_succ] at h; omega)
      rw [List.length_append]; simp; omega
theorem itoa_len {n : Int} (h : okI n) : (itoa n).length ≤ 20 := by
  have key : ∀ u : Nat, u < 10 ^ 19 → (decDigits u).length ≤ 19 := fun u hu => dec_len 18 u hu
  unfold itoa
  split
  · have := key n.natAbs (by have := h.1; omega)
    simp; omega
  · have := key n.toNat (by have := h.2; omega)
    omega

theorem mag_con {n : Int} (h : okI n) : PCon Tryd.Y 51 [.i .i64 n] (· = .i .u64 (n.natAbs : Nat)) := by
  refine tree_con Tryd.Yok (fn := Tryd.f51) (by kernel_rfl) (by kernel_rfl) rfl (fun K => f51_0 n .empty K) rfl ?_
  obtain ⟨h0, h1⟩ := h
  have w : ∀ z : Int, IntKind.u64.wrap z = z % 18446744073709551616 := fun z => rfl
  refine if_lt (fun hn => finV1 (.inr rfl) rfl (.i _ _) ?_) (fun hn => finV1 (.inr rfl) rfl (.i _ _) ?_)
  · congr 1; rw [w, w]; omega
  · congr 1; rw [w]; omega
theorem digit_byte (m : Nat) (hm : m < 18446744073709551616) : (UInt8.ofNat (IntKind.u8.wrap (IntKind.u64.wrap (48 + (m : Int).tmod 10))).toNat) = UInt8.ofNat (48 + m % 10) := by
  have w8 : ∀ z : Int, IntKind.u8.wrap z = z % 256 := fun z => rfl
  have w64 : ∀ z : Int, IntKind.u64.wrap z = z % 18446744073709551616 := fun z => rfl
  have e : (m : Int).tmod 10 = ((m % 10 : Nat) : Int) := rfl
  rw [e, w64, w8]
  congr 1
  omega

theorem print_con {n : Int} (h : okI n) : PCon Tryd.Y 37 [.i .i64 n] (· = .s (itoa n)) := by
  refine pcon_of Tryd.Yok (fn := Tryd.f37) (by kernel_rfl) (by kernel_rfl) rfl ?_
  refine pre_rule Tryd.Yok (n := 31) (loc := Tryd.Y.loc 37) 100 [0, 3, 4] (by kernel_rfl) ?_
  refine Eq.mpr (f37_0 n .empty _) ?_
  have hu : n.natAbs < 18446744073709551616 := by have := h.1; have := h.2; omega
  have hlen : (decDigits n.natAbs).length ≤ 20 := dec_len 19 _ (by omega)
  refine ⟨_, mag_con h, ?_⟩
  refine ⟨rfl, loop2 [0, 3, 4] [0, 3, 4] rfl (by kernel_rfl) (fun m vs _ => ∃ (u : Nat) (acc : List UInt8), vs = [.i .i64 n, .i .u64 (u : Nat), .s acc] ∧ m = u ∧ u < 18446744073709551616 ∧ decDigits n.natAbs = decDigits u ++ acc) n.natAbs mk_len ⟨n.natAbs, [], rfl, rfl, hu, by simp⟩ ?_⟩
  rintro u vs h1 ⟨_, acc, rfl, rfl, hu, hd⟩
  have hacc : acc.length ≤ 20 := by rw [hd, List.length_append] at hlen; omega
  refine all_rule Tryd.Yok (loc := Tryd.Y.loc 37) 100 [0, 3, 4] ?_
  refine Eq.mpr (f37_1 n (u : Nat) acc h1 _) ?_
  refine if_le (fun hge => ?_) (fun hlt => ?_)
  · refine ⟨by omega, _, rfl, by simp; omega, by omega, ?_⟩
    refine ⟨rfl, u / 10, by omega, u / 10, UInt8.ofNat (48 + u % 10) :: acc, ?_, rfl, by omega, ?_⟩
    · have : IntKind.u64.wrap ((u : Int).tdiv 10) = ((u / 10 : Nat) : Int) := by
        have e : (u : Int).tdiv 10 = ((u / 10 : Nat) : Int) := rfl
        rw [e]; show _ % 18446744073709551616 = _; omega
      rw [this, digit_byte u hu]; rfl
    · rw [hd, decDigits, dif_neg (by omega)]; simp
  · refine roundW_exit [0, 3, 4] (by kernel_rfl) rfl rfl ?_
    refine end_rule Tryd.Yok (loc := Tryd.Y.loc 37) 100 [2] ?_
    refine Eq.mpr (f37_2 n (u : Nat) acc h1 _) ?_
    have hb : (UInt8.ofNat (IntKind.u8.wrap (IntKind.u64.wrap (48 + (u : Int)))).toNat) = UInt8.ofNat (48 + u) := by
      have w8 : ∀ z : Int, IntKind.u8.wrap z = z % 256 := fun z => rfl
      have w64 : ∀ z : Int, IntKind.u64.wrap z = z % 18446744073709551616 := fun z => rfl
      rw [w64, w8]; congr 1; omega
    rw [decDigits_one (i := u) (by omega)] at hd
    refine ⟨_, rfl, by simp; omega, if_lt (fun hn => ⟨by simp; omega, finV1 (.inr rfl) rfl (.s _) ?_⟩) (fun hn => finV1 (.inr rfl) rfl (.s _) ?_)⟩
    · rw [hb, itoa, if_pos hn, hd]; rfl
    · rw [hb, itoa, if_neg (by omega), show n.toNat = n.natAbs by omega, hd]

/-! ### choices -/
structure Cho where
  k : Int
  p : Int
  n : Int
deriving DecidableEq
abbrev encCh (c : Cho) : List V := [.i .i64 c.k, .i .i64 c.p, .i .i64 c.n]
theorem encCh_len (c : Cho) : (encCh c).length = 3 := rfl
def okCh (c : Cho) : Prop := okI c.k ∧ okI c.p ∧ okI c.n
def upTo (n m : Int) : Bool := leI 0 n && leI n m
def oneS (c : Cho) : Bool :=
  if c.k == 1 then c.p == 0 && c.n == 0 else if c.k == 2 then c.p == 0 && c.n == 0 else if c.k == 6 then c.p == 0 && c.n == 0 else
  if c.k == 3 then upTo c.p 7 && upTo c.n 7 else if c.k == 4 then upTo c.p 7 && c.n == 0 else if c.k == 5 then upTo c.p 7 && upTo c.n 64 else false

theorem upto_con (n m : Int) : PCon Tryd.Y 78 [.i .i64 n, .i .i64 m] (· = .b (upTo n m)) := by
  refine tree_con Tryd.Yok (fn := Tryd.f78) (by kernel_rfl) (by kernel_rfl) rfl (fun K => f78_0 n m .empty K) rfl ?_
  refine if_mk (fun h => finV1 (.inr rfl) rfl (.b _) ?_) (fun h => finV1 (.inr rfl) rfl (.b _) ?_)
  · simp [upTo, h]
  · simp [upTo, h]

theorem one_con (c : Cho) : PCon Tryd.Y 67 [.agg (encCh c)] (· = .b (oneS c)) := by
  refine tree_con Tryd.Yok (fn := Tryd.f67) (by kernel_rfl) (by kernel_rfl) rfl (fun K => f67_0 c.k c.p c.n .empty K) rfl ?_
  repeat' first
    | exact finV1 (.inr rfl) rfl (.b _) (by simp only [oneS]; simp [*])
    | refine if_mk (fun _ => ?_) (fun _ => ?_)
    | refine ⟨_, upto_con _ _, ?_⟩
theorem rone_con (c : Cho) : PCon Tryd.Y 52 [.agg (encCh c)] (· = .b (oneS c)) := by
  refine tree_con Tryd.Yok (fn := Tryd.f52) (by kernel_rfl) (by kernel_rfl) rfl (fun K => f52_0 c.k c.p c.n .empty K) rfl ?_
  repeat' first
    | exact finV1 (.inr rfl) rfl (.b _) (by simp only [oneS, upTo]; simp [*])
    | refine if_mk (fun _ => ?_) (fun _ => ?_)
theorem nope_con (c : Cho) : PCon Tryd.Y 66 [.agg (encCh c)] (· = .b (!oneS c)) := by
  refine tree_con Tryd.Yok (fn := Tryd.f66) (by kernel_rfl) (by kernel_rfl) rfl (fun K => f66_0 c.k c.p c.n .empty K) rfl ?_
  exact ⟨_, one_con c, finV1 (.inr rfl) rfl (.b _) rfl⟩

theorem indexCh  (l : List Cho) (p : Cho → Bool) (h : Heap) (hl : l.length < 2 ^ 30) (hp : ∀ x ∈ l, PCon Tryd.Y 66 [.agg (encCh x)] (· = .b (p x))) :
    Con Tryd.Y 79 [lst encCh l, .fn (Fn.func 66) [] []] h fun v h' => ∃ n : Int, v = .i .i64 n ∧ leI 0 n = l.any p ∧ h' = h := by
  refine conz_of Tryd.Yok (fn := Tryd.f79) (by kernel_rfl) (by kernel_rfl) ?_
  refine pre_rule Tryd.Yok (n := 19) (loc := Tryd.Y.loc 79) 100 [0, 1, 7, 8] (by kernel_rfl) ?_
  refine Eq.mpr (f79_0 (row encCh l) l.length h _) ?_
  refine ⟨rfl, loop2 [0, 1, 7, 8] [0, 1, 4, 7, 8] rfl (by kernel_rfl) (fun m vs h' => ∃ i : Nat, vs = [lst encCh l, .fn (Fn.func 66) [] [], .i .i64 l.length, .i .i64 (i : Nat)] ∧ i ≤ l.length ∧ (l.take i).any p = false ∧ m = l.length - i ∧ h' = h) l.length mk_len ⟨0, rfl, by omega, rfl, by omega, rfl⟩ ?_⟩
  rintro m vs h' ⟨i, rfl, hi, hno, rfl, rfl⟩
  refine all_rule Tryd.Yok (loc := Tryd.Y.loc 79) 100 [0, 1, 4, 7, 8] ?_
  refine Eq.mpr (f79_1 (row encCh l) l.length (i : Nat) h' _) ?_
  refine if_lt_nat (fun hlt => ?_) (fun hge => ?_)
  · have hget : takeX 3 (List.drop ((i : Int).toNat * 3) (row encCh l)) = some (encCh l[i]) := by rw [Int.toNat_natCast]; exact row_get (f := encCh) (k := 3) (fun _ => rfl) hlt
    refine ⟨bnd_nat hlt, _, _, _, hget, p l[i], hp l[i] (List.getElem_mem hlt), if_mk (fun hc => ?_) (fun hc => ?_)⟩
    · refine fin_at (.inr rfl) rfl (.now ⟨(i : Nat), rfl, ?_, rfl⟩)
      have : l.any p = true := List.any_eq_true.2 ⟨l[i], List.getElem_mem hlt, hc⟩
      rw [this]; simp [leI]
    · refine ⟨rfl, l.length - (i + 1), by omega, i + 1, ?_, by omega, ?_, rfl, rfl⟩
      · rw [wrap_succ (by omega)]; rfl
      · rw [List.take_succ_eq_append_getElem hlt, List.any_append, hno]; simp [hc]
  · refine roundW_exit [] (by kernel_rfl) rfl rfl ?_
    refine end_rule Tryd.Yok (loc := Tryd.Y.loc 79) 100 [4] ?_
    refine Eq.mpr (f79_2 h' _) ?_
    rw [List.take_of_length_le hge] at hno
    exact finC (.inr rfl) rfl (.now ⟨-1, rfl, by rw [hno]; rfl, rfl⟩)

theorem containsCh  (l : List Cho) (p : Cho → Bool) (h : Heap) (hl : l.length < 2 ^ 30) (hp : ∀ x ∈ l, PCon Tryd.Y 66 [.agg (encCh x)] (· = .b (p x))) :
    Con Tryd.Y 65 [lst encCh l, .fn (Fn.func 66) [] []] h fun v h' => v = .b (l.any p) ∧ h' = h := by
  refine conz_of Tryd.Yok (fn := Tryd.f65) (by kernel_rfl) (by kernel_rfl) (end_rule Tryd.Yok (loc := Tryd.Y.loc 65) 100 [4] ?_)
  refine Eq.mpr (f65_0 (row encCh l) l.length h _) ?_
  refine (indexCh l p h hl hp).mono fun v h' ⟨n, e1, e2, e3⟩ => ⟨n, e1, ?_⟩
  subst e3
  rw [e2]
  exact finC (.inr rfl) rfl (.now ⟨rfl, rfl⟩)

/-! ### traces -/
structure Trc where
  k : Int
  n : Int
  cs : List Cho
abbrev trC (t : Trc) : List V := [.i .i64 t.k, .i .i64 t.n, lst encCh t.cs]
def headB (k n : Int) : Bool := if k == 0 then n == 0 else if k == 1 then leI 1 n && leI n 4 else if k == 2 then upTo n 59 else false
def mayT (t : Trc) : Bool := headB t.k t.n && decide (t.cs.length ≤ 4000) && t.cs.all oneS

theorem head_con (k n : Int) : PCon Tryd.Y 64 [.i .i64 k, .i .i64 n] (· = .b (headB k n)) := by
  refine tree_con Tryd.Yok (fn := Tryd.f64) (by kernel_rfl) (by kernel_rfl) rfl (fun K => f64_0 k n .empty K) rfl ?_
  repeat' first
    | exact finV1 (.inr rfl) rfl (.b _) (by simp only [headB]; simp [*])
    | refine if_mk (fun _ => ?_) (fun _ => ?_)
    | refine ⟨_, upto_con _ _, ?_⟩
theorem any_neg {α : Type} (p : α → Bool) (k : List α) : (k.any fun x => !p x) = !k.all p := by
  induction k with
  | nil => rfl
  | cons x k ih => rw [List.any_cons, List.all_cons, ih]; cases p x <;> simp
theorem leI_nat (a b : Nat) : leI (a : Int) (b : Int) = decide (a ≤ b) := by simp [leI]

theorem mayT_con (t : Trc) (hl : t.cs.length < 2 ^ 20) : PCon Tryd.Y 47 [.agg (trC t)] (· = .b (mayT t)) := by
  refine tree_con Tryd.Yok (fn := Tryd.f47) (by kernel_rfl) (by kernel_rfl) rfl (fun K => f47_0 t.k t.n (row encCh t.cs) t.cs.length .empty K) rfl ?_
  refine ⟨_, head_con _ _, if_mk (fun h1 => ?_) (fun h1 => finV1 (.inr rfl) rfl (.b _) (by simp [mayT, h1]))⟩
  refine if_le (fun h2 => ?_) (fun h2 => finV1 (.inr rfl) rfl (.b _) ?_)
  · refine (containsCh t.cs (fun c => !oneS c) _ (by omega) (fun x _ => nope_con x)).mono fun v h' ⟨e, _⟩ => ⟨_, e, finV1 (.inr rfl) rfl (.b _) ?_⟩
    rw [any_neg]
    have : t.cs.length ≤ 4000 := by omega
    simp [mayT, h1, this]
  · have : ¬ t.cs.length ≤ 4000 := by omega
    simp [mayT, this]
end Go.Y
