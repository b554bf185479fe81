/- What the pieces of functions come to: printed by program. -/
import Derived.Test.YteennilbmmlikaaGreatDoorGN4
import Derived.Test.YteennilbmmlikaaGreatDoorYLoop
import Derived.Test.YteennilbmmlikaaGreatDoorYTryzP
import Derived.Test.YteennilbmmlikaaGreatDoorGJudge
namespace Go.Y
open Go.Proofs
set_option maxRecDepth 100000
set_option maxHeartbeats 0
theorem f190_0 (s0 : Int) (s1 : Int) (s2 : Int) (s3 : Int) (x : Int) (h : Heap) (K : KT) : (codeP Tryr.Y (Tryr.Y.loc 190) 100 ((flat (bodyOf Tryz.f190))) ⟨(V.agg [V.i .u64 s0, V.i .u64 s1, V.i .u64 s2, V.i .u64 s3] :: V.i .i64 x :: List.replicate 12 .undef), [], h⟩ (VQ [4] K)) =
  ((0 : Int) ≤ (6 : Int) ∧
  ((0 : Int) ≤ x.fdiv ((2 : Int) ^ min (Int.toNat (6 : Int)) IntKind.i64.bits) ∧
 x.fdiv ((2 : Int) ^ min (Int.toNat (6 : Int)) IntKind.i64.bits) < (↑(4 : Nat) : Int)) ∧
 ∃ (n : Int),
 hcells (h.push (YObj.arr [V.i IntKind.u64 s0, V.i IntKind.u64 s1, V.i IntKind.u64 s2, V.i IntKind.u64 s3] true))
 h.nx ((0 : Nat) + (x.fdiv ((2 : Int) ^ min (Int.toNat (6 : Int)) IntKind.i64.bits)).toNat * (1 : Nat))
 1 =
 some [V.i IntKind.u64 n] ∧
 (0 : Int) ≤
 IntKind.i64.wrap
 (↑(BitVec.ofInt IntKind.i64.bits x &&& BitVec.ofInt IntKind.i64.bits (63 : Int)).toNat : Int) ∧
 K Out.ret 14
 [V.b
 (IntKind.u64.wrap
 (↑(BitVec.ofInt IntKind.u64.bits
 (n.fdiv
 ((2 : Int) ^
 min
 (IntKind.i64.wrap
 (↑(BitVec.ofInt IntKind.i64.bits x &&&
 BitVec.ofInt IntKind.i64.bits (63 : Int)).toNat :
 Int)).toNat
 IntKind.u64.bits)) &&&
 BitVec.ofInt IntKind.u64.bits (1 : Int)).toNat :
 Int) ==
 (1 : Int))]
 (h.push (YObj.arr [V.i IntKind.u64 s0, V.i IntKind.u64 s1, V.i IntKind.u64 s2, V.i IntKind.u64 s3] true))) := by kernel_rfl
theorem f176_0 (s0 : Int) (s1 : Int) (s2 : Int) (s3 : Int) (h : Heap) (K : KT) : (codeP Tryr.Y (Tryr.Y.loc 176) 100 (pre (flat (bodyOf Tryz.f176))) ⟨(V.agg [V.i .u64 s0, V.i .u64 s1, V.i .u64 s2, V.i .u64 s3] :: List.replicate 14 .undef), [], h⟩ (VQ [1, 2, 4] K)) =
  (K Out.normal 15
  [V.p (some (h.nx, 0)),
 V.lb [V.i IntKind.u64 (0 : Int), V.i IntKind.u64 (0 : Int), V.i IntKind.u64 (0 : Int), V.i IntKind.u64 (0 : Int)],
 V.i IntKind.i64 (0 : Int)]
  (h.push (YObj.arr [V.i IntKind.u64 s0, V.i IntKind.u64 s1, V.i IntKind.u64 s2, V.i IntKind.u64 s3] true))) := by kernel_rfl
theorem f176_1 (id1 : Nat) (x4 : Int) (h : Heap) (K : KT) : (codeP Tryr.Y (Tryr.Y.loc 176) 100 ((flat (loopB (post (flat (bodyOf Tryz.f176)))))) ⟨mk 15 (([1, 2, 4] : List Nat).zip [V.p (some (id1, 0)), V.lb [V.i IntKind.u64 0, V.i IntKind.u64 0, V.i IntKind.u64 0, V.i IntKind.u64 0], V.i IntKind.i64 x4]), [], h⟩ (VQ [1, 2, 4] K)) =
  (If (ltI x4 (4 : Int))
  (((0 : Int) ≤ x4 ∧ x4 < (↑(4 : Nat) : Int)) ∧
 ∃ (n : Int),
 hcells h id1 ((0 : Nat) + x4.toNat * (1 : Nat)) 1 = some [V.i IntKind.u64 n] ∧
 ((0 : Int) ≤ x4 ∧ x4 < (↑(4 : Nat) : Int)) ∧
 ∃ (h_1 : Heap),
 hstore h id1 ((0 : Nat) + x4.toNat * (1 : Nat))
 [V.i IntKind.u64
 (IntKind.u64.wrap
 (↑(BitVec.ofInt IntKind.u64.bits
 (if IntKind.u64.signed = true then (-1 : Int) else IntKind.u64.max) ^^^
 BitVec.ofInt IntKind.u64.bits n).toNat :
 Int))] =
 some h_1 ∧
 K Out.normal 15
 [V.p (some (id1, 0)),
 V.lb
 [V.i IntKind.u64 (0 : Int), V.i IntKind.u64 (0 : Int), V.i IntKind.u64 (0 : Int),
 V.i IntKind.u64 (0 : Int)],
 V.i IntKind.i64 (IntKind.i64.wrap (x4 + (1 : Int)))]
 h_1)
  (K (Out.exit 0) 15
 [V.p (some (id1, 0)),
 V.lb [V.i IntKind.u64 (0 : Int), V.i IntKind.u64 (0 : Int), V.i IntKind.u64 (0 : Int), V.i IntKind.u64 (0 : Int)],
 V.i IntKind.i64 x4]
 h)) := by kernel_rfl
theorem f176_2 (id1 : Nat) (h : Heap) (K : KT) : (codeP Tryr.Y (Tryr.Y.loc 176) 100 (((post (flat (bodyOf Tryz.f176))).drop 1)) ⟨mk 15 (([1, 2] : List Nat).zip [V.p (some (id1, 0)), V.lb [V.i IntKind.u64 0, V.i IntKind.u64 0, V.i IntKind.u64 0, V.i IntKind.u64 0]]), [], h⟩ (VQ [2] K)) =
  (∃ (n : Int),
  ∃ (n_1 : Int),
 ∃ (n_2 : Int),
 ∃ (n_3 : Int),
 hcells h id1 0 4 =
 some [V.i IntKind.u64 n, V.i IntKind.u64 n_1, V.i IntKind.u64 n_2, V.i IntKind.u64 n_3] ∧
 K Out.ret 15
 [V.lb [V.i IntKind.u64 n, V.i IntKind.u64 n_1, V.i IntKind.u64 n_2, V.i IntKind.u64 n_3]] h) := by kernel_rfl
end Go.Y

/- What the pieces of functions come to: printed by program. -/
namespace Go.Y
open Go.Proofs
set_option maxRecDepth 100000
set_option maxHeartbeats 0
theorem f177_0 (x : Int) (s : List UInt8) (h : Heap) (K : KT) : (codeP Tryz.Y (Tryz.Y.loc 177) 100 ((flat (bodyOf Tryz.f177))) ⟨(V.i .u8 x :: V.s s :: List.replicate 13 .undef), [], h⟩ (VQ [4] K)) =
  (∃ (n : Int),
  (PCon Tryz.Y (171 : Nat) [V.s s, V.i IntKind.u8 x] fun (v : V) => v = V.i IntKind.i64 n) ∧
 If (leI (0 : Int) n)
 (∃ (l : List UInt8),
 some
 (Q.val
 (V.s
 ((fun (x : List UInt8) => UInt8.ofNat (Int.toNat (92 : Int)) :: x)
 ((fun (x_1 : List UInt8) => UInt8.ofNat x.toNat :: x_1) [])))) =
 some (Q.val (V.s l)) ∧
 K Out.ret 15 [V.s l] h)
 (∃ (l : List UInt8),
 some (Q.val (V.s ((fun (x_1 : List UInt8) => UInt8.ofNat x.toNat :: x_1) []))) = some (Q.val (V.s l)) ∧
 K Out.ret 15 [V.s l] h)) := by kernel_rfl
theorem f171_0 (s : List UInt8) (x : Int) (h : Heap) (K : KT) : (codeP Tryz.Y (Tryz.Y.loc 171) 100 ((flat (bodyOf Tryz.f171))) ⟨(V.s s :: V.i .u8 x :: List.replicate 6 .undef), [], h⟩ (VQ [4] K)) =
  (∃ (n : Int),
  (PCon Tryz.Y (189 : Nat) [V.s s, V.i IntKind.u8 x] fun (v : V) => v = V.i IntKind.i64 n) ∧
 K Out.ret 8 [V.i IntKind.i64 n] h) := by kernel_rfl
theorem f116_0 (id : Nat) (h : Heap) (K : KT) : (codeP Tryz.Y (Tryz.Y.loc 116) 100 ((flat (bodyOf Tryz.f116))) ⟨(V.p (some (id, 0)) :: List.replicate 13 .undef), [], h⟩ (VQ [2] K)) =
  (∃ (a : Option (Nat × Nat)),
  ∃ (l : Nat),
 ∃ (c : Option Nat),
 ∃ (k : Nat),
 hcells h id 1 1 = some [V.sl a l c k] ∧
 (l = 0 → a = none) ∧
 ∃ (a_1 : Option (Nat × Nat)),
 ∃ (l : Nat),
 ∃ (c : Option Nat),
 ∃ (k : Nat),
 hcells h id 1 1 = some [V.sl a_1 l c k] ∧
 ∃ (s : List UInt8),
 ∃ (h_1 : Heap),
 strH Tryz.Y h 224 a (↑l : Int) = some (h_1, s) ∧ K Out.ret 14 [V.s s] h_1) := by kernel_rfl
theorem f162_0 (id : Nat) (h : Heap) (K : KT) : (codeP Tryz.Y (Tryz.Y.loc 162) 100 ((flat (bodyOf Tryz.f162))) ⟨(V.p (some (id, 0)) :: List.replicate 19 .undef), [], h⟩ (VQ [] K)) =
  (∃ (a : Option (Nat × Nat)),
  hcells h id 0 1 = some [V.p a] ∧
 (Tryz.Y.ty 182).isSome = true ∧
 If a.isNone
 ((∃ (id_1 : Nat),
 ∃ (cs : List V),
 ∃ (wr : Bool),
 ∃ (ti : TI),
 some (id, 0) = some (id_1, 0) ∧
 h.get id_1 = some (YObj.arr cs wr) ∧
 h.tagOf id_1 = some 182 ∧
 some
 (TI.mk (2 : Nat) (32 : Nat) (Kd.struct [((0 : Nat), 180), ((1 : Nat), 138)]) [V.p none, V.sl none (0 : Nat) (some (0 : Nat)) (0 : Nat)]) =
 some ti ∧
 (ti.size = 0 → False) ∧ ti.size ≤ cs.length) ∧
 (∃ (id_1 : Nat),
 ∃ (cs : List V),
 ∃ (wr : Bool),
 ∃ (ti : TI),
 some (id, 0) = some (id_1, 0) ∧
 h.get id_1 = some (YObj.arr cs wr) ∧
 h.tagOf id_1 = some 182 ∧
 some
 (TI.mk (2 : Nat) (32 : Nat) (Kd.struct [((0 : Nat), 180), ((1 : Nat), 138)]) [V.p none, V.sl none (0 : Nat) (some (0 : Nat)) (0 : Nat)]) =
 some ti ∧
 (ti.size = 0 → False) ∧ ti.size ≤ cs.length) ∧
 ∃ (h_1 : Heap),
 hstore h id 0 [V.p (some (id, 0))] = some h_1 ∧ K Out.normal 20 [] h_1)
 (∃ (a : Option (Nat × Nat)),
 hcells h id 0 1 = some [V.p a] ∧
 (Tryz.Y.ty 182).isSome = true ∧
 (∃ (p : Nat × Nat), a = some p ∧ some (id, 0) = some p ∧ (h.get p.fst).isSome = true) ∧
 K Out.normal 20 [] h)) := by kernel_rfl
theorem f126_0 (id : Nat) (x : Int) (h : Heap) (K : KT) : (codeP Tryz.Y (Tryz.Y.loc 126) 100 ((flat (bodyOf Tryz.f126))) ⟨(V.p (some (id, 0)) :: V.i .u8 x :: List.replicate 15 .undef), [], h⟩ (VQ [4] K)) =
  (Con Tryz.Y (162 : Nat) [V.p (some (id, 0))] h fun (v : V) (h' : Heap) =>
  v = V.tup [] ∧
 ∃ (a : Option (Nat × Nat)),
 ∃ (l : Nat),
 ∃ (c : Option Nat),
 ∃ (k : Nat),
 hcells h' id 1 1 = some [V.sl a l c k] ∧
 ∃ (a_1 : Option (Nat × Nat)),
 ∃ (l_1 : Nat),
 ∃ (c_1 : Option Nat),
 ∃ (k_1 : Nat),
 ∃ (h : Heap),
 appendH Tryz.Y h' 138 138 (V.sl a l c k)
 (V.ts [V.i IntKind.u8 x] 1 (some 1)) =
 some (V.sl a_1 l_1 c_1 k_1, h) ∧
 ∃ (h_1 : Heap),
 hstore h id 1 [V.sl a_1 l_1 c_1 k_1] = some h_1 ∧
 K Out.ret 17 [V.nilifc] h_1) := by kernel_rfl
theorem f146_0 (id : Nat) (s : List UInt8) (h : Heap) (K : KT) : (codeP Tryz.Y (Tryz.Y.loc 146) 100 ((flat (bodyOf Tryz.f146))) ⟨(V.p (some (id, 0)) :: V.s s :: List.replicate 17 .undef), [], h⟩ (VQ [4, 5] K)) =
  (Con Tryz.Y (162 : Nat) [V.p (some (id, 0))] h fun (v : V) (h' : Heap) =>
  v = V.tup [] ∧
 ∃ (a : Option (Nat × Nat)),
 ∃ (l : Nat),
 ∃ (c : Option Nat),
 ∃ (k : Nat),
 hcells h' id 1 1 = some [V.sl a l c k] ∧
 ∃ (a_1 : Option (Nat × Nat)),
 ∃ (l_1 : Nat),
 ∃ (c_1 : Option Nat),
 ∃ (k_1 : Nat),
 ∃ (h : Heap),
 appendH Tryz.Y h' 138 9 (V.sl a l c k) (V.s s) =
 some (V.sl a_1 l_1 c_1 k_1, h) ∧
 ∃ (h_1 : Heap),
 hstore h id 1 [V.sl a_1 l_1 c_1 k_1] = some h_1 ∧
 K Out.ret 19 [V.i IntKind.i64 (↑s.length : Int), V.nilifc] h_1) := by kernel_rfl
theorem f189_0 (s : List UInt8) (x : Int) (h : Heap) (K : KT) : (codeP Tryz.Y (Tryz.Y.loc 189) 100 ((flat (bodyOf Tryz.f189))) ⟨(V.s s :: V.i .u8 x :: List.replicate 6 .undef), [], h⟩ (VQ [4] K)) =
  (K Out.ret 8 [V.i IntKind.i64 (idxFrom s x.toNat.toUInt8 (0 : Nat))] h) := by kernel_rfl
theorem f115_0 (id : Nat) (h : Heap) (K : KT) : (codeP Tryz.Y (Tryz.Y.loc 115) 100 ((flat (bodyOf Tryz.f115))) ⟨(V.p (some (id, 0)) :: List.replicate 7 .undef), [], h⟩ (VQ [2] K)) =
  (∃ (a : Option (Nat × Nat)),
  ∃ (l : Nat),
 ∃ (c : Option Nat),
 ∃ (k : Nat),
 hcells h id 1 1 = some [V.sl a l c k] ∧ K Out.ret 8 [V.i IntKind.i64 (↑l : Int)] h) := by kernel_rfl
end Go.Y

/- ere.told, ere.has, ere.not, Itoa: by contracts. -/
namespace Go.Y
open Go.Proofs
set_option maxRecDepth 100000
set_option maxHeartbeats 1000000

theorem PCon.zr {f : FuncId} {args : List V} {Q : V → Prop} (c : PCon Tryr.Y f args Q) : PCon Tryz.Y f args Q := ⟨c.body, c.tr⟩

theorem u8_back (c : UInt8) : ((c.toNat : Int)).toNat.toUInt8 = c := by
  rw [Int.toNat_natCast]; simp
theorem idx_con (s : List UInt8) (c : UInt8) : PCon Tryz.Y 171 [.s s, .i .u8 (c.toNat : Nat)] (· = .i .i64 (idxFrom s c 0)) := by
  refine tree_con Tryz.Yok (fn := Tryz.f171) (by kernel_rfl) (by kernel_rfl) rfl (fun K => f171_0 s (c.toNat : Nat) .empty K) rfl ⟨_, ?_, finV1 (.inr rfl) rfl (.i _ _) rfl⟩
  refine tree_con Tryz.Yok (fn := Tryz.f189) (by kernel_rfl) (by kernel_rfl) rfl (fun K => f189_0 s (c.toNat : Nat) .empty K) rfl ?_
  rw [u8_back]
  exact finV1 (.inr rfl) rfl (.i _ _) rfl
def toldS (c : UInt8) (means : List UInt8) : List UInt8 := if leI 0 (idxFrom means c 0) = true then [92, c] else [c]
theorem toldS_len (c : UInt8) (m : List UInt8) : (toldS c m).length ≤ 2 := by unfold toldS; split <;> simp
theorem told_con (c : UInt8) (m : List UInt8) : PCon Tryz.Y 177 [.i .u8 (c.toNat : Nat), .s m] (· = .s (toldS c m)) := by
  refine tree_con Tryz.Yok (fn := Tryz.f177) (by kernel_rfl) (by kernel_rfl) rfl (fun K => f177_0 (c.toNat : Nat) m .empty K) rfl ⟨_, idx_con m c, ?_⟩
  unfold toldS
  refine if_mk (fun h => ?_) (fun h => ?_) <;> rw [h]
  · exact ⟨_, rfl, finV1 (.inr rfl) rfl (.s _) (by simp)⟩
  · exact ⟨_, rfl, finV1 (.inr rfl) rfl (.s _) (by simp)⟩

theorem intHi {c : Nat} : (c : Int).fdiv ((2 : Int) ^ min (Int.toNat (6 : Int)) IntKind.i64.bits) = ((c / 64 : Nat) : Int) := by
  have e : (2 : Int) ^ min (Int.toNat (6 : Int)) IntKind.i64.bits = 64 := by decide
  rw [e, Int.fdiv_eq_ediv_of_nonneg _ (by decide)]
  omega
theorem intLo {c : Nat} (hc : c < 256) : IntKind.i64.wrap (((BitVec.ofInt IntKind.i64.bits (c : Int) &&& BitVec.ofInt IntKind.i64.bits (63 : Int)).toNat : Nat) : Int) = ((c % 64 : Nat) : Int) := by
  have h : ∀ c : _root_.Fin 256, IntKind.i64.wrap (((BitVec.ofInt IntKind.i64.bits (c.val : Int) &&& BitVec.ofInt IntKind.i64.bits (63 : Int)).toNat : Nat) : Int) = ((c.val % 64 : Nat) : Int) := by decide +kernel
  exact h ⟨c, hc⟩
theorem has_con (x : Set4) (c : Nat) (hc : c < 256) : PCon Tryz.Y 190 [.agg (setC x), .i .i64 (c : Nat)] (· = .b (hasN x c)) := by
  refine PCon.zr (tree_con Tryr.Yok (fn := Tryz.f190) (by kernel_rfl) (by kernel_rfl) rfl (fun K => f190_0 x.1 x.2.1 x.2.2.1 x.2.2.2 (c : Nat) .empty K) rfl ?_)
  rw [intHi, intLo hc]
  have hk : c / 64 < 4 := by omega
  refine ⟨by decide, ⟨by omega, by omega⟩, pickS x (c / 64), ?_, by omega, ?_⟩
  · rw [hcells_of (cs := [.i .u64 x.1, .i .u64 x.2.1, .i .u64 x.2.2.1, .i .u64 x.2.2.2]) (wr := true) (by simp), Int.toNat_natCast]
    generalize c / 64 = k at hk
    match k, hk with
    | 0, _ => rfl
    | 1, _ => rfl
    | 2, _ => rfl
    | 3, _ => rfl
  · have e4 : min (((c % 64 : Nat) : Int)).toNat IntKind.u64.bits = c % 64 := by
      have : IntKind.u64.bits = 64 := rfl
      rw [this, Int.toNat_natCast]; omega
    rw [e4, bitLo]
    exact finV1 (.inr rfl) rfl (.b _) rfl

def maxU : Int := IntKind.u64.wrap (((BitVec.ofInt IntKind.u64.bits (if IntKind.u64.signed = true then -1 else IntKind.u64.max) ^^^ BitVec.ofInt IntKind.u64.bits 0).toNat : Nat) : Int)
def notL (i : Nat) : List Int := List.replicate i maxU ++ List.replicate (4 - i) 0
abbrev u64s (l : List Int) : List V := l.map fun x => V.i .u64 x
theorem not_con : PCon Tryz.Y 176 [.agg (setC (0, 0, 0, 0))] (· = .agg (setC (maxU, maxU, maxU, maxU))) := by
  refine PCon.zr (pcon_of Tryr.Yok (fn := Tryz.f176) (by kernel_rfl) (by kernel_rfl) rfl ?_)
  refine pre_tree Tryr.Yok 15 (fun K => f176_0 0 0 0 0 .empty K) rfl (by kernel_rfl) ?_
  refine ⟨rfl, loop2 [1, 2, 4] [1, 2, 4] rfl (by kernel_rfl) (fun m vs h => ∃ i : Nat, vs = [.p (some (Heap.empty.nx, 0)), .lb (setC (0, 0, 0, 0)), .i .i64 (i : Nat)] ∧ i ≤ 4 ∧ m = 4 - i ∧ h.get Heap.empty.nx = some (.arr (u64s (notL i)) true)) 4 mk_len ⟨0, rfl, by omega, by omega, by simp [Heap.get_push, notL, u64s]⟩ ?_⟩
  rintro m vs h ⟨i, rfl, hi, rfl, hg⟩
  refine all_tree Tryr.Yok (fun K => f176_1 Heap.empty.nx (i : Nat) h K) rfl ?_
  refine if_lt (fun hlt => ?_) (fun hge => ?_)
  · have hlt : i < 4 := by omega
    refine ⟨⟨by omega, by omega⟩, 0, ?_, ⟨by omega, by omega⟩, ?_⟩
    · rw [hcells_of hg, Int.toNat_natCast]
      match i, hlt with
      | 0, _ => rfl
      | 1, _ => rfl
      | 2, _ => rfl
      | 3, _ => rfl
    · refine ⟨h.set Heap.empty.nx (some (.arr (u64s (notL (i + 1))) true)), ?_, rfl, 4 - (i + 1), by omega, i + 1, by rw [wrap_succ (by omega)]; rfl, by omega, rfl, by rw [Heap.get_set, if_pos rfl]⟩
      simp only [hstore, hg, Int.toNat_natCast]
      match i, hlt with
      | 0, _ => rfl
      | 1, _ => rfl
      | 2, _ => rfl
      | 3, _ => rfl
  · have he : i = 4 := by omega
    subst he
    refine roundW_exit [1, 2] (by kernel_rfl) rfl rfl ?_
    refine end_tree Tryr.Yok (fun K => f176_2 Heap.empty.nx h K) rfl ?_
    refine ⟨maxU, maxU, maxU, maxU, by rw [hcells_of hg]; rfl, finV1 (.inr rfl) rfl ?_ rfl⟩
    exact .agg _ _ (.cons _ _ _ _ (.i _ _) (.cons _ _ _ _ (.i _ _) (.cons _ _ _ _ (.i _ _) (.cons _ _ _ _ (.i _ _) .nil))))
end Go.Y

/- What the pieces of functions come to: printed by program. -/
namespace Go.Y
open Go.Proofs
set_option maxRecDepth 100000
set_option maxHeartbeats 0
theorem f175_0 (x0 : Int) (x1 : Int) (x2 : Int) (x3 : Int) (h : Heap) (K : KT) : (codeP Tryz.Y (Tryz.Y.loc 175) 100 (pre (flat (bodyOf Tryz.f175))) ⟨(V.agg [V.i IntKind.u64 x0, V.i IntKind.u64 x1, V.i IntKind.u64 x2, V.i IntKind.u64 x3] :: List.replicate 32 .undef), [], h⟩ (VQ [1, 2, 3, 4] K)) =
  (K Out.normal 33
  [V.lb [V.i IntKind.u64 x0, V.i IntKind.u64 x1, V.i IntKind.u64 x2, V.i IntKind.u64 x3],
 V.sl none 0 (some 0) 0, V.sl none 0 (some 0) 0,
 V.i IntKind.i64 (0 : Int)]
  h) := by kernel_rfl
theorem f175_1 (x0 : Int) (x1 : Int) (x2 : Int) (x3 : Int) (a3z2 : Option (Nat × Nat)) (l3z2 : Nat) (c3z2 : Option Nat) (k3z2 : Nat) (x4z2 : Int) (h : Heap) (K : KT) : (codeP Tryz.Y (Tryz.Y.loc 175) 100 (pre (flat (loopB (post (flat (bodyOf Tryz.f175)))))) ⟨mk 33 (([1, 2, 3, 4] : List Nat).zip [V.lb [V.i IntKind.u64 x0, V.i IntKind.u64 x1, V.i IntKind.u64 x2, V.i IntKind.u64 x3], V.sl none 0 (some 0) 0, V.sl a3z2 l3z2 c3z2 k3z2, V.i IntKind.i64 x4z2]), [], h⟩ (VQ [1, 2, 3, 4] K)) =
  (If (ltI x4z2 (256 : Int))
  (K Out.normal 33
 [V.lb [V.i IntKind.u64 x0, V.i IntKind.u64 x1, V.i IntKind.u64 x2, V.i IntKind.u64 x3],
 V.sl none 0 (some 0) 0, V.sl a3z2 l3z2 c3z2 k3z2, V.i IntKind.i64 x4z2]
 h)
  (K (Out.exit 0) 33
 [V.lb [V.i IntKind.u64 x0, V.i IntKind.u64 x1, V.i IntKind.u64 x2, V.i IntKind.u64 x3],
 V.sl none 0 (some 0) 0, V.sl a3z2 l3z2 c3z2 k3z2, V.i IntKind.i64 x4z2]
 h)) := by kernel_rfl
theorem f175_2 (x0 : Int) (x1 : Int) (x2 : Int) (x3 : Int) (a3z2 : Option (Nat × Nat)) (l3z2 : Nat) (c3z2 : Option Nat) (k3z2 : Nat) (x4z2 : Int) (h : Heap) (K : KT) : (codeP Tryz.Y (Tryz.Y.loc 175) 100 (pre (flat (blockB (post (flat (loopB (post (flat (bodyOf Tryz.f175))))))))) ⟨mk 33 (([1, 2, 3, 4] : List Nat).zip [V.lb [V.i IntKind.u64 x0, V.i IntKind.u64 x1, V.i IntKind.u64 x2, V.i IntKind.u64 x3], V.sl none 0 (some 0) 0, V.sl a3z2 l3z2 c3z2 k3z2, V.i IntKind.i64 x4z2]), [], h⟩ (VQ [1, 2, 3, 4, 5] K)) =
  (K Out.normal 33
  [V.lb [V.i IntKind.u64 x0, V.i IntKind.u64 x1, V.i IntKind.u64 x2, V.i IntKind.u64 x3],
 V.sl none 0 (some 0) 0, V.sl a3z2 l3z2 c3z2 k3z2, V.i IntKind.i64 x4z2,
 V.i IntKind.i64 x4z2]
  h) := by kernel_rfl
theorem f175_3 (x0 : Int) (x1 : Int) (x2 : Int) (x3 : Int) (a3z2 : Option (Nat × Nat)) (l3z2 : Nat) (c3z2 : Option Nat) (k3z2 : Nat) (x4z2 : Int) (x5 : Int) (h : Heap) (K : KT) : (codeP Tryz.Y (Tryz.Y.loc 175) 100 ((flat (loopB (post (flat (blockB (post (flat (loopB (post (flat (bodyOf Tryz.f175)))))))))))) ⟨mk 33 (([1, 2, 3, 4, 5] : List Nat).zip [V.lb [V.i IntKind.u64 x0, V.i IntKind.u64 x1, V.i IntKind.u64 x2, V.i IntKind.u64 x3], V.sl none 0 (some 0) 0, V.sl a3z2 l3z2 c3z2 k3z2, V.i IntKind.i64 x4z2, V.i IntKind.i64 x5]), [], h⟩ (VQ [1, 2, 3, 4, 5] K)) =
  (If (ltI x4z2 (256 : Int))
  (∃ (b : Bool),
 (PCon Tryz.Y (190 : Nat)
 [V.agg [V.i IntKind.u64 x0, V.i IntKind.u64 x1, V.i IntKind.u64 x2, V.i IntKind.u64 x3], V.i IntKind.i64 x4z2]
 fun (v : V) => v = V.b b) ∧
 If b
 (K Out.normal 33
 [V.lb [V.i IntKind.u64 x0, V.i IntKind.u64 x1, V.i IntKind.u64 x2, V.i IntKind.u64 x3],
 V.sl none 0 (some 0) 0, V.sl a3z2 l3z2 c3z2 k3z2,
 V.i IntKind.i64 (IntKind.i64.wrap (x4z2 + (1 : Int))), V.i IntKind.i64 x5]
 h)
 (K (Out.exit 2) 33
 [V.lb [V.i IntKind.u64 x0, V.i IntKind.u64 x1, V.i IntKind.u64 x2, V.i IntKind.u64 x3],
 V.sl none 0 (some 0) 0, V.sl a3z2 l3z2 c3z2 k3z2, V.i IntKind.i64 x4z2,
 V.i IntKind.i64 x5]
 h))
  (K (Out.exit 2) 33
 [V.lb [V.i IntKind.u64 x0, V.i IntKind.u64 x1, V.i IntKind.u64 x2, V.i IntKind.u64 x3],
 V.sl none 0 (some 0) 0, V.sl a3z2 l3z2 c3z2 k3z2, V.i IntKind.i64 x4z2,
 V.i IntKind.i64 x5]
 h)) := by kernel_rfl
theorem f175_4 (x0 : Int) (x1 : Int) (x2 : Int) (x3 : Int) (a3z2 : Option (Nat × Nat)) (l3z2 : Nat) (c3z2 : Option Nat) (k3z2 : Nat) (x4z2 : Int) (x5 : Int) (h : Heap) (K : KT) : (codeP Tryz.Y (Tryz.Y.loc 175) 100 (((post (flat (blockB (post (flat (loopB (post (flat (bodyOf Tryz.f175))))))))).drop 1)) ⟨mk 33 (([1, 2, 3, 4, 5] : List Nat).zip [V.lb [V.i IntKind.u64 x0, V.i IntKind.u64 x1, V.i IntKind.u64 x2, V.i IntKind.u64 x3], V.sl none 0 (some 0) 0, V.sl a3z2 l3z2 c3z2 k3z2, V.i IntKind.i64 x4z2, V.i IntKind.i64 x5]), [], h⟩ (VQ [1, 2, 3, 4] K)) =
  (If (ltI x5 x4z2)
  (∃ (a : Option (Nat × Nat)),
 ∃ (l : Nat),
 ∃ (c : Option Nat),
 ∃ (k : Nat),
 ∃ (h_1 : Heap),
 appendH Tryz.Y h 57 57 (V.sl a3z2 l3z2 c3z2 k3z2)
 (V.ts
 [V.i IntKind.u8 (IntKind.u8.wrap x5),
 V.i IntKind.u8 (IntKind.u8.wrap (IntKind.i64.wrap (x4z2 - (1 : Int))))]
 1 (some 1)) =
 some (V.sl a l c k, h_1) ∧
 K Out.normal 33
 [V.lb [V.i IntKind.u64 x0, V.i IntKind.u64 x1, V.i IntKind.u64 x2, V.i IntKind.u64 x3],
 V.sl none 0 (some 0) 0, V.sl a l c k, V.i IntKind.i64 x4z2]
 h_1)
  (K Out.normal 33
 [V.lb [V.i IntKind.u64 x0, V.i IntKind.u64 x1, V.i IntKind.u64 x2, V.i IntKind.u64 x3],
 V.sl none 0 (some 0) 0, V.sl a3z2 l3z2 c3z2 k3z2, V.i IntKind.i64 x4z2]
 h)) := by kernel_rfl
theorem f175_5 (x0 : Int) (x1 : Int) (x2 : Int) (x3 : Int) (x4z2 : Int) (a3z3 : Option (Nat × Nat)) (l3z3 : Nat) (c3z3 : Option Nat) (k3z3 : Nat) (h : Heap) (K : KT) : (codeP Tryz.Y (Tryz.Y.loc 175) 100 (((post (flat (loopB (post (flat (bodyOf Tryz.f175)))))).drop 1)) ⟨mk 33 (([1, 2, 3, 4] : List Nat).zip [V.lb [V.i IntKind.u64 x0, V.i IntKind.u64 x1, V.i IntKind.u64 x2, V.i IntKind.u64 x3], V.sl none 0 (some 0) 0, V.sl a3z3 l3z3 c3z3 k3z3, V.i IntKind.i64 x4z2]), [], h⟩ (VQ [1, 2, 3, 4] K)) =
  (K Out.normal 33
  [V.lb [V.i IntKind.u64 x0, V.i IntKind.u64 x1, V.i IntKind.u64 x2, V.i IntKind.u64 x3],
 V.sl none 0 (some 0) 0, V.sl a3z3 l3z3 c3z3 k3z3,
 V.i IntKind.i64 (IntKind.i64.wrap (x4z2 + (1 : Int)))]
  h) := by kernel_rfl
theorem f175_6 (a3z2 : Option (Nat × Nat)) (l3z2 : Nat) (c3z2 : Option Nat) (k3z2 : Nat) (h : Heap) (K : KT) : (codeP Tryz.Y (Tryz.Y.loc 175) 100 (((post (flat (bodyOf Tryz.f175))).drop 1)) ⟨mk 33 (([3] : List Nat).zip [V.sl a3z2 l3z2 c3z2 k3z2]), [], h⟩ (VQ [2] K)) =
  (K Out.ret 33 [V.sl a3z2 l3z2 c3z2 k3z2] h) := by kernel_rfl
end Go.Y
