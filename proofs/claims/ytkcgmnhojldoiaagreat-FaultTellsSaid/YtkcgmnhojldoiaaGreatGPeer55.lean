/- peer.May, by its contract. -/
import Derived.Test.YtkcgmnhojldoiaaGreatGTree
import Derived.Test.YtkcgmnhojldoiaaGreatYTryzP
import Derived.Test.YtkcgmnhojldoiaaGreatYLoop
import Derived.Test.YtkcgmnhojldoiaaGreatYZ
import Derived.Test.YtkcgmnhojldoiaaGreatGRef03b
import Derived.Test.YtkcgmnhojldoiaaGreatYRow
namespace Go.Y
open Go.Proofs
set_option maxRecDepth 1000000
set_option maxHeartbeats 0
theorem Zo {h : Heap} {id : Nat} {cs : List V} {wr : Bool} (hg : h.get id = some (.arr cs wr)) (off n : Nat) : Zj h id off n = Zh n (cs.drop off) := by
 simp only [Zj, hg]

theorem Zno {α : Type} {f : α → List V} {k : Nat} (hk : ∀ x, (f x).length = k) (l : List α) (n : Nat) : (row f l).take (n * k) = row f (l.take n) := by
 induction l generalizing n with
 | nil => simp [row]
 | cons x l ih =>
  have h : row f (x :: l) = f x ++ row f l := by simp [row]
  cases n with
  | zero => simp [row]
  | succ n =>
   have h2 : row f (x :: l.take n) = f x ++ row f (l.take n) := by simp [row]
   rw [List.take_succ_cons, h, h2, ← ih n, Nat.add_mul, Nat.one_mul, Nat.add_comm, ← hk x, List.take_length_add_append]

/-! ### names that were met -/
theorem ZBm (x y : Plc) {h : Heap} {id : Nat} (hg : h.get id = some (.arr (ZG x) true)) : Con UY 206 [.agg (ZG y), .p (some (id, 0))] h fun v h' => v = .b (y.name == x.name) ∧ h' = h := by
 refine ZL UK (fn := Tryz.f206) (by kernel_rfl) (by kernel_rfl) (Zm UK (loc := UY.loc 206) 100 [3] ?_)
 refine Eq.mpr (Zwk y.name y.echo (row encE y.edges) y.edges.length id h _) ?_
 exact ⟨x.name, by rw [Zo hg]; rfl, finC (.inr rfl) rfl (.now ⟨rfl, rfl⟩)⟩
theorem Zwm (x y : Plc) {h : Heap} {id : Nat} (hg : h.get id = some (.arr (ZG x) true)) : RCon UY 206 [.agg (ZG y), .p (some (id, 0))] h (.b (y.name == x.name)) :=
 ⟨h, ZBm x y hg, fun _ _ => rfl, fun _ hp => hp⟩

theorem Zs2 (l : List Plc) (x : Plc) {h : Heap} {id : Nat} (hg : h.get id = some (.arr (ZG x) true)) (hl : l.length < 2 ^ 30) :
  Con UY 232 [lst ZG l, .fn (.func 206) [] [.p (some (id, 0))]] h fun v h' => ∃ n : Int, v = .i .i64 n ∧ leI 0 n = (l.any fun y => y.name == x.name) ∧ h' = h := by
 refine ZL UK (fn := Tryz.f232) (by kernel_rfl) (by kernel_rfl) ?_
 refine Zp UK 19 (fun K => Zwd (row ZG l) l.length id h K) rfl (by kernel_rfl) ?_
 refine ⟨rfl, ZK [0, 1, 7, 8] [0, 1, 4, 7, 8] rfl (by kernel_rfl) (fun m vs h' => ∃ i : Nat, vs = [lst ZG l, .fn (.func 206) [] [.p (some (id, 0))], .i .i64 l.length, .i .i64 (i : Nat)] ∧ i ≤ l.length ∧ ((l.take i).any fun y => y.name == x.name) = false ∧ m = l.length - i ∧ h' = h) l.length Zu ⟨0, rfl, by omega, by simp, by omega, rfl⟩ ?_⟩
 rintro m vs h' ⟨i, rfl, hi, hno, rfl, rfl⟩
 refine Zq UK (fun K => Zwe (row ZG l) l.length id (i : Nat) h' K) rfl ?_
 refine Zg (fun hlt => ?_) (fun hge => ?_)
 ·refine ⟨bnd_nat hlt, _, _, _, _, _, by rw [Int.toNat_natCast]; exact Zr (f := ZG) (k := 3) QS hlt, _, Zwm x l[i] hg, Zd (fun hc => ?_) (fun hc => ?_)⟩
  ·refine Zl (.inr rfl) rfl (.now ⟨(i : Nat), rfl, ?_, rfl⟩)
   have : (l.any fun y => y.name == x.name) = true := List.any_eq_true.2 ⟨l[i], List.getElem_mem hlt, hc⟩
   rw [this]; simp [leI]
  ·refine ⟨rfl, l.length - (i + 1), by omega, i + 1, ?_, by omega, ?_, rfl, rfl⟩
   ·rw [Zf (by omega)]; rfl
   ·rw [List.take_succ_eq_append_getElem hlt, List.any_append, hno]; simp only [List.any_cons, List.any_nil, hc, Bool.or_false]
 ·refine Ze [] (by kernel_rfl) rfl rfl ?_
  refine ZB UK (fun K => Zwf h' K) rfl ?_
  rw [List.take_of_length_le hge] at hno
  exact finC (.inr rfl) rfl (.now ⟨-1, rfl, by rw [hno]; rfl, rfl⟩)

theorem Zkw (l : List Plc) (x : Plc) {h : Heap} {id : Nat} (hg : h.get id = some (.arr (ZG x) true)) (hl : l.length < 2 ^ 30) :
  Con UY 205 [lst ZG l, .fn (.func 206) [] [.p (some (id, 0))]] h fun v h' => v = .b (l.any fun y => y.name == x.name) ∧ h' = h := by
 refine ZL UK (fn := Tryz.f205) (by kernel_rfl) (by kernel_rfl) (Zm UK (loc := UY.loc 205) 100 [4] ?_)
 refine Eq.mpr (Zwc (row ZG l) l.length id h _) ?_
 refine (Zs2 l x hg hl).mono fun v h' ⟨n, e1, e2, e3⟩ => ⟨n, e1, ?_⟩
 subst e3
 rw [e2]
 exact finC (.inr rfl) rfl (.now ⟨rfl, rfl⟩)

/-! ### edges that are not right -/
theorem Zs3 (e : Edge) (cap : Int) (l : List Plc) {h : Heap} {id : Nat} (hg : h.get id = some (.arr (Xp cap l) true)) : Con UY 208 [.agg (encE e), .p (some (id, 0))] h fun v h' => v = .b (!XO e cap l.length) ∧ h' = h := by
 refine ZL UK (fn := Tryz.f208) (by kernel_rfl) (by kernel_rfl) (Zm UK (loc := UY.loc 208) 100 [3] ?_)
 refine Eq.mpr (Zwl e.kind e.text e.lo e.hi e.to id h _) ?_
 exact ⟨cap, row ZG l, l.length, none, by rw [Zo hg]; rfl, _, Zni e cap (row ZG l) l.length, finC (.inr rfl) rfl (.now ⟨rfl, rfl⟩)⟩

theorem Zs4 (k : List Edge) (cap : Int) (l : List Plc) {h : Heap} {id : Nat} (hg : h.get id = some (.arr (Xp cap l) true)) (hl : k.length < 2 ^ 30) :
  Con UY 233 [lst encE k, .fn (.func 208) [] [.p (some (id, 0))]] h fun v h' => ∃ n : Int, v = .i .i64 n ∧ leI 0 n = (k.any fun e => !XO e cap l.length) ∧ h' = h := by
 refine ZL UK (fn := Tryz.f233) (by kernel_rfl) (by kernel_rfl) ?_
 refine Zp UK 19 (fun K => Zwh (row encE k) k.length id h K) rfl (by kernel_rfl) ?_
 refine ⟨rfl, ZK [0, 1, 7, 8] [0, 1, 4, 7, 8] rfl (by kernel_rfl) (fun m vs h' => ∃ i : Nat, vs = [lst encE k, .fn (.func 208) [] [.p (some (id, 0))], .i .i64 k.length, .i .i64 (i : Nat)] ∧ i ≤ k.length ∧ ((k.take i).any fun e => !XO e cap l.length) = false ∧ m = k.length - i ∧ h' = h) k.length Zu ⟨0, rfl, by omega, by simp, by omega, rfl⟩ ?_⟩
 rintro m vs h' ⟨i, rfl, hi, hno, rfl, rfl⟩
 refine Zq UK (fun K => Zwi (row encE k) k.length id (i : Nat) h' K) rfl ?_
 refine Zg (fun hlt => ?_) (fun hge => ?_)
 ·refine ⟨bnd_nat hlt, _, _, _, _, _, by rw [Int.toNat_natCast]; exact Zr (f := encE) (k := 5) JS hlt, (Zs3 k[i] cap l hg).mono fun v h2 ⟨e1, e2⟩ => ⟨_, e1, ?_⟩⟩
  subst e2
  refine Zd (fun hc => ?_) (fun hc => ?_)
  ·refine Zl (.inr rfl) rfl (.now ⟨(i : Nat), rfl, ?_, rfl⟩)
   have : (k.any fun e => !XO e cap l.length) = true := List.any_eq_true.2 ⟨k[i], List.getElem_mem hlt, hc⟩
   rw [this]; simp [leI]
  ·refine ⟨rfl, k.length - (i + 1), by omega, i + 1, ?_, by omega, ?_, rfl, rfl⟩
   ·rw [Zf (by omega)]; rfl
   ·rw [List.take_succ_eq_append_getElem hlt, List.any_append, hno]; simp only [List.any_cons, List.any_nil, hc, Bool.or_false]
 ·refine Ze [] (by kernel_rfl) rfl rfl ?_
  refine ZB UK (fun K => Zwj h' K) rfl ?_
  rw [List.take_of_length_le hge] at hno
  exact finC (.inr rfl) rfl (.now ⟨-1, rfl, by rw [hno]; rfl, rfl⟩)

theorem Zkx (k : List Edge) (cap : Int) (l : List Plc) {h : Heap} {id : Nat} (hg : h.get id = some (.arr (Xp cap l) true)) (hl : k.length < 2 ^ 30) :
  Con UY 207 [lst encE k, .fn (.func 208) [] [.p (some (id, 0))]] h fun v h' => v = .b (k.any fun e => !XO e cap l.length) ∧ h' = h := by
 refine ZL UK (fn := Tryz.f207) (by kernel_rfl) (by kernel_rfl) (Zm UK (loc := UY.loc 207) 100 [4] ?_)
 refine Eq.mpr (Zwg (row encE k) k.length id h _) ?_
 refine (Zs4 k cap l hg hl).mono fun v h' ⟨n, e1, e2, e3⟩ => ⟨n, e1, ?_⟩
 subst e3
 rw [e2]
 exact finC (.inr rfl) rfl (.now ⟨rfl, rfl⟩)

/-! ### May -/
def M55 (cap : Int) (l : List Plc) (m : Nat) (vs : List V) (h : Heap) : Prop :=
 ∃ (id i : Nat), vs = [.p (some (id, 0)), .i .i64 cap, lst ZG l, .i .i64 l.length, .i .i64 (i : Nat)] ∧ h.get id = some (.arr (Xp cap l) true) ∧ id < h.nx ∧ i ≤ l.length ∧ m = l.length - i ∧ (List.range i).all (okPl cap l) = true

theorem Znp {α : Type} (p : α → Bool) (k : List α) : (k.any fun x => !p x) = !k.all p := by
 induction k with
 | nil => rfl
 | cons x k ih => rw [List.any_cons, List.all_cons, ih]; cases p x <;> simp

theorem Ze4 (cap : Int) (l : List Plc) : PCon UY 170 [.agg (Xp cap l)] (· = .b (Xm cap l)) := by
 refine Zt UK (fn := Tryz.f170) (by kernel_rfl) (by kernel_rfl) rfl ?_
 refine Zp UK 60 (fun K => Zv9 cap (row ZG l) l.length .empty K) rfl (by kernel_rfl) ?_
 have no : ∀ h, Xm cap l = false → ∃ r, Frz h (.b false) r ∧ r = .b (Xm cap l) := fun h e => ⟨_, .b _, by rw [e]⟩
 have hg0 : (Heap.empty.push (YObj.arr (Xp cap l) true)).get Heap.empty.nx = some (.arr (Xp cap l) true) := by simp
 have c1 : Zj (Heap.empty.push (YObj.arr (Xp cap l) true)) Heap.empty.nx 0 1 = some [.i .i64 cap] := by rw [Zo hg0]; rfl
 have c2 : Zj (Heap.empty.push (YObj.arr (Xp cap l) true)) Heap.empty.nx 1 1 = some [lst ZG l] := by rw [Zo hg0]; rfl
 refine ⟨cap, c1, Zw (fun g => Zl (.inr rfl) rfl (no _ (by simp [Xm, show leI 1 cap = false by simp [leI]; omega]))) (fun g1 => ?_)⟩
 refine ⟨cap, c1, Zw (fun g => Zl (.inr rfl) rfl (no _ (by simp [Xm, show leI cap 16 = false by simp [leI]; omega]))) (fun g2 => ?_)⟩
 refine ⟨_, _, _, c2, Zw (fun g => Zl (.inr rfl) rfl (no _ (by simp [Xm, show ¬ 1 ≤ l.length by omega]))) (fun g3 => ?_)⟩
 refine ⟨_, _, _, c2, Zw (fun g => Zl (.inr rfl) rfl (no _ (by simp [Xm, show ¬ l.length ≤ 16 by omega]))) (fun g4 => ?_)⟩
 have g1 : leI 1 cap = true := by simp [leI]; omega
 have g2 : leI cap 16 = true := by simp [leI]; omega
 have g3 : 1 ≤ l.length := by omega
 have g4 : l.length ≤ 16 := by omega
 refine ⟨_, _, _, c2, rfl, ZK [1, 10, 26, 27, 28] [1, 2, 10, 26, 27, 28] rfl (by kernel_rfl) (M55 cap l) l.length Zu ⟨_, 0, rfl, hg0, by simp [Heap.push, Heap.empty], by omega, by omega, by simp⟩ ?_⟩
 rintro m vs h ⟨id, i, rfl, hg, hid, hi, rfl, hp⟩
 refine Zq UK (fun K => Zwa id cap none (row ZG l) l.length (l.length : Nat) (i : Nat) h K) rfl ?_
 refine Zg (fun hlt => ?_) (fun hge => ?_)
 ·have hget : l[i]? = some l[i] := List.getElem?_eq_getElem hlt
  have htag : UY.tag 109 = none := by kernel_rfl
  rw [htag]
  have hgp : ∀ j, (h.pushT none (YObj.arr [.s [], .b false, .sl none 0 (some 0) 0] true)).get j = if j = h.nx then some (YObj.arr [.s [], .b false, .sl none 0 (some 0) 0] true) else h.get j := fun j => Heap.get_pushT _ _ _ _
  let h1 : Heap := (h.pushT none (YObj.arr [.s [], .b false, .sl none 0 (some 0) 0] true)).set h.nx (some (.arr (ZG l[i]) true))
  have hst : ZN (h.pushT none (YObj.arr [.s [], .b false, .sl none 0 (some 0) 0] true)) h.nx 0 (ZG l[i]) = some h1 := by
   simp only [ZN, hgp, if_true]
   rfl
  have hx : h1.get h.nx = some (.arr (ZG l[i]) true) := by rw [Heap.get_set, if_pos rfl]
  have hpp : h1.get id = some (.arr (Xp cap l) true) := by
   rw [Heap.get_set, if_neg (by omega), hgp, if_neg (by omega)]; exact hg
  have hnx : h1.nx = h.nx + 1 := rfl
  have out : ∀ h, okPl cap l i = false → ∃ r, Frz h (.b false) r ∧ r = .b (Xm cap l) := fun h ho => no h (Znn hlt ho)
  refine ⟨bnd_nat hlt, l[i].name, l[i].echo, row encE l[i].edges, l[i].edges.length, none, by rw [Int.toNat_natCast]; exact Zr (f := ZG) (k := 3) QS hlt, h1, hst, ?_⟩
  refine ⟨l[i].name, by rw [Zo hx]; rfl, _, Zjr l[i].name, Zd (fun h2 => Zl (.inr rfl) rfl (out _ (by unfold okPl; rw [hget]; simp only; rw [show QO l[i].name = false by simpa using h2]; rfl))) (fun h2 => ?_)⟩
  have h2 : QO l[i].name = true := by simpa using h2
  obtain ⟨c, r, hcr⟩ : ∃ c r, l[i].name = c :: r := by
   cases hnm : l[i].name with
   | nil => rw [hnm] at h2; cases h2
   | cons c r => exact ⟨c, r, rfl⟩
  refine ⟨l[i].name, by rw [Zo hx]; rfl, c, ⟨by omega, by rw [hcr]; rfl⟩, Zd (fun h3 => Zl (.inr rfl) rfl (out _ (by unfold okPl; rw [hget]; simp only; rw [show Za1 l[i].name = false by rw [hcr]; simp [Za1, h3]]; simp))) (fun h3 => ?_)⟩
  have h3 : Za1 l[i].name = true := by rw [hcr]; simp [Za1, h3]
  refine ⟨row encE l[i].edges, l[i].edges.length, none, by rw [Zo hx]; rfl, Zw (fun h4 => Zl (.inr rfl) rfl (out _ (by unfold okPl; rw [hget]; simp only; rw [decide_eq_false (show ¬ l[i].edges.length ≤ 8 by omega)]; simp))) (fun h4 => ?_)⟩
  have h4 : l[i].edges.length ≤ 8 := by omega
  refine ⟨row ZG l, l.length, none, by rw [Zo hpp]; rfl, ⟨by omega, by omega⟩, ?_⟩
  have harg : (V.ts (List.take (((i : Nat) : Int).toNat * 3 - 0 * 3) (List.drop (0 * 3) (row ZG l))) (((i : Nat) : Int).toNat - 0) (Option.map (fun x => x - 0) none)) = lst ZG (l.take i) := by
   rw [Int.toNat_natCast]
   simp only [Nat.zero_mul, List.drop_zero, Nat.sub_zero, Option.map_none, lst]
   rw [Zno QS, List.length_take, Nat.min_eq_left (by omega)]
  have hsub : (((i : Nat) : Int).toNat - 0) * 3 = ((i : Nat) : Int).toNat * 3 - 0 * 3 := by omega
  rw [hsub, harg]
  refine (Zkw (l.take i) l[i] hx (by rw [List.length_take]; omega)).mono fun v h' ⟨e1, e2⟩ => ⟨_, e1, ?_⟩
  subst e2
  refine Zd (fun h5 => Zl (.inr rfl) rfl (out _ (by unfold okPl; rw [hget]; simp only; rw [h5]; simp))) (fun h5 => ?_)
  refine ⟨row encE l[i].edges, l[i].edges.length, none, by rw [Zo hx]; rfl, ?_⟩
  refine (Zkx l[i].edges cap l hpp (by omega)).mono fun v h' ⟨e1, e2⟩ => ⟨_, e1, ?_⟩
  subst e2
  rw [Znp]
  refine Zd (fun h6 => Zl (.inr rfl) rfl (out _ (by unfold okPl; rw [hget]; simp only; rw [show (l[i].edges.all fun e => XO e cap l.length) = false by simpa using h6]; simp))) (fun h6 => ?_)
  have h6 : (l[i].edges.all fun e => XO e cap l.length) = true := by simpa using h6
  have ho : okPl cap l i = true := by
   unfold okPl; rw [hget]; simp only
   rw [h2, h3, h5, h6, decide_eq_true h4]; rfl
  refine ⟨rfl, l.length - (i + 1), by omega, id, i + 1, by rw [Zf (by omega)]; rfl, hpp, by omega, by omega, rfl, Xj hp ho⟩
 ·refine Ze [] (by kernel_rfl) rfl rfl ?_
  refine ZB UK (fun K => Zwb _ K) rfl ?_
  have : i = l.length := by omega
  subst this
  exact Zs (.inr rfl) rfl (.b _) (by simp [Xm, g1, g2, g3, g4, hp])
theorem Zwn (f : List V) (g : Nat) (j : List V) (l : Nat) (e : List V) (a : Nat) (c d : Int) (h : Heap) (K : KT) : (Zc UY (UY.loc 126) 100 ((flat (Za Tryz.f126))) ⟨(V.agg (vMD f g j l e a c d) :: List.replicate 36 .undef), [], h⟩ (VQ [2] K)) =
 (If (ltI (a : Int) (1 : Int)) (K .ret 37 [.b false] h)
 (If (ltI 8 a) (K .ret 37 [.b false] h)
 (If (ltI c 0) (K .ret 37 [.b false] h)
 (If (ltI 3 c) (K .ret 37 [.b false] h)
 (If (ltI d 1) (K .ret 37 [.b false] h)
 (If (ltI 64 d) (K .ret 37 [.b false] h)
 (Con UY 168 [V.ts e a none, V.fn (Fn.func (169 : Nat)) [] []] h
 fun (v : V) (h' : Heap) => ∃ (b : Bool), v = V.b b ∧ K .ret 37 [.b !b] h'))))))) := by kernel_rfl
theorem Zwo (a : List V) (n0 : Nat) (h : Heap) (K : KT) : (Zc UY (UY.loc 168) 100 ((flat (Za Tryz.f168))) ⟨(V.ts a n0 none :: V.fn (Fn.func 169) [] [] :: List.replicate 7 .undef), [], h⟩ (VQ [4] K)) =
 (Con UY 203 [V.ts a n0 none, V.fn (Fn.func 169) [] []] h fun (v : V) (h' : Heap) =>
 ∃ (n : Int), v = V.i .i64 n ∧ K .ret 9 [.b (leI 0 n)] h') := by kernel_rfl
theorem Zwp (a : List V) (n0 : Nat) (h : Heap) (K : KT) : (Zc UY (UY.loc 203) 100 (pre (flat (Za Tryz.f203))) ⟨(V.ts a n0 none :: V.fn (Fn.func 169) [] [] :: List.replicate 17 .undef), [], h⟩ (VQ [0, 1, 7, 8] K)) =
 (K .normal 19
 [.ts a n0 none, .fn (Fn.func 169) [] [], .i .i64 (n0 : Int), .i .i64 0] h) := by kernel_rfl
theorem Zwq (a : List V) (n0 : Nat) (x8 : Int) (h : Heap) (K : KT) : (Zc UY (UY.loc 203) 100 ((flat (Zv (post (flat (Za Tryz.f203)))))) ⟨mk 19 (([0, 1, 7, 8] : List Nat).zip [V.ts a n0 none, V.fn (Fn.func 169) [] [], V.i .i64 (n0 : Int), V.i .i64 x8]), [], h⟩ (VQ [0, 1, 4, 7, 8] K)) =
 (If (ltI x8 n0)
 ((0 ≤ x8 ∧ x8 < n0) ∧
 ∃ (n : Int) (cs : List V) (l : Nat) (c : Option Nat), Zh 2 (List.drop (x8.toNat * 2) a) = some [V.i .i64 n, V.ts cs l c] ∧
 ∃ (b : Bool),
 (PCon UY 169 [V.agg [V.i .i64 n, V.ts cs l c]] fun v => v = V.b b) ∧
 If b
 (K .ret 19
 [.ts a n0 none, .fn (Fn.func 169) [] [], .i .i64 x8,
 .i .i64 (n0 : Int), .i .i64 x8]
 h)
 (K .normal 19
 [.ts a n0 none, .fn (Fn.func 169) [] [], .undef, .i .i64 (n0 : Int),
 .i .i64 (IntKind.i64.wrap (x8 + (1 : Int)))]
 h))
 (K (.exit 0) 19
 [.ts a n0 none, .fn (Fn.func 169) [] [], .undef, .i .i64 (n0 : Int), .i .i64 x8] h)) := by kernel_rfl
theorem Zwr (h : Heap) (K : KT) : (Zc UY (UY.loc 203) 100 (((post (flat (Za Tryz.f203))).drop 1)) ⟨mk 19 (([] : List Nat).zip []), [], h⟩ (VQ [4] K)) =
 (K .ret 19 [.i .i64 (-1)] h) := by kernel_rfl
theorem Zws (a : Int) (c : List V) (d : Nat) (h : Heap) (K : KT) : (Zc UY (UY.loc 169) 100 ((flat (Za Tryz.f169))) ⟨(V.agg [V.i .i64 a, V.ts c d none] :: List.replicate 5 .undef), [], h⟩ (VQ [2] K)) =
 (∃ (b : Bool),
 (PCon UY 170 [V.agg [V.i .i64 a, V.ts c d none]] fun v => v = V.b b) ∧
 K .ret 6 [.b !b] h) := by kernel_rfl
theorem ZBn (a : List V) (c : Nat) (d : List V) (e : Nat) (f : List V) (g : Nat) (j l : Int) (h : Heap) (K : KT) : (Zc UY (UY.loc 23) 100 (pre (flat (Za Tryz.f23))) ⟨(V.agg (vMD a c d e f g j l) :: List.replicate 45 .undef), [], h⟩ (VQ [1, 2, 3, 9, 14, 19] K)) =
 (K .normal 46
 [.lb
 (vMD a c d e f g j l),
 .b false, .i .i64 0, .undef, .undef, .undef]
 h) := by kernel_rfl
theorem ZBo (e : List V) (f : Nat) (g : List V) (j : Nat) (d : List V) (a : Nat) (m o x3 : Int) (v9 p q : V) (h : Heap) (K : KT) : (Zc UY (UY.loc 23) 100 ((flat (Zv (post (flat (Za Tryz.f23)))))) ⟨mk 46 (([1, 2, 3, 9, 14, 19] : List Nat).zip [V.lb (vMD e f g j d a m o), V.b false, V.i .i64 x3, v9, p, q]), [], h⟩ (VQ [1, 2, 3, 4, 9, 14, 19] K)) =
 (If (ltI x3 a)
 (If (ltI 7 x3)
 (K .ret 46
 [.lb
 (vMD e f g j d a m o),
 .b false, .i .i64 x3, .i .i64 x3, v9, .tup [], .tup []]
 h)
 ((0 ≤ x3 ∧ x3 < a) ∧
 ∃ (n : Int) (cs : List V) (l : Nat) (c : Option Nat), Zh 2 (List.drop (x3.toNat * 2) d) = some [V.i .i64 n, V.ts cs l c] ∧
 ∃ (b : Bool),
 (PCon UY 60 [V.agg [V.i .i64 n, V.ts cs l c]] fun v => v = V.b b) ∧
 If (!b)
 (K .ret 46
 [.lb
 (vMD e f g j d a m o),
 .b false, .i .i64 x3, .i .i64 x3, v9, .rf, .b b]
 h)
 (K .normal 46
 [.lb
 (vMD e f g j d a m o),
 .b false, .i .i64 (IntKind.i64.wrap (x3 + (1 : Int))), .i .i64 x3,
 .i .i64 x3, .rf, .b b]
 h)))
 (K (.exit 0) 46
 [.lb
 (vMD e f g j d a m o),
 .b false, .i .i64 x3, .i .i64 x3, v9, p, q]
 h)) := by kernel_rfl
theorem ZBp (e : List V) (f : Nat) (g : List V) (j : Nat) (l : List V) (d : Nat) (a c x3 : Int) (v9 m n : V) (h : Heap) (K : KT) : (Zc UY (UY.loc 23) 100 (((post (flat (Za Tryz.f23))).drop 1)) ⟨mk 46 (([1, 4, 9, 14, 19] : List Nat).zip [V.lb (vMD e f g j l d a c), V.i .i64 x3, v9, m, n]), [], h⟩ (VQ [2] K)) =
 (If (leI 1 d)
 (If (leI 0 a)
 (If (leI a 3)
 (If (leI 1 c) (K .ret 46 [.b (leI c 64)] h)
 (K .ret 46 [.b false] h))
 (K .ret 46 [.b false] h))
 (K .ret 46 [.b false] h))
 (K .ret 46 [.b false] h)) := by kernel_rfl
theorem ZBq (e : List V) (f : Nat) (d : List V) (a : Nat) (c : List V) (n1 : Nat) (h : Heap) (K : KT) : (Zc UY (UY.loc 14) 100 (pre (flat (Za Tryz.f14))) ⟨(V.agg [V.ts e f none, V.ts d a none] :: V.ts c n1 none :: List.replicate 40 .undef), [], h⟩ (VQ [1, 4, 19, 20, 21] K)) =
 (If (ltI 12 a)
 (K .ret 42 [.ts c n1 none, .b false, .undef, .undef, .undef] h)
 (If (ltI 9 n1) (K .ret 42 [.ts c n1 none, .b false, .undef, .undef, .undef] h)
 (K .normal 42
 [.ts c n1 none, .b false, .ts d a none, .i .i64 (a : Int),
 .i .i64 0]
 h))) := by kernel_rfl
theorem ZBr (d : List V) (a : Nat) (e : List V) (n1 : Nat) (c : Int) (h : Heap) (K : KT) : (Zc UY (UY.loc 14) 100 ((flat (Zv (post (flat (Za Tryz.f14)))))) ⟨mk 42 (([1, 19, 20, 21] : List Nat).zip [V.ts e n1 none, V.ts d a none, V.i .i64 (a : Int), V.i .i64 c]), [], h⟩ (VQ [1, 4, 19, 20, 21] K)) =
 (If (ltI c a)
 ((0 ≤ c ∧ c < a) ∧
 ∃ (n n_1 n_2 : Int) (s : List UInt8) (n_3 : Int) (b : Bool) (n_4 : Int), Zh 7 (List.drop (c.toNat * 7) d) =
 some
 [V.i .i64 n, V.i .i64 n_1, V.i .i64 n_2, V.s s, V.i .i64 n_3, V.b b,
 V.i .i64 n_4] ∧
 If (ltI 40 (↑s.length : Int))
 (K .ret 42
 [.ts e n1 none, .b false, .ts d a none,
 .i .i64 (a : Int), .i .i64 c]
 h)
 (K .normal 42
 [.ts e n1 none, .undef, .ts d a none, .i .i64 (a : Int),
 .i .i64 (IntKind.i64.wrap (c + (1 : Int)))]
 h))
 (K (.exit 0) 42
 [.ts e n1 none, .undef, .ts d a none, .i .i64 (a : Int), .i .i64 c]
 h)) := by kernel_rfl
theorem ZBs (a : List V) (n1 : Nat) (h : Heap) (K : KT) : (Zc UY (UY.loc 14) 100 (pre ((post (flat (Za Tryz.f14))).drop 1)) ⟨mk 42 (([1] : List Nat).zip [V.ts a n1 none]), [], h⟩ (VQ [31, 32, 33] K)) =
 (K .normal 42 [.ts a n1 none, .i .i64 (n1 : Int), .i .i64 0] h) := by kernel_rfl
theorem ZBt (d : List V) (n1 : Nat) (a : Int) (h : Heap) (K : KT) : (Zc UY (UY.loc 14) 100 ((flat (Zv (post ((post (flat (Za Tryz.f14))).drop 1))))) ⟨mk 42 (([31, 32, 33] : List Nat).zip [V.ts d n1 none, V.i .i64 (n1 : Int), V.i .i64 a]), [], h⟩ (VQ [4, 31, 32, 33] K)) =
 (If (ltI a n1)
 ((0 ≤ a ∧ a < n1) ∧
 ∃ (b b_1 b_2 : Bool) (n n_1 : Int) (s : List UInt8) (cs : List V) (l : Nat) (c : Option Nat) (s_1 : List UInt8) (cs_1 : List V) (l_1 : Nat) (c_1 : Option Nat) (s_2 s_3 : List UInt8), Zh 11 (List.drop (a.toNat * 11) d) =
 some
 (vSD b b_1 b_2 n n_1 s cs l c s_1 cs_1 l_1 c_1 s_2 s_3) ∧
 If (ltI 20 (↑s_3.length : Int))
 (K .ret 42
 [.b false, .ts d n1 none, .i .i64 (n1 : Int), .i .i64 a]
 h)
 (K .normal 42
 [.undef, .ts d n1 none, .i .i64 (n1 : Int),
 .i .i64 (IntKind.i64.wrap (a + (1 : Int)))]
 h))
 (K (.exit 2) 42 [.undef, .ts d n1 none, .i .i64 (n1 : Int), .i .i64 a]
 h)) := by kernel_rfl
theorem ZBu (h : Heap) (K : KT) : (Zc UY (UY.loc 14) 100 (((post ((post (flat (Za Tryz.f14))).drop 1)).drop 1)) ⟨mk 42 (([] : List Nat).zip []), [], h⟩ (VQ [4] K)) =
 (K .ret 42 [.b true] h) := by kernel_rfl
structure Kid where
 kind : Int
 n : Int
 name : List UInt8
 op : List UInt8
 cs : List V
 len : Nat
structure Ins where
 op : Int
 a : Int
 name : List UInt8
 n : Int
 parts : List (List UInt8 × List UInt8)
 ck : Int
 cn : Int
 cname : List UInt8
 cop : List UInt8
 kids : List Kid
 list : List Int
structure Wat where
 kind : Int
 peer : Int
 pk : Int
 text : List UInt8
 to : Int
 own : Bool
 at' : Int
abbrev encK (k : Kid) : List V := [.i .i64 k.kind, .i .i64 k.n, .s k.name, .s k.op, .ts k.cs k.len none]
abbrev ZE (p : List UInt8 × List UInt8) : List V := [.s p.1, .s p.2]
abbrev ZC (x : Ins) : List V := [.i .i64 x.op, .i .i64 x.a, .s x.name, .i .i64 x.n, lst ZE x.parts, .i .i64 x.ck, .i .i64 x.cn, .s x.cname, .s x.cop, lst encK x.kids, lst encI x.list]
abbrev ZD (w : Wat) : List V := [.i .i64 w.kind, .i .i64 w.peer, .i .i64 w.pk, .s w.text, .i .i64 w.to, .b w.own, .i .i64 w.at']
abbrev ZF (p : Int × List Plc) : List V := Xp p.1 p.2
theorem Zqc (k : Kid) : (encK k).length = 5 := rfl
theorem Wu (k : List UInt8 × List UInt8) : (ZE k).length = 2 := rfl
theorem Zb8 (k : Ins) : (ZC k).length = 11 := rfl
theorem QU (k : Wat) : (ZD k).length = 7 := rfl
theorem QV (k : Int × List Plc) : (ZF k).length = 2 := rfl
abbrev XX (ins : List Ins) (ws : List Wat) : List V := [lst ZC ins, lst ZD ws]
abbrev modC (ins : List Ins) (ws : List Wat) (ps : List (Int × List Plc)) (lat mat : Int) : List V := [lst ZC ins, lst ZD ws, lst ZF ps, .i .i64 lat, .i .i64 mat]

/-! ### Longest -/
def ZBv (op : Int) (n : Int) (x : Ins) : Int := if x.op = op then max n x.list.length else n
def ZE9 (ins : List Ins) (op : Int) : Int := ins.foldl (ZBv op) 0
/-! ### Right -/
def JZ (p : Int × List Plc) : Bool := Xm p.1 p.2
def ZW (ps : List (Int × List Plc)) (lat mat : Int) : Bool := decide (1 ≤ ps.length) && decide (ps.length ≤ 8) && leI 0 lat && leI lat 3 && leI 1 mat && leI mat 64 && ps.all JZ

theorem Zs5 (p : Int × List Plc) : PCon UY 169 [.agg (ZF p)] (· = .b (!JZ p)) :=
 Zz UK (fn := Tryz.f169) (by kernel_rfl) (by kernel_rfl) rfl (fun K => Zws p.1 (row ZG p.2) p.2.length .empty K) rfl ⟨_, Ze4 p.1 p.2, Zs (.inr rfl) rfl (.b _) rfl⟩

theorem Zs6 (ps : List (Int × List Plc)) (h : Heap) (hl : ps.length < 2 ^ 30) : Con UY 203 [lst ZF ps, .fn (.func 169) [] []] h fun v h' => ∃ n : Int, v = .i .i64 n ∧ leI 0 n = (ps.any fun p => !JZ p) ∧ h' = h := by
 refine ZL UK (fn := Tryz.f203) (by kernel_rfl) (by kernel_rfl) ?_
 refine Zp UK 19 (fun K => Zwp (row ZF ps) ps.length h K) rfl (by kernel_rfl) ?_
 refine ⟨rfl, ZK [0, 1, 7, 8] [0, 1, 4, 7, 8] rfl (by kernel_rfl) (fun m vs h' => ∃ i : Nat, vs = [lst ZF ps, .fn (.func 169) [] [], .i .i64 ps.length, .i .i64 (i : Nat)] ∧ i ≤ ps.length ∧ ((ps.take i).any fun p => !JZ p) = false ∧ m = ps.length - i ∧ h' = h) ps.length Zu ⟨0, rfl, by omega, by simp, by omega, rfl⟩ ?_⟩
 rintro m vs h' ⟨i, rfl, hi, hno, rfl, rfl⟩
 refine Zq UK (fun K => Zwq (row ZF ps) ps.length (i : Nat) h' K) rfl ?_
 refine Zg (fun hlt => ?_) (fun hge => ?_)
 ·refine ⟨bnd_nat hlt, _, _, _, _, by rw [Int.toNat_natCast]; exact Zr (f := ZF) (k := 2) QV hlt, _, Zs5 ps[i], Zd (fun hc => ?_) (fun hc => ?_)⟩
  ·refine Zl (.inr rfl) rfl (.now ⟨(i : Nat), rfl, ?_, rfl⟩)
   have : (ps.any fun p => !JZ p) = true := List.any_eq_true.2 ⟨ps[i], List.getElem_mem hlt, hc⟩
   rw [this]; simp [leI]
  ·refine ⟨rfl, ps.length - (i + 1), by omega, i + 1, ?_, by omega, ?_, rfl, rfl⟩
   ·rw [Zf (by omega)]; rfl
   ·rw [List.take_succ_eq_append_getElem hlt, List.any_append, hno]; simp only [List.any_cons, List.any_nil, hc, Bool.or_false]
 ·refine Ze [] (by kernel_rfl) rfl rfl ?_
  refine ZB UK (fun K => Zwr h' K) rfl ?_
  rw [List.take_of_length_le hge] at hno
  exact finC (.inr rfl) rfl (.now ⟨-1, rfl, by rw [hno]; rfl, rfl⟩)
theorem Zky (ps : List (Int × List Plc)) (h : Heap) (hl : ps.length < 2 ^ 30) : Con UY 168 [lst ZF ps, .fn (.func 169) [] []] h fun v h' => v = .b (!ps.all JZ) ∧ h' = h := by
 refine ZL UK (fn := Tryz.f168) (by kernel_rfl) (by kernel_rfl) (Zm UK (loc := UY.loc 168) 100 [4] ?_)
 refine Eq.mpr (Zwo (row ZF ps) ps.length h _) ?_
 refine (Zs6 ps h hl).mono fun v h' ⟨n, e1, e2, e3⟩ => ⟨n, e1, ?_⟩
 subst e3
 rw [e2, Znp]
 exact finC (.inr rfl) rfl (.now ⟨rfl, rfl⟩)

theorem Zs7 (ins : List Ins) (ws : List Wat) (ps : List (Int × List Plc)) (lat mat : Int) : PCon UY 126 [.agg (modC ins ws ps lat mat)] (· = .b (ZW ps lat mat)) := by
 refine Zz UK (fn := Tryz.f126) (by kernel_rfl) (by kernel_rfl) rfl (fun K => Zwn (row ZC ins) ins.length (row ZD ws) ws.length (row ZF ps) ps.length lat mat .empty K) rfl ?_
 have no : ZW ps lat mat = false → Fin UY Tryz.f126 [2] (fun v h => ∃ r, Frz h v r ∧ r = .b (ZW ps lat mat)) .ret 37 [.b false] .empty := fun e => Zs (.inr rfl) rfl (.b _) (by rw [e])
 refine Zw (fun g => no (by simp [ZW, show ¬ 1 ≤ ps.length by omega])) (fun g1 => ?_)
 refine Zw (fun g => no (by simp [ZW, show ¬ ps.length ≤ 8 by omega])) (fun g2 => ?_)
 refine Zw (fun g => no (by simp [ZW, show leI 0 lat = false by simp [leI]; omega])) (fun g3 => ?_)
 refine Zw (fun g => no (by simp [ZW, show leI lat 3 = false by simp [leI]; omega])) (fun g4 => ?_)
 refine Zw (fun g => no (by simp [ZW, show leI 1 mat = false by simp [leI]; omega])) (fun g5 => ?_)
 refine Zw (fun g => no (by simp [ZW, show leI mat 64 = false by simp [leI]; omega])) (fun g6 => ?_)
 have k1 : 1 ≤ ps.length := by omega
 have k2 : ps.length ≤ 8 := by omega
 have k3 : leI 0 lat = true := by simp [leI]; omega
 have k4 : leI lat 3 = true := by simp [leI]; omega
 have k5 : leI 1 mat = true := by simp [leI]; omega
 have k6 : leI mat 64 = true := by simp [leI]; omega
 refine (Zky ps .empty (by omega)).mono fun v h' ⟨e1, e2⟩ => ⟨_, e1, Zs (.inr rfl) rfl (.b _) ?_⟩
 simp only [ZW, k1, k2, k3, k4, k5, k6, decide_true, Bool.true_and, Bool.not_not]

theorem Zkz (ins : List Ins) (ws : List Wat) (ps : List (Int × List Plc)) (lat mat : Int) (hn : ∀ p ∈ ps, ∀ x ∈ p.2, x.name.length < 2 ^ 30) (hl : ps.length < 2 ^ 30) : PCon UY 23 [.agg (modC ins ws ps lat mat)] (· = .b (ZW ps lat mat)) := by
 refine Zt UK (fn := Tryz.f23) (by kernel_rfl) (by kernel_rfl) rfl ?_
 refine Zp UK 46 (fun K => ZBn (row ZC ins) ins.length (row ZD ws) ws.length (row ZF ps) ps.length lat mat .empty K) rfl (by kernel_rfl) ?_
 have no : ∀ (vs : List V) (h : Heap) (so : List Nat), ZW ps lat mat = false → resV UY Tryz.f23 (so.zip vs) = some (.b false) → AtV so (FinS UY Tryz.f23 fun v h => ∃ r, Frz h v r ∧ r = .b (ZW ps lat mat)) .ret 46 vs h := fun vs h so hne hv =>
  Zl (.inr rfl) hv ⟨_, .b _, by rw [hne]⟩
 refine ⟨rfl, ZK [1, 2, 3, 9, 14, 19] [1, 2, 3, 4, 9, 14, 19] rfl (by kernel_rfl) (fun m vs _ => ∃ (i : Nat) (v9 v14 v19 : V), vs = [.lb (modC ins ws ps lat mat), .b false, .i .i64 (i : Nat), v9, v14, v19] ∧ i ≤ ps.length ∧ i ≤ 8 ∧ m = ps.length - i ∧ (ps.take i).all JZ = true) ps.length Zu ⟨0, _, _, _, rfl, by omega, by omega, by omega, by simp⟩ ?_⟩
 rintro m vs h ⟨i, v9, v14, v19, rfl, hi, hi8, rfl, hp⟩
 refine ZI UK (loc := UY.loc 23) 100 [1, 2, 3, 4, 9, 14, 19] ?_
 refine Eq.mpr (ZBo ..) ?_
 refine Zg (fun hlt => Zw (fun h7 => no _ _ _ (by simp [ZW, show ¬ ps.length ≤ 8 by omega]) rfl) (fun h7 => ?_)) (fun hge => ?_)
 ·refine ⟨bnd_nat hlt, _, _, _, _, by rw [Int.toNat_natCast]; exact Zr (f := ZF) (k := 2) QV hlt, _, Zb7 ps[i].1 ps[i].2 (hn _ (List.getElem_mem hlt)), Zd (fun hc => no _ _ _ ?_ rfl) (fun hc => ?_)⟩
  ·have : ps.all JZ = false := QT (p := JZ) hlt (by unfold JZ; simpa using hc)
   simp [ZW, this]
  ·exact ⟨rfl, ps.length - (i + 1), by omega, i + 1, _, _, _, by rw [Zf (by omega)]; rfl, by omega, by omega, rfl, Xo (p := JZ) hlt hp (by unfold JZ; simpa using hc)⟩
 ·refine Ze [1, 4, 9, 14, 19] (by kernel_rfl) rfl rfl ?_
  refine Zm UK (loc := UY.loc 23) 100 [2] ?_
  refine Eq.mpr (ZBp ..) ?_
  rw [List.take_of_length_le hge] at hp
  have k2 : ps.length ≤ 8 := by omega
  have fin : ∀ x : Bool, x = ZW ps lat mat → Fin UY Tryz.f23 [2] (fun v h => ∃ r, Frz h v r ∧ r = .b (ZW ps lat mat)) .ret 46 [.b x] h := fun x hx => Zs (.inr rfl) rfl (.b _) (by rw [hx])
  refine Qz (fun g1 => ?_) (fun g1 => fin _ (by simp [ZW, show ¬ 1 ≤ ps.length by omega]))
  have k1 : 1 ≤ ps.length := by omega
  refine Zd (fun g2 => Zd (fun g3 => Zd (fun g4 => fin _ ?_) (fun g4 => fin _ ?_)) (fun g3 => fin _ ?_)) (fun g2 => fin _ ?_)
  all_goals simp only [ZW, k1, k2, hp, decide_true, Bool.true_and, Bool.and_true, Bool.false_and, Bool.and_false, *]

/-! ### First -/
abbrev ZFa (use tmo : Int) (nl sv : V) : List V := [.i .i64 0, nl, .s [], .s [], .s [], .s [], .s [], .s [], .s [], .s [], .s [], .s [], nl, .i .i64 0, .i .i64 0, .i .i64 use, .i .i64 tmo, .i .i64 0, nl, nl, sv]
abbrev nilS : V := .sl none 0 (some 0) 0
abbrev Zs8 : V := .ts [] 0 none
theorem Zif (h : Heap) : Frz h nilS Zs8 := .sln _ _ _ (fun x hx => by cases hx)
def ZEz (n : Nat) : List V := (List.replicate n Zsy).flatten
def ZE0 (n : Nat) : List V := (List.replicate n ([.b false, .b false, .b false, .i .i64 0, .i .i64 0, .s [], Zs8, .s [], Zs8, .s [], .s []] : List V)).flatten

def Tryz.kn (_ : FuncId) (_ : List V) (_ : Heap) : Option (V × Heap) := none
def ZFb (a b : List Glob) (m : Nat) (vs : List V) (_ : Heap) : Prop :=
 ∃ i : Nat, vs = [lst encG a, lst encG b, .i .i64 (i : Nat), .b false] ∧ i ≤ a.length ∧ m = a.length - i ∧ a.take i = b.take i
def ZFc (a b : List Glob) (i : Nat) (x y : Glob) (m : Nat) (vs : List V) (_ : Heap) : Prop :=
 ∃ j : Nat, vs = [lst encG a, lst encG b, .i .i64 (i : Nat), .i .i64 (j : Nat), .b false] ∧ j ≤ x.sp.length ∧ m = x.sp.length - j ∧ x.sp.take j = y.sp.take j
theorem Zk0 (A B : List Int) (a b : Int) : splice ((A ++ a :: B).map (V.i .i64)) A.length [.i .i64 b] = (A ++ b :: B).map (V.i .i64) := by
 induction A with
 | nil => simp [splice]
 | cons x A ih => simpa [splice] using ih

def bump (a : Int) : Int := IntKind.i64.wrap (a + 1)
def ZBw (s : Side) : Side := { s with ages := s.ages.map bump, clock := if s.on && !s.shut then IntKind.i64.wrap (s.clock + 1) else s.clock }

def ZFd (s : Side) (m : Nat) (vs : List V) (h : Heap) : Prop :=
 ∃ (id i : Nat), vs = [.lb (Zvd s (lst encT s.lines) (.sl (some (id, 0)) s.ages.length none 1)), .lb Zsy, .i .i64 s.ages.length, .i .i64 (i : Nat)] ∧ i ≤ s.ages.length ∧
  h.get id = some (.arr (((s.ages.take i).map bump ++ s.ages.drop i).map (.i .i64)) true) ∧ m = s.ages.length - i

theorem Qx (h : Heap) (cs : List V) (n : Nat) (c : Option Nat) : Frz h (.ts cs n c) (.ts cs n none) := .ts _ _ _ _ (fun x hx => by cases hx)
end Go.Y
