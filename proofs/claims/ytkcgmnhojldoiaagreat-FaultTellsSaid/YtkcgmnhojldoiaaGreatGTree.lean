/- Rules by printed trees: the goal over code is never shown to the elaborator. -/
import Derived.Test.YtkcgmnhojldoiaaGreatYRow
import Derived.Test.YtkcgmnhojldoiaaGreatGRef03b
import Derived.Test.YtkcgmnhojldoiaaGreatYTryzP
import Derived.Test.YtkcgmnhojldoiaaGreatYLoop
namespace Go.Y
set_option maxRecDepth 1000000
set_option maxHeartbeats 0
theorem Zp {Y : YP} (hY : YOK Y) {loc : Nat → Bool} {fuel : Nat} (n : Nat) {slots : List Nat} {σ : St} {env' : List V} {h : Heap} {l : List Code} {Q : Out → St → Prop} {T : (KT) → Prop}
  (tree : ∀ K, Zc Y loc fuel (pre l) ⟨env', [], h⟩ (VQ slots K) = T K) (hσ : σ = ⟨env', [], h⟩) (hc : (post l).isEmpty = false) (hT : T (PreV Y n slots (post l) Q)) : TriL Y l σ Q := by
 refine ZH hY (n := n) (loc := loc) fuel slots hc ?_
 rw [hσ, tree]
 exact hT
theorem Zq {Y : YP} (hY : YOK Y) {loc : Nat → Bool} {fuel : Nat} {slots : List Nat} {σ : St} {env' : List V} {h : Heap} {l : List Code} {K : KT} {T : (KT) → Prop}
  (tree : ∀ K, Zc Y loc fuel l ⟨env', [], h⟩ (VQ slots K) = T K) (hσ : σ = ⟨env', [], h⟩) (hT : T K) : TriL Y l σ (VQ slots K) := by
 refine ZI hY (loc := loc) fuel slots ?_
 rw [hσ, tree]
 exact hT
theorem ZB {Y : YP} (hY : YOK Y) {loc : Nat → Bool} {fuel : Nat} {slots : List Nat} {σ : St} {env' : List V} {h : Heap} {l : List Code} {fn : Func} {P : V → Heap → Prop} {T : (KT) → Prop}
  (tree : ∀ K, Zc Y loc fuel l ⟨env', [], h⟩ (VQ slots K) = T K) (hσ : σ = ⟨env', [], h⟩) (hT : T (Fin Y fn slots P)) : TriL Y l σ (FinS Y fn P) := by
 refine Zm hY (loc := loc) fuel slots ?_
 rw [hσ, tree]
 exact hT
end Go.Y
namespace Go.Y
open Go.Proofs
set_option maxRecDepth 1000000
set_option maxHeartbeats 0
def Za1 : List UInt8 → Bool
 | [] => false
 | c :: _ => !ltI c.toNat 97
def okPl (cap : Int) (l : List Plc) (i : Nat) : Bool := match l[i]? with
 | none => true
 | some x => QO x.name && Za1 x.name && decide (x.edges.length ≤ 8) && !((l.take i).any fun y => y.name == x.name) && x.edges.all fun e => XO e cap l.length
def Xm (cap : Int) (l : List Plc) : Bool := leI 1 cap && leI cap 16 && decide (1 ≤ l.length) && decide (l.length ≤ 16) && (List.range l.length).all (okPl cap l)

abbrev Xp (cap : Int) (l : List Plc) : List V := [.i .i64 cap, lst ZG l]
def M13O (cap : Int) (l : List Plc) (m : Nat) (vs : List V) (_ : Heap) : Prop :=
 ∃ i : Nat, vs = [.lb (Xp cap l), .i .i64 (i : Nat), .b false] ∧ i ≤ l.length ∧ m = l.length - i ∧ (List.range i).all (okPl cap l) = true
def M13A (cap : Int) (l : List Plc) (i : Nat) (x : Plc) (m : Nat) (vs : List V) (_ : Heap) : Prop :=
 ∃ j : Nat, vs = [.lb (Xp cap l), .i .i64 (i : Nat), .lb (ZG x), .i .i64 (j : Nat), .b false] ∧ j ≤ i ∧ m = i - j ∧ ((l.take j).any fun y => y.name == x.name) = false
def M13B (cap : Int) (l : List Plc) (i : Nat) (x : Plc) (m : Nat) (vs : List V) (_ : Heap) : Prop :=
 ∃ j : Nat, vs = [.lb (Xp cap l), .i .i64 (i : Nat), .lb (ZG x), .i .i64 (j : Nat), .b false] ∧ j ≤ x.edges.length ∧ m = x.edges.length - j ∧ ((x.edges.take j).all fun e => XO e cap l.length) = true

theorem Znn {cap : Int} {l : List Plc} {i : Nat} (hi : i < l.length) (h : okPl cap l i = false) : Xm cap l = false := by
 have : (List.range l.length).all (okPl cap l) = false := by
  rw [List.all_eq_false]
  exact ⟨i, List.mem_range.2 hi, by simp [h]⟩
 simp [Xm, this]

theorem Zb7 (cap : Int) (l : List Plc) (hn : ∀ x ∈ l, x.name.length < 2 ^ 30) : PCon UY 60 [.agg (Xp cap l)] (· = .b (Xm cap l)) := by
 refine Zt UK (fn := Tryz.f60) (by kernel_rfl) (by kernel_rfl) rfl ?_
 refine Zp UK 84 (fun K => ZAz cap (row ZG l) l.length .empty K) rfl (by kernel_rfl) ?_
 have no : ∀ (vs : List V) (h : Heap) (so : List Nat), Xm cap l = false → resV UY Tryz.f60 (so.zip vs) = some (.b false) → AtV so (FinS UY Tryz.f60 fun v h => ∃ r, Frz h v r ∧ r = .b (Xm cap l)) .ret 84 vs h := fun vs h so hne hv =>
  Zl (.inr rfl) hv ⟨_, .b _, by rw [hne]⟩
 refine Zw (fun g => no _ _ _ (by simp [Xm, show leI 1 cap = false by simp [leI]; omega]) rfl) (fun g1 => ?_)
 refine Zw (fun g => no _ _ _ (by simp [Xm, show leI cap 16 = false by simp [leI]; omega]) rfl) (fun g2 => ?_)
 refine Zw (fun g => no _ _ _ (by simp [Xm, show ¬ 1 ≤ l.length by omega]) rfl) (fun g3 => ?_)
 refine Zw (fun g => no _ _ _ (by simp [Xm, show ¬ l.length ≤ 16 by omega]) rfl) (fun g4 => ?_)
 have g1 : leI 1 cap = true := by simp [leI]; omega
 have g2 : leI cap 16 = true := by simp [leI]; omega
 have g3 : 1 ≤ l.length := by omega
 have g4 : l.length ≤ 16 := by omega
 refine ⟨rfl, ZK [1, 3, 10] [1, 2, 3, 10] rfl (by kernel_rfl) (M13O cap l) l.length Zu ⟨0, rfl, by omega, by omega, by simp⟩ ?_⟩
 rintro m vs h ⟨i, rfl, hi, rfl, hp⟩
 refine Zp UK 84 (fun K => ZA0 cap (row ZG l) l.length (i : Nat) false _ K) rfl (by kernel_rfl) ?_
 refine Zg (fun hlt => ?_) (fun hge => ?_)
 ·refine ⟨rfl, Zgm (n := 84) [1, 2, 3, 10] (by kernel_rfl) ?_⟩
  refine Zp UK 84 (fun K => ZA1 cap (row ZG l) l.length (i : Nat) false _ K) rfl (by kernel_rfl) ?_
  have out : ∀ (so : List Nat) (vs : List V) (h : Heap), ([1, 2, 3, 10] : List Nat).all so.contains = true → okPl cap l i = false → pick so [1, 2, 3, 10] vs = [.lb (Xp cap l), .b false, .i .i64 (i : Nat), .b false] →
    AtV so (VQ [1, 2, 3, 10] (Zc1 UY 84 [1, 2, 3, 10] (Qs (post (flat (Zv (post (flat (Za Tryz.f60))))))) ((post (flat (Zv (post (flat (Za Tryz.f60)))))).drop 1) (VQ [1, 2, 3, 10] (Xy UY 84 [1, 2, 3, 10] [1, 3, 10] (M13O cap l) (l.length - i) (Xi (post (flat (Za Tryz.f60)))) ((post (flat (Za Tryz.f60))).drop 1)
    (FinS UY Tryz.f60 fun v h => ∃ r, Frz h v r ∧ r = .b (Xm cap l)))))) .ret 84 vs h := by
   intro so vs h hso hne hpk
   refine ZR hso ?_
   rw [hpk]
   refine ZR rfl ?_
   exact no _ _ _ (Znn hlt hne) rfl
  have hget : l[i]? = some l[i] := List.getElem?_eq_getElem hlt
  refine ⟨bnd_nat hlt, l[i].name, l[i].echo, row encE l[i].edges, l[i].edges.length, none, by rw [Int.toNat_natCast]; exact Zr (f := ZG) (k := 3) QS hlt, ?_⟩
  refine ⟨_, Zgn l[i].name (hn _ (List.getElem_mem hlt)), Zd (fun h1 => out _ _ _ rfl (by unfold okPl; rw [hget]; simp only; rw [show QO l[i].name = false by simpa using h1]; rfl) rfl) (fun h1 => ?_)⟩
  have h1 : QO l[i].name = true := by simpa using h1
  obtain ⟨c, r, hcr⟩ : ∃ c r, l[i].name = c :: r := by
   cases hnm : l[i].name with
   | nil => rw [hnm] at h1; cases h1
   | cons c r => exact ⟨c, r, rfl⟩
  refine ⟨c, ⟨by omega, by rw [hcr]; rfl⟩, Zd (fun h2 => out _ _ _ rfl (by unfold okPl; rw [hget]; simp only; rw [show Za1 l[i].name = false by rw [hcr]; simp [Za1, h2]]; simp) rfl) (fun h2 => ?_)⟩
  have h2 : Za1 l[i].name = true := by rw [hcr]; simp [Za1, h2]
  refine Zw (fun h3 => out _ _ _ rfl (by unfold okPl; rw [hget]; simp only; rw [decide_eq_false (show ¬ l[i].edges.length ≤ 8 by omega)]; simp) rfl) (fun h3 => ?_)
  have h3 : l[i].edges.length ≤ 8 := by omega
  refine ⟨rfl, ZK [1, 3, 4, 5, 10] [1, 2, 3, 4, 5, 10] rfl (by kernel_rfl) (M13A cap l i l[i]) i Zu ⟨0, rfl, by omega, by omega, by simp⟩ ?_⟩
  rintro m vs h2' ⟨j, rfl, hj, rfl, hq⟩
  refine Zq UK (fun K => ZA2 cap (row ZG l) l.length (i : Nat) l[i].name l[i].echo none (row encE l[i].edges) l[i].edges.length false (j : Nat) _ K) rfl ?_
  refine Zg (fun hjl => ?_) (fun hjg => ?_)
  ·have hjl' : j < l.length := by omega
   have hnm : Zh 1 (List.drop 0 (List.drop ((j : Int).toNat * 3) (row ZG l))) = some [.s l[j].name] := by
    rw [Int.toNat_natCast, List.drop_zero, Xg QS l hjl']; rfl
   refine ⟨bnd_nat hjl', _, hnm, Zd (fun hc => out _ _ _ rfl ?_ rfl) (fun hc => ?_)⟩
   ·unfold okPl; rw [hget]; simp only
    have : ((l.take i).any fun y => y.name == l[i].name) = true := by
     rw [List.any_eq_true]
     exact ⟨l[j], by rw [List.mem_take_iff_getElem]; exact ⟨j, by omega, rfl⟩, hc⟩
    rw [this]; simp
   ·refine ⟨rfl, i - (j + 1), by omega, j + 1, by rw [Zf (by omega)]; rfl, by omega, rfl, ?_⟩
    rw [List.take_succ_eq_append_getElem hjl', List.any_append, hq]; simp only [List.any_cons, List.any_nil, hc, Bool.or_false]
  have hj' : j = i := by omega
  subst hj'
  refine Ze [1, 3, 4, 10] (by kernel_rfl) rfl rfl ?_
  refine Zp UK 84 (fun K => ZA3 cap (row ZG l) l.length (j : Nat) none (row encE l[j].edges) l[j].edges.length l[j].name l[j].echo false _ K) rfl (by kernel_rfl) ?_
  refine ⟨rfl, Zne [1, 3, 4, 6, 10] [1, 2, 3, 4, 6, 10] rfl (by kernel_rfl) (M13B cap l j l[j]) l[j].edges.length Zu ⟨0, rfl, by omega, by omega, by simp⟩ ?_⟩
  rintro m vs h3' ⟨k, rfl, hk, rfl, hr⟩
  refine Zq UK (fun K => ZA4 cap (row ZG l) l.length (j : Nat) none (row encE l[j].edges) l[j].edges.length l[j].name l[j].echo false (k : Nat) _ K) rfl ?_
  refine Zg (fun hkl => ?_) (fun hkg => ?_)
  ·refine ⟨bnd_nat hkl, _, _, _, _, _, by rw [Int.toNat_natCast]; exact Zr (f := encE) (k := 5) JS hkl, _, Znm l[j].edges[k] cap (row ZG l) l.length, Zd (fun hc => out _ _ _ rfl ?_ rfl) (fun hc => ?_)⟩
   ·unfold okPl; rw [hget]; simp only
    have : (l[j].edges.all fun e => XO e cap l.length) = false := QT (p := fun e => XO e cap l.length) hkl (by simpa using hc)
    rw [this, Bool.and_false]
   ·exact ⟨rfl, l[j].edges.length - (k + 1), by omega, k + 1, by rw [Zf (by omega)]; rfl, by omega, rfl, Xo (p := fun e => XO e cap l.length) hkl hr (by simpa using hc)⟩
  simp only [VC]
  rw [if_pos (by kernel_rfl)]
  refine ZR rfl ?_
  refine ⟨rfl, [1, 3, 10], rfl, ?_⟩
  rw [List.take_of_length_le hkg] at hr
  have ho : okPl cap l j = true := by
   unfold okPl; rw [hget]; simp only
   rw [h1, h2, hq, hr, decide_eq_true h3]; rfl
  refine Znf UK (loc := UY.loc 60) 100 [1, 3, 10] ?_
  refine Eq.mpr (ZA5 cap (row ZG l) l.length (j : Nat) false _ _) ?_
  rw [Zf (by omega)]
  exact fun vs2 ht => VD ht rfl rfl rfl (l.length - (j + 1)) (by omega) ⟨j + 1, rfl, by omega, rfl, Xj hp ho⟩
 ·refine Zjq fun vs2 ht => Jh [] ht (by kernel_rfl) rfl rfl rfl ?_
  refine ZB UK (fun K => ZA6 _ K) rfl ?_
  have : i = l.length := by omega
  subst this
  exact Zs (.inr rfl) rfl (.b _) (by simp [Xm, g1, g2, g3, g4, hp])
theorem Zv9 (a : Int) (d : List V) (e : Nat) (h : Heap) (K : KT) : (Zc UY (UY.loc 170) 100 (pre (flat (Za Tryz.f170))) ⟨(V.agg [V.i .i64 a, V.ts d e none] :: List.replicate 59 .undef), [], h⟩ (VQ [1, 2, 10, 26, 27, 28] K)) =
 (∃ (n : Int),
 Zj (h.push (YObj.arr [V.i .i64 a, V.ts d e none] true)) h.nx 0 1 =
 some [V.i .i64 n] ∧
 If (ltI n 1)
 (K .ret 60 [.p (some (h.nx, 0)), .b false, .tup [], .undef, .undef, .undef]
 (h.push (YObj.arr [V.i .i64 a, V.ts d e none] true)))
 (∃ (n : Int),
 Zj (h.push (YObj.arr [V.i .i64 a, V.ts d e none] true)) h.nx 0
 1 =
 some [V.i .i64 n] ∧
 If (ltI 16 n)
 (K .ret 60
 [.p (some (h.nx, 0)), .b false, .i .i64 n, .undef, .undef, .undef]
 (h.push (YObj.arr [V.i .i64 a, V.ts d e none] true)))
 (∃ (cs : List V) (l : Nat) (c : Option Nat), Zj (h.push (YObj.arr [V.i .i64 a, V.ts d e none] true)) h.nx 1
 1 =
 some [V.ts cs l c] ∧
 If (ltI (l : Int) (1 : Int))
 (K .ret 60
 [.p (some (h.nx, 0)), .b false, .i .i64 n, .undef, .undef, .undef]
 (h.push (YObj.arr [V.i .i64 a, V.ts d e none] true)))
 (∃ (cs : List V) (l : Nat) (c : Option Nat), Zj (h.push (YObj.arr [V.i .i64 a, V.ts d e none] true)) h.nx
 1 1 =
 some [V.ts cs l c] ∧
 If (ltI 16 l)
 (K .ret 60
 [.p (some (h.nx, 0)), .b false, .i .i64 n, .undef, .undef,
 .undef]
 (h.push (YObj.arr [V.i .i64 a, V.ts d e none] true)))
 (∃ (cs : List V) (l : Nat) (c : Option Nat), Zj
 (h.push
 (YObj.arr [V.i .i64 a, V.ts d e none] true))
 h.nx 1 1 =
 some [V.ts cs l c] ∧
 K .normal 60
 [.p (some (h.nx, 0)), .b false, .i .i64 n, .ts cs l c,
 .i .i64 (l : Int), .i .i64 0]
 (h.push
 (YObj.arr [V.i .i64 a, V.ts d e none] true))))))) := by kernel_rfl
theorem Zwa (d : Nat) (j : Int) (m : Option Nat) (e : List V) (f : Nat) (g a : Int) (h : Heap) (K : KT) : (Zc UY (UY.loc 170) 100 ((flat (Zv (post (flat (Za Tryz.f170)))))) ⟨mk 60 (([1, 10, 26, 27, 28] : List Nat).zip [V.p (some (d, 0)), V.i .i64 j, V.ts e f m, V.i .i64 g, V.i .i64 a]), [], h⟩ (VQ [1, 2, 10, 26, 27, 28] K)) =
 (If (ltI a g)
 ((0 ≤ a ∧ a < f) ∧
 ∃ (s : List UInt8) (b : Bool) (cs : List V) (l : Nat) (c : Option Nat), Zh 3 (List.drop (a.toNat * 3) e) = some [V.s s, V.b b, V.ts cs l c] ∧
 ∃ (h_1 : Heap),
 ZN
 (h.pushT (UY.tag (109 : Nat))
 (YObj.arr [V.s [], V.b false, V.sl none (0 : Nat) (some (0 : Nat)) (0 : Nat)] true))
 h.nx 0 [V.s s, V.b b, V.ts cs l c] =
 some h_1 ∧
 ∃ (s : List UInt8),
 Zj h_1 h.nx 0 1 = some [V.s s] ∧
 ∃ (b : Bool),
 (PCon UY 204 [V.s s] fun v => v = V.b b) ∧
 If (!b)
 (K .ret 60
 [.p (some (d, 0)), .b false, .i .i64 j, .ts e f m,
 .i .i64 g, .i .i64 a]
 h_1)
 (∃ (s : List UInt8),
 Zj h_1 h.nx 0 1 = some [V.s s] ∧
 ∃ (c : UInt8),
 ((0 : Int) ≤ (0 : Int) ∧ s[Int.toNat (0 : Int)]? = some c) ∧
 If (ltI (↑c.toNat : Int) (97 : Int))
 (K .ret 60
 [.p (some (d, 0)), .b false, .i .i64 j,
 .ts e f m, .i .i64 g, .i .i64 a]
 h_1)
 (∃ (cs : List V) (l : Nat) (c : Option Nat), Zj h_1 h.nx 2 1 = some [V.ts cs l c] ∧
 If (ltI 8 l)
 (K .ret 60
 [.p (some (d, 0)), .b false, .i .i64 j,
 .ts e f m, .i .i64 g, .i .i64 a]
 h_1)
 (∃ (cs : List V) (l : Nat) (c : Option Nat), Zj h_1 d 1 1 = some [V.ts cs l c] ∧
 ((0 : Int) ≤ a ∧ a ≤ (l : Int)) ∧
 Con UY 205
 [V.ts
 (List.take ((a.toNat - (0 : Nat)) * (3 : Nat))
 (List.drop ((0 : Nat) * (3 : Nat)) cs))
 (a.toNat - (0 : Nat))
 (Option.map (fun (x : Nat) => x - (0 : Nat)) c),
 V.fn (Fn.func (206 : Nat)) []
 [V.p (some (h.nx, 0))]]
 h_1 fun (v : V) (h' : Heap) =>
 ∃ (b : Bool),
 v = V.b b ∧
 If b
 (K .ret 60
 [.p (some (d, 0)), .b false,
 .i .i64 j, .ts e f m,
 .i .i64 g, .i .i64 a]
 h')
 (∃ (cs : List V) (l : Nat) (c : Option Nat), Zj h' h.nx 2 1 =
 some [V.ts cs l c] ∧
 Con UY 207
 [V.ts cs l c,
 V.fn (Fn.func (208 : Nat)) []
 [V.p (some (d, 0))]]
 h' fun (v : V) (h' : Heap) =>
 ∃ (b : Bool),
 v = V.b b ∧
 If b
 (K .ret 60
 [.p (some (d, 0)),
 .b false, .i .i64 j,
 .ts e f m,
 .i .i64 g,
 .i .i64 a]
 h')
 (K .normal 60
 [.p (some (d, 0)),
 .undef, .i .i64 j,
 .ts e f m,
 .i .i64 g,
 .i IntKind.i64
 (IntKind.i64.wrap
 (a + (1 : Int)))]
 h'))))))
 (K (.exit 0) 60
 [.p (some (d, 0)), .undef, .i .i64 j, .ts e f m, .i .i64 g,
 .i .i64 a]
 h)) := by kernel_rfl
theorem Zwb (h : Heap) (K : KT) : (Zc UY (UY.loc 170) 100 (((post (flat (Za Tryz.f170))).drop 1)) ⟨mk 60 (([] : List Nat).zip []), [], h⟩ (VQ [2] K)) =
 (K .ret 60 [.b true] h) := by kernel_rfl
theorem Zwc (a : List V) (n0 c : Nat) (h : Heap) (K : KT) : (Zc UY (UY.loc 205) 100 ((flat (Za Tryz.f205))) ⟨(V.ts a n0 none :: V.fn (Fn.func 206) [] [V.p (some (c, 0))] :: List.replicate 7 .undef), [], h⟩ (VQ [4] K)) =
 (Con UY 232 [V.ts a n0 none, V.fn (Fn.func 206) [] [V.p (some (c, 0))]] h
 fun (v : V) (h' : Heap) => ∃ (n : Int), v = V.i .i64 n ∧ K .ret 9 [.b (leI 0 n)] h') := by kernel_rfl
theorem Zwd (a : List V) (n0 b : Nat) (h : Heap) (K : KT) : (Zc UY (UY.loc 232) 100 (pre (flat (Za Tryz.f232))) ⟨(V.ts a n0 none :: V.fn (Fn.func 206) [] [V.p (some (b, 0))] :: List.replicate 17 .undef), [], h⟩ (VQ [0, 1, 7, 8] K)) =
 (K .normal 19
 [.ts a n0 none, .fn (Fn.func 206) [] [.p (some (b, 0))], .i .i64 (n0 : Int),
 .i .i64 0]
 h) := by kernel_rfl
theorem Zwe (a : List V) (n0 d : Nat) (x8 : Int) (h : Heap) (K : KT) : (Zc UY (UY.loc 232) 100 ((flat (Zv (post (flat (Za Tryz.f232)))))) ⟨mk 19 (([0, 1, 7, 8] : List Nat).zip [V.ts a n0 none, V.fn (Fn.func 206) [] [V.p (some (d, 0))], V.i .i64 (n0 : Int), V.i .i64 x8]), [], h⟩ (VQ [0, 1, 4, 7, 8] K)) =
 (If (ltI x8 n0)
 ((0 ≤ x8 ∧ x8 < n0) ∧
 ∃ (s : List UInt8) (b : Bool) (cs : List V) (l : Nat) (c : Option Nat), Zh 3 (List.drop (x8.toNat * 3) a) = some [V.s s, V.b b, V.ts cs l c] ∧
 ∃ (b_1 : Bool),
 RCon UY 206 [V.agg [V.s s, V.b b, V.ts cs l c], V.p (some (d, 0))] h
 (V.b b_1) ∧
 If b_1
 (K .ret 19
 [.ts a n0 none, .fn (Fn.func 206) [] [.p (some (d, 0))],
 .i .i64 x8, .i .i64 (n0 : Int), .i .i64 x8]
 h)
 (K .normal 19
 [.ts a n0 none, .fn (Fn.func 206) [] [.p (some (d, 0))], .undef,
 .i .i64 (n0 : Int), .i .i64 (IntKind.i64.wrap (x8 + (1 : Int)))]
 h))
 (K (.exit 0) 19
 [.ts a n0 none, .fn (Fn.func 206) [] [.p (some (d, 0))], .undef,
 .i .i64 (n0 : Int), .i .i64 x8]
 h)) := by kernel_rfl
theorem Zwf (h : Heap) (K : KT) : (Zc UY (UY.loc 232) 100 (((post (flat (Za Tryz.f232))).drop 1)) ⟨mk 19 (([] : List Nat).zip []), [], h⟩ (VQ [4] K)) =
 (K .ret 19 [.i .i64 (-1)] h) := by kernel_rfl
theorem Zwg (a : List V) (n0 c : Nat) (h : Heap) (K : KT) : (Zc UY (UY.loc 207) 100 ((flat (Za Tryz.f207))) ⟨(V.ts a n0 none :: V.fn (Fn.func 208) [] [V.p (some (c, 0))] :: List.replicate 7 .undef), [], h⟩ (VQ [4] K)) =
 (Con UY 233 [V.ts a n0 none, V.fn (Fn.func 208) [] [V.p (some (c, 0))]] h
 fun (v : V) (h' : Heap) => ∃ (n : Int), v = V.i .i64 n ∧ K .ret 9 [.b (leI 0 n)] h') := by kernel_rfl
theorem Zwh (a : List V) (n0 b : Nat) (h : Heap) (K : KT) : (Zc UY (UY.loc 233) 100 (pre (flat (Za Tryz.f233))) ⟨(V.ts a n0 none :: V.fn (Fn.func 208) [] [V.p (some (b, 0))] :: List.replicate 17 .undef), [], h⟩ (VQ [0, 1, 7, 8] K)) =
 (K .normal 19
 [.ts a n0 none, .fn (Fn.func 208) [] [.p (some (b, 0))], .i .i64 (n0 : Int),
 .i .i64 0]
 h) := by kernel_rfl
theorem Zwi (a : List V) (n0 c : Nat) (x8 : Int) (h : Heap) (K : KT) : (Zc UY (UY.loc 233) 100 ((flat (Zv (post (flat (Za Tryz.f233)))))) ⟨mk 19 (([0, 1, 7, 8] : List Nat).zip [V.ts a n0 none, V.fn (Fn.func 208) [] [V.p (some (c, 0))], V.i .i64 (n0 : Int), V.i .i64 x8]), [], h⟩ (VQ [0, 1, 4, 7, 8] K)) =
 (If (ltI x8 n0)
 ((0 ≤ x8 ∧ x8 < n0) ∧
 ∃ (n : Int) (s : List UInt8) (n_1 n_2 n_3 : Int), Zh 5 (List.drop (x8.toNat * 5) a) =
 some [V.i .i64 n, V.s s, V.i .i64 n_1, V.i .i64 n_2, V.i .i64 n_3] ∧
 Con UY 208
 [V.agg [V.i .i64 n, V.s s, V.i .i64 n_1, V.i .i64 n_2, V.i .i64 n_3],
 V.p (some (c, 0))]
 h fun (v : V) (h' : Heap) =>
 ∃ (b : Bool),
 v = V.b b ∧
 If b
 (K .ret 19
 [.ts a n0 none, .fn (Fn.func 208) [] [.p (some (c, 0))],
 .i .i64 x8, .i .i64 (n0 : Int), .i .i64 x8]
 h')
 (K .normal 19
 [.ts a n0 none, .fn (Fn.func 208) [] [.p (some (c, 0))], .undef,
 .i .i64 (n0 : Int), .i .i64 (IntKind.i64.wrap (x8 + (1 : Int)))]
 h'))
 (K (.exit 0) 19
 [.ts a n0 none, .fn (Fn.func 208) [] [.p (some (c, 0))], .undef,
 .i .i64 (n0 : Int), .i .i64 x8]
 h)) := by kernel_rfl
theorem Zwj (h : Heap) (K : KT) : (Zc UY (UY.loc 233) 100 (((post (flat (Za Tryz.f233))).drop 1)) ⟨mk 19 (([] : List Nat).zip []), [], h⟩ (VQ [4] K)) =
 (K .ret 19 [.i .i64 (-1)] h) := by kernel_rfl
theorem Zwk (a : List UInt8) (d : Bool) (e : List V) (f c : Nat) (h : Heap) (K : KT) : (Zc UY (UY.loc 206) 100 ((flat (Za Tryz.f206))) ⟨(V.agg [V.s a, V.b d, V.ts e f none] :: V.p (some (c, 0)) :: List.replicate 7 .undef), [], h⟩ (VQ [3] K)) =
 (∃ (s : List UInt8), Zj h c 0 1 = some [V.s s] ∧ K .ret 9 [.b (a == s)] h) := by kernel_rfl
theorem Zwl (a : Int) (d : List UInt8) (e f g : Int) (j : Nat) (h : Heap) (K : KT) : (Zc UY (UY.loc 208) 100 ((flat (Za Tryz.f208))) ⟨(V.agg [V.i .i64 a, V.s d, V.i .i64 e, V.i .i64 f, V.i .i64 g] :: V.p (some (j, 0)) :: List.replicate 6 .undef), [], h⟩ (VQ [3] K)) =
 (∃ (n : Int) (cs : List V) (l : Nat) (c : Option Nat), Zj h j 0 2 = some [V.i .i64 n, V.ts cs l c] ∧
 ∃ (b : Bool),
 (PCon UY 209
 [V.agg
 [V.i .i64 a, V.s d, V.i .i64 e, V.i .i64 f,
 V.i .i64 g],
 V.agg [V.i .i64 n, V.ts cs l c]]
 fun v => v = V.b b) ∧
 K .ret 8 [.b !b] h) := by kernel_rfl
end Go.Y
