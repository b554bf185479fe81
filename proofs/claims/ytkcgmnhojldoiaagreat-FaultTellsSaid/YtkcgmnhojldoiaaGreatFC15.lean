/- slices.Grow, slices.Concat at numbers; step.List: by contracts. -/
import Derived.Test.YtkcgmnhojldoiaaGreatFC12
import Derived.Test.YtkcgmnhojldoiaaGreatFT4
import Derived.Test.YtkcgmnhojldoiaaGreatGTree
import Derived.Test.YtkcgmnhojldoiaaGreatYRange
import Derived.Test.YtkcgmnhojldoiaaGreatYTryzP
import Derived.Test.YtkcgmnhojldoiaaGreatYLoop
import Derived.Test.YtkcgmnhojldoiaaGreatGSortK
namespace Go.Y
open Go.Proofs
set_option maxRecDepth 1000000
set_option maxHeartbeats 0
theorem Zg9 {α : Type} : ∀ (A B C : List α), splice (A ++ B) A.length C = A ++ C ++ B.drop C.length
 | [], B, C => by
  simp only [List.nil_append, List.length_nil]
  cases B <;> simp [splice]
 | a :: A, B, C => by
  simp only [List.cons_append, List.length_cons, splice]
  rw [Zg9 A B C, List.append_assoc]
abbrev VJ (n : Nat) : List Int := List.replicate n 0
theorem Zor (n : Nat) : (List.replicate n ([.i .i64 0] : List V)).flatten = row encI (VJ n) := by
 induction n with
 | zero => rfl
 | succ n ih => rw [List.replicate_succ, List.flatten_cons, ih]; rfl
theorem Zuk {h : Heap} (n : Nat) (hn : n < 2 ^ 29) : Qb UY ⟨[], [], h⟩ ⟨1, 8, .int .i64, [.i .i64 0]⟩ 3 (.i .i64 (n : Int)) = some (n, row encI (VJ n)) := by
 have hk : UY.kd 3 = some (.int .i64) := by kernel_rfl
 have hm : most = 1099511627776 := by decide
 simp only [Qb, hk]
 rw [if_pos ⟨by omega, by rw [hm]; omega, by rw [hm, Int.toNat_natCast]; omega⟩, Int.toNat_natCast, Zor]

theorem Zq3 (x : Nat) (hx : x < 2 ^ 29) (h : Heap) : Con UY 134 [.sl none 0 (some 0) 0, .i .i64 (x : Int)] h fun v h' => (x = 0 ∧ v = .sl none 0 (some 0) 0) ∨ ∃ id, v = .sl (some (id, 0)) 0 none 1 ∧ id < h'.nx ∧ h'.get id = some (.arr (row encI (VJ x)) true) := by
 refine ZL UK (fn := Tryz.f134) (by kernel_rfl) (by kernel_rfl) ?_
 refine ZB UK (fun K => Zy7 (x : Nat) h K) rfl ?_
 refine Zw (fun h0 => absurd h0 (by omega)) (fun _ => ?_)
 have e0 : IntKind.i64.wrap (((x : Nat) : Int) - IntKind.i64.wrap (((0 : Nat) : Int) - ((0 : Nat) : Int))) = (x : Int) := by
  rw [show IntKind.i64.wrap (((0 : Nat) : Int) - ((0 : Nat) : Int)) = 0 from by decide, Int.sub_zero]
  exact Xu (by omega) (by omega)
 rw [e0]
 refine Zw (fun h0 => ?_) (fun h0 => ?_)
 ·have hm : most = 1099511627776 := by decide
  refine ⟨none, 0, some 0, 0, by kernel_rfl, h.nx, 0, x, none, 1, h.pushT (UY.tag 3) (.arr (row encI (VJ x)) true), ?_, rfl, ⟨by omega, by simp⟩, finC (.inr rfl) rfl (.now (.inr ⟨h.nx, rfl, by simp, by simp⟩))⟩
  simp only [Zk, ZP, Zaj, ty3, Zuk x hx]
  rw [if_neg (by simp [WJ]), if_neg (by omega), if_pos ⟨by rw [hm]; omega, by rw [hm]; omega⟩]
 ·exact finC (.inr rfl) rfl (.now (.inl ⟨by omega, rfl⟩))

abbrev Zcv (l : List Int) : List V := [lst encI l]
theorem Zha (l : List Int) : (Zcv l).length = 1 := rfl

def GrI (h : Heap) (a : Option (Nat × Nat)) (n : Nat) (c : Option Nat) (k : Nat) (pre : List Int) (total : Nat) : Prop :=
 (total = 0 ∧ a = none ∧ n = 0) ∨ ∃ id, a = some (id, 0) ∧ n = pre.length ∧ c = none ∧ k = 1 ∧ id < h.nx ∧ h.get id = some (.arr (row encI (pre ++ VJ (total - pre.length))) true)
theorem GrI.app {h : Heap} {a : Option (Nat × Nat)} {n : Nat} {c : Option Nat} {k : Nat} {pre : List Int} {total : Nat} (hG : GrI h a n c k pre total) (xs : List Int) (hx : pre.length + xs.length ≤ total) (ht : total < 2 ^ 29) :
  ∃ a' n' c' k' h', Zk UY h 31 31 (.sl a n c k) (lst encI xs) = some (.sl a' n' c' k', h') ∧ GrI h' a' n' c' k' (pre ++ xs) total := by
 have hm : most = 1099511627776 := by decide
 have hs : Qb UY ⟨[], [], h⟩ ⟨1, 8, .int .i64, [.i .i64 0]⟩ 31 (lst encI xs) = some (xs.length, row encI xs) := by
  simp only [lst, Qb, Zaj, elems, Qa, Nat.mul_one, Wq (XC xs).symm, Option.map_some]
 rcases hG with ⟨rfl, rfl, rfl⟩ | ⟨id, rfl, rfl, rfl, rfl, hid, hg⟩
 ·have hx0 : xs = [] := List.eq_nil_of_length_eq_zero (by omega)
  subst hx0
  refine ⟨none, 0, some 0, 1, h, ?_, .inl ⟨rfl, rfl, rfl⟩⟩
  simp only [Zk, ZP, Zaj, ty3, hs]
  rfl
 ·by_cases hx0 : xs = []
  ·subst hx0
   refine ⟨some (id, 0), pre.length, none, 1, h, ?_, .inr ⟨id, rfl, by simp, rfl, rfl, hid, by simpa using hg⟩⟩
   simp only [Zk, ZP, Zaj, ty3, hs]
   rfl
  ·have hpos : 0 < xs.length := List.length_pos_iff.2 hx0
   have h1 : ¬ ((pre.length + xs.length) * 8 > most ∨ pre.length + xs.length > most) := by rw [hm]; omega
   have h2 : 0 + (pre.length + xs.length) * 1 ≤ (row encI (pre ++ VJ (total - pre.length))).length := by rw [XC]; simp; omega
   have h3 : splice (row encI (pre ++ VJ (total - pre.length))) (0 + pre.length * 1) (row encI xs) = row encI ((pre ++ xs) ++ VJ (total - (pre ++ xs).length)) := by
    have e1 : 0 + pre.length * 1 = (row encI pre).length := by rw [XC]; omega
    rw [QE, e1, Zg9, XC, Zg6, ← QE, ← QE]
    congr 2
    simp; omega
   refine ⟨some (id, 0), pre.length + xs.length, none, 1, h.set id (some (.arr (row encI ((pre ++ xs) ++ VJ (total - (pre ++ xs).length))) true)), ?_, .inr ⟨id, rfl, by simp, rfl, rfl, by simpa using hid, by rw [Heap.get_set, if_pos rfl]⟩⟩
   simp only [Zk, ZP, Zaj, ty3, hs, hg]
   rw [if_neg (by simp [WJ]), if_neg (by decide), if_neg (by omega), if_neg h1, if_pos h2, if_pos trivial, h3]

theorem Zlk (ls : List (List Int)) (hl : ls.length < 2 ^ 20) (ht : ls.flatten.length < 2 ^ 29) : PCon UY 89 [lst Zcv ls] (· = lst encI ls.flatten) := by
 refine Zt UK (fn := Tryz.f89) (by kernel_rfl) (by kernel_rfl) rfl ?_
 refine Zp UK 36 (fun K => ZDq (row Zcv ls) ls.length .empty K) rfl (by kernel_rfl) ?_
 have part : ∀ i, (ls.take i).flatten.length ≤ ls.flatten.length := fun i => by
  conv => rhs; rw [← List.take_append_drop i ls]
  rw [List.flatten_append, List.length_append]; omega
 have step : ∀ {i : Nat} (hlt : i < ls.length), (ls.take (i + 1)).flatten = (ls.take i).flatten ++ ls[i] := fun hlt => by
  rw [List.take_succ_eq_append_getElem hlt, List.flatten_append]; simp
 refine ⟨rfl, ZK [0, 3, 9, 10, 11] [0, 3, 9, 10, 11] rfl (by kernel_rfl) (fun m vs _ => ∃ i : Nat, vs = [lst Zcv ls, .i .i64 ((ls.take i).flatten.length : Nat), lst Zcv ls, .i .i64 ls.length, .i .i64 (i : Nat)] ∧ i ≤ ls.length ∧ m = ls.length - i) ls.length Zu ⟨0, rfl, by omega, by omega⟩ ?_⟩
 rintro m vs h ⟨i, rfl, hi, rfl⟩
 refine Zq UK (fun K => ZDr (row Zcv ls) ls.length ((ls.take i).flatten.length : Nat) (i : Nat) h K) rfl ?_
 refine Zg (fun hlt => ?_) (fun hge => ?_)
 ·have e : IntKind.i64.wrap (((ls.take i).flatten.length : Int) + (ls[i].length : Nat)) = ((ls.take (i + 1)).flatten.length : Nat) := by
   have h1 := part (i + 1)
   rw [step hlt, List.length_append] at h1 ⊢
   rw [Xu (by omega) (by omega)]; omega
  refine ⟨bnd_nat hlt, row encI ls[i], ls[i].length, none, by rw [Int.toNat_natCast]; exact Zr (f := Zcv) (k := 1) Zha hlt, ?_⟩
  rw [e]
  refine Zw (fun h0 => absurd h0 (by omega)) (fun _ => ?_)
  exact ⟨rfl, ls.length - (i + 1), by omega, i + 1, by rw [Zf (by omega)]; rfl, by omega, rfl⟩
 ·rw [List.take_of_length_le hge]
  refine Ze [0, 3] (by kernel_rfl) rfl rfl ?_
  refine Zp UK 36 (fun K => ZDs (row Zcv ls) ls.length (ls.flatten.length : Nat) h K) rfl (by kernel_rfl) ?_
  refine (Zq3 ls.flatten.length ht h).mono fun v h' hv => ?_
  have hv : ∃ a n c k, v = .sl a n c k ∧ GrI h' a n c k [] ls.flatten.length := by
   rcases hv with ⟨h1, h2⟩ | ⟨id, h1, h2, h3⟩
   ·exact ⟨none, 0, some 0, 0, h2, .inl ⟨h1, rfl, rfl⟩⟩
   ·exact ⟨some (id, 0), 0, none, 1, h1, .inr ⟨id, rfl, rfl, rfl, rfl, h2, h3⟩⟩
  obtain ⟨a, n, c, k, hv, hG⟩ := hv
  refine ⟨a, n, c, k, hv, rfl, ZK [6, 25, 26, 27] [6, 25, 26, 27] rfl (by kernel_rfl) (fun m vs h => ∃ (j : Nat) (a : Option (Nat × Nat)) (n : Nat) (c : Option Nat) (k : Nat), vs = [.sl a n c k, lst Zcv ls, .i .i64 ls.length, .i .i64 (j : Nat)] ∧ j ≤ ls.length ∧ m = ls.length - j ∧ GrI h a n c k (ls.take j).flatten ls.flatten.length) ls.length Zu ⟨0, a, n, c, k, rfl, by omega, by omega, hG⟩ ?_⟩
  clear hG
  rintro m vs h2 ⟨j, a, n, c, k, rfl, hj, rfl, hG⟩
  refine Zq UK (fun K => ZDt (row Zcv ls) ls.length a n c k (j : Nat) h2 K) rfl ?_
  refine Zg (fun hlt => ?_) (fun hge2 => ?_)
  ·have h1 := part (j + 1)
   rw [step hlt, List.length_append] at h1
   obtain ⟨a', n', c', k', h3, q1, q2⟩ := hG.app ls[j] h1 ht
   exact ⟨bnd_nat hlt, row encI ls[j], ls[j].length, none, by rw [Int.toNat_natCast]; exact Zr (f := Zcv) (k := 1) Zha hlt, a', n', c', k', h3, q1, rfl, ls.length - (j + 1), by omega, j + 1, a', n', c', k', by rw [Zf (by omega)]; rfl, by omega, rfl, by rw [step hlt]; exact q2⟩
  ·refine Ze [6] (by kernel_rfl) rfl rfl ?_
   refine ZB UK (fun K => ZDu a n c k h2 K) rfl ?_
   rw [List.take_of_length_le hge2] at hG
   have hL : Lst encI 1 h2 a n c k ls.flatten := by
    rcases hG with ⟨g1, rfl, rfl⟩ | ⟨id, rfl, rfl, rfl, rfl, g1, g2⟩
    ·rw [List.eq_nil_of_length_eq_zero g1]; exact Lst.nil _ _ _ _ _
    ·rw [Nat.sub_self] at g2
     exact Ze8 g1 (by simpa using g2)
   exact Zs (.inr rfl) rfl (hL.frz (by decide) ZV) rfl
theorem Zj4 (m : Mdl) (c : Cfg) (bm : BdM m) (bc : BdC c) : PCon UY 40 [.agg (mdlC m), .agg (cfgC c)] (· = lst encI (XY m c)) := by
 refine Zz UK (fn := Tryz.f40) (by kernel_rfl) (by kernel_rfl) rfl (fun K => ZC0 (row ZC m.ins) m.ins.length (row ZD m.ws) m.ws.length (row ZF m.ps) m.ps.length m.lat m.mat c.pc (row ZE c.vars) c.vars.length c.c0 c.c1 c.c2 c.c3 c.c4 c.c5 c.c6 c.c7 c.c8 c.c9 (row encI c.stack) c.stack.length c.mode c.err c.use c.tmo c.ela (row encI c.before) c.before.length (row encI c.after) c.after.length (row Zn c.sides) c.sides.length .empty K) rfl ?_
 have h1 := Zok bm c
 have h2 := bc.bf
 have h3 := bc.af
 refine ⟨_, _, _, _, _, _, _, _, _, _, _, _, _, _, _, _, _,  Zn7 m c, Zd (fun hc => ?_) (fun hc => ?_)⟩
 ·have hc : (XE m c).op ≠ 12 := by simpa using hc
  exact Zs (.inr rfl) rfl (.sln _ _ none (fun x hx => by cases hx)) (by unfold XY; rw [if_neg hc]; rfl)
 ·have hc : (XE m c).op = 12 := by simpa using hc
  refine ⟨_, _, _, PCon.wk (.one _ _ _ _ (.inr (.inr ⟨_, _, _, rfl, rfl⟩)) .nil) (Zlk [c.before, (XE m c).list, c.after] (by simp) (by simp; omega)), ?_⟩
  exact Zs (.inr rfl) rfl (Qx _ _ _ _) (by unfold XY; rw [if_pos hc]; simp)
end Go.Y
namespace Go.Y
set_option maxRecDepth 1000000
set_option maxHeartbeats 0
section
variable {Y : YP} {σ : St}

def rngG : List Code → Operand
 | .block _ (.rangeFunc g _ _ _) :: _ => g
 | _ => .tmp 0
def Zzt : List Code → Array Tmp
 | .block _ (.rangeFunc _ ps _ _) :: _ => ps
 | _ => #[]
def Zq4 : List Code → Code
 | .block _ (.rangeFunc _ _ a _) :: _ => a
 | _ => .skip
def Zq5 : List Code → Code
 | .block _ (.rangeFunc _ _ _ b) :: _ => b
 | _ => .skip
def Zos : List Code → Bool
 | .block _ (.rangeFunc _ _ _ _) :: _ :: _ => true
 | _ => false
theorem Zq6 {l : List Code} (h : Zos l = true) : l = .block (Qs l) (.rangeFunc (rngG l) (Zzt l) (Zq4 l) (Zq5 l)) :: l.drop 1 ∧ l.drop 1 ≠ [] := by
 unfold Zos at h
 split at h
 ·exact ⟨rfl, by simp⟩
 ·cases h
def preR : List Code → List Code
 | [] => []
 | c :: r => if Zos (c :: r) then [] else c :: preR r
def Vk : List Code → List Code
 | [] => []
 | c :: r => if Zos (c :: r) then c :: r else Vk r
theorem Zd6 : ∀ l : List Code, preR l ++ Vk l = l
 | [] => rfl
 | c :: r => by
  unfold preR Vk
  split
  ·rfl
  ·rw [List.cons_append, Zd6 r]

abbrev rngL (l : List Code) (env : List V) (loc : Nat → Bool) (st : LoopState) (pend : Option Code) : YLp := ⟨st, pend, env, Zzt l, Zq4 l, Zq5 l, loc⟩

theorem Zhb (hY : YOK Y) {loc : Nat → Bool} {fuel : Nat} (n : Nat) {slots : List Nat} {env' : List V} {h : Heap} {l : List Code} {Q : Out → St → Prop} {T : (KT) → Prop}
  (tree : ∀ K, Zc Y loc fuel (preR l) ⟨env', [], h⟩ (VQ slots K) = T K) (hσ : σ = ⟨env', [], h⟩) (hc : (Vk l).isEmpty = false) (hT : T (PreV Y n slots (Vk l) Q)) : TriL Y l σ Q := by
 have hc : Vk l ≠ [] := fun e => by rw [e] at hc; cases hc
 have h1 : Zc Y loc fuel (preR l) σ (VQ slots (PreV Y n slots (Vk l) Q)) := by rw [hσ, tree]; exact hT
 rw [← Zd6 l]
 refine Vf ((Vx hY _ _ _ _ h1).mono ?_)
 intro o σ' ho
 cases o with
 | normal => exact JC hc ho.1 rfl rfl ho.2
 | exit j => exact ho σ' rfl rfl rfl
 | ret => exact ho σ' rfl rfl rfl

theorem Zd7 (hY : YOK Y) {loc : Nat → Bool} {l : List Code} {env : List V} {h : Heap} {Q : Out → St → Prop} {f : FuncId} {fa fc : List V} (hl : Zos l = true) (hg : ev env (rngG l) = .fn (.func f) fa fc)
  (hc : Con Y f (fa ++ [.yl h.nx] ++ fc) (h.push (.loop (rngL l (env.map V.plain) loc .ready none))) fun _ h2 => ∃ L, h2.get h.nx = some (.loop L) ∧ ¬ L.st = .busy ∧ match L.pend with
   | none => TriL Y (l.drop 1) ⟨env, [], h2.set h.nx none⟩ Q
   | some (.exit i) => if i = Qs l then TriL Y (l.drop 1) ⟨env, [], h2.set h.nx none⟩ Q else Q (.exit i) ⟨env, [], h2.set h.nx none⟩
   | some .ret => Q .ret ⟨env, [], h2.set h.nx none⟩
   | _ => False) : TriL Y l ⟨env, [], h⟩ Q := by
 obtain ⟨e, _⟩ := Zq6 hl
 rw [e]
 refine JB (Zgh hY (loc := loc) hg (hc.mono fun v h2 ⟨L, h3, h4, h5⟩ => ⟨L, h3, h4, ?_⟩))
 cases hp : L.pend with
 | none => rw [hp] at h5; exact h5
 | some c =>
  rw [hp] at h5
  cases c with
  | exit i =>
   simp only at h5 ⊢
   by_cases hi : i = Qs l
   ·rw [if_pos hi] at h5; simp only [hi, if_true]; exact h5
   ·rw [if_neg hi] at h5; simp only [hi, if_false]; exact h5
  | ret => exact h5
  | _ => exact h5.elim

theorem Zot {ro : Option Nat} {n : Nat} {slots : List Nat} {c : Code} {Q : Out → St → Prop} (hn : σ.env.length = n)
  (ht : TriG ro Y c ⟨mk n (slots.zip (slots.map fun i => lv i σ)), [], σ.h⟩ Q) : TriG ro Y c σ Q := by
 have key : ∀ l : List Nat, l.zip (l.map fun i => lv i σ) = l.map fun i => (i, lv i σ) := by
  intro l
  induction l with
  | nil => rfl
  | cons x l ih => simp [ih]
 rw [key] at ht
 intro W a w W0 own0 w0 hr hs
 have hf := hr.fewer (σ2 := ⟨mk n (slots.map fun i => (i, lv i σ)), [], σ.h⟩) rfl (by simp [Zbz, hn]) rfl (fun t v ht => by
  rcases Zr2 ht with rfl | hm
  ·exact .inl rfl
  ·simp only [List.mem_map] at hm
   obtain ⟨i, _, hi⟩ := hm
   cases hi
   simp only [lv, List.getD]
   cases hg : σ.env[t]? with
   | none => left; rfl
   | some x => exact .inr rfl)
 exact ht W a w W0 own0 w0 hf.1 (hs.weaken hf.2)

def RdK (id : Nat) (Q : V → Heap → Prop) (o : Out) (_ : Nat) (_ : List V) (h : Heap) : Prop :=
 ∃ L, h.get id = some (.loop L) ∧ Q (.b o.isN) (h.set id (some (.loop { L with st := if o.isN then .ready else .done, pend := o.jump })))
theorem Zd8 (hY : YOK Y) {loc : Nat → Bool} {fuel n id : Nat} (so1 : List Nat) {so2 : List Nat} {args : List V} {h : Heap} {L : YLp} {Q : V → Heap → Prop} {env1 : List V} {T1 : (KT) → Prop}
  (hg : h.get id = some (.loop L)) (hl : args.length = L.ps.size)
  (tree1 : ∀ K, Zc Y loc fuel [L.assign] ⟨env1, [], h⟩ (VQ so1 K) = T1 K) (he : Zgf L.ps.toList args L.env = env1)
  (hT : T1 fun o len vs h1 => o = .normal ∧ len = n ∧ ∃ L1, h1.get id = some (.loop L1) ∧ L1.st = .ready ∧
   ∃ (env2 : List V) (h2 : Heap) (T2 : (KT) → Prop), (∀ K, Zc Y loc fuel [L.body] ⟨env2, [], h2⟩ (VQ so2 K) = T2 K) ∧ mk n (so1.zip vs) = env2 ∧ h1.set id (some (.loop { L1 with st := .busy })) = h2 ∧ T2 (RdK id Q)) : RdCon Y id args h Q := by
 have one : ∀ {c : Code} {env' : List V} {h' : Heap} {so : List Nat} {K : KT} {T : (KT) → Prop}, (∀ K, Zc Y loc fuel [c] ⟨env', [], h'⟩ (VQ so K) = T K) → T K → ∀ ro, TriG ro Y c ⟨env', [], h'⟩ (VQ so K) := by
  intro c env' h' so K T tree hT ro
  have h1 : TriLG ro Y [c] ⟨env', [], h'⟩ (VQ so K) := Zby hY fuel _ _ _ (by rw [tree]; exact hT)
  exact TriG.mono h1 fun o σ1 ho => by cases o <;> exact ho
 refine Zjh hg hl fun ro => ?_
 rw [he]
 refine TriG.mono (one tree1 hT ro) ?_
 rintro o σ1 ⟨e1, e2, L1, e3, e4, env2, h2, T2, t1, t2, t3, t4⟩
 refine ⟨e1, L1, e3, e4, fun ro2 => ?_⟩
 refine Zot (slots := so1) (n := n) e2 ?_
 have := one t1 t4 ro2
 rw [← t3, ← t2] at this
 exact this.mono fun o2 σ2 ho2 => ho2
end
end Go.Y
namespace Go.Y
open Go.Proofs
set_option maxRecDepth 1000000
set_option maxHeartbeats 0
theorem Zzu (a : List V) (b : Nat) (c : List V) (d : Nat) (e : List V) (n1 : Nat) (x2 : Int) (h : Heap) (K : KT) : (Zc UY (UY.loc 129) 100 (preR (flat (Za Tryz.f129))) ⟨V.agg [V.ts a b none, V.ts c d none] :: V.ts e n1 none :: V.i .i64 x2 :: List.replicate 31 .undef, [], h⟩ (VQ [5, 7, 13] K)) =
 (Con UY 175 [V.agg [V.ts a b none, V.ts c d none], V.ts e n1 none]
 ((h.push
 (YObj.arr
 (ev
 ((V.agg [V.ts a b none, V.ts c d none] ::
 V.ts e n1 none :: V.i .i64 x2 :: List.replicate 31 V.undef).set
 3
 (V.lb
 (ev
 (V.agg [V.ts a b none, V.ts c d none] ::
 V.ts e n1 none :: V.i .i64 x2 :: List.replicate 31 V.undef)
 (Operand.tmp 0)).cells))
 (Operand.tmp 2)).cells
 true)).pushT
 (UY.tag 31) (YObj.arr [V.sl none 0 (some 0) 0] true))
 fun (v : V) (h' : Heap) =>
 ∃ (v_1 : V), v = v_1 ∧ K .normal 34 [.p (some (h.nx, 0)), .p (some (h.nx + 1, 0)), v_1] h') := by kernel_rfl
theorem Zzv (j5 j7 : Nat) (l : V) (k a c d : Int) (e : List UInt8) (f : Int) (g : Bool) (j : Int) (h : Heap) (K : KT) : (Zc UY (UY.loc 129) 100 [Zq4 (Vk (flat (Za Tryz.f129)))] ⟨mk 34 (([5, 7, 13, 14, 15] : List Nat).zip [V.p (some (j5, 0)), V.p (some (j7, 0)), l, V.i .i64 k, V.agg [V.i .i64 a, V.i .i64 c, V.i .i64 d, V.s e, V.i .i64 f, V.b g, V.i .i64 j]]), [], h⟩ (VQ [5, 7, 9] K)) =
 (K .normal 34
 [.p (some (j5, 0)), .p (some (j7, 0)),
 .lb
 [.i .i64 a, .i .i64 c, .i .i64 d, .s e,
 .i .i64 f, .b g, .i .i64 j]]
 h) := by kernel_rfl
theorem Zzw (j5 j7 : Nat) (d e f : Int) (g : List UInt8) (j : Int) (m : Bool) (o : Int) (h : Heap) (K : KT) : (Zc UY (UY.loc 129) 100 [Zq5 (Vk (flat (Za Tryz.f129)))] ⟨mk 34 (([5, 7, 9] : List Nat).zip [V.p (some (j5, 0)), V.p (some (j7, 0)), V.lb [V.i .i64 d, V.i .i64 e, V.i .i64 f, V.s g, V.i .i64 j, V.b m, V.i .i64 o]]), [], h⟩ (VQ [] K)) =
 (∃ (n : Int),
 Zj h j5 0 1 = some [V.i .i64 n] ∧
 ∃ (n_1 : Int),
 (PCon UY 176
 [V.agg
 [V.i .i64 d, V.i .i64 e, V.i .i64 f, V.s g,
 V.i .i64 j, V.b m, V.i .i64 o],
 V.i .i64 n]
 fun v => v = V.i .i64 n_1) ∧
 If (d != 2)
 (If (leI 0 n_1)
 (∃ (a : Option (Nat × Nat)) (l : Nat) (c : Option Nat) (k : Nat), Zj h j7 0 1 = some [V.sl a l c k] ∧
 ∃ (a_1 : Option (Nat × Nat)) (l_1 : Nat) (c_1 : Option Nat) (k_1 : Nat) (h_1 : Heap), Zk UY h 31 31 (V.sl a l c k) (V.ts [V.i .i64 n_1] 1 (some 1)) =
 some (V.sl a_1 l_1 c_1 k_1, h_1) ∧
 ∃ (h : Heap), ZN h_1 j7 0 [V.sl a_1 l_1 c_1 k_1] = some h ∧ K .normal 34 [] h)
 (K .normal 34 [] h))
 (K .normal 34 [] h)) := by kernel_rfl
theorem Zzx (j5 j7 : Nat) (h : Heap) (K : KT) : (Zc UY (UY.loc 129) 100 ((Vk (flat (Za Tryz.f129))).drop 1) ⟨mk 34 (([5, 7] : List Nat).zip [V.p (some (j5, 0)), V.p (some (j7, 0))]), [], h⟩ (VQ [6] K)) =
 (∃ (a : Option (Nat × Nat)) (l : Nat) (c : Option Nat) (k : Nat), Zj h j7 0 1 = some [V.sl a l c k] ∧
 Con UY 177 [V.sl a l c k] h fun (v : V) (h' : Heap) =>
 v = V.tup [] ∧
 ∃ (a : Option (Nat × Nat)) (l : Nat) (c : Option Nat) (k : Nat), Zj h' j7 0 1 = some [V.sl a l c k] ∧
 Con UY 178 [V.sl a l c k] h' fun (v : V) (h' : Heap) =>
 ∃ (a : Option (Nat × Nat)) (l : Nat) (c : Option Nat) (k : Nat), v = V.sl a l c k ∧ K .ret 34 [.sl a l c k] h') := by kernel_rfl
theorem Zzy (a : List V) (d : Nat) (e : List V) (f : Nat) (g : List V) (n1 : Nat) (x2 x3 : Int) (h : Heap) (K : KT) : (Zc UY (UY.loc 131) 100 (preR (flat (Za Tryz.f131))) ⟨V.agg [V.ts a d none, V.ts e f none] :: V.ts g n1 none :: V.i .i64 x2 :: V.i .i64 x3 :: List.replicate 34 .undef, [], h⟩ (VQ [6, 7, 8, 20] K)) =
 (∃ (n : Int),
 Zj
 (((h.push
 (YObj.arr
 (ev
 ((V.agg [V.ts a d none, V.ts e f none] ::
 V.ts g n1 none ::
 V.i .i64 x2 :: V.i .i64 x3 :: List.replicate 34 V.undef).set
 4
 (V.lb
 (ev
 (V.agg [V.ts a d none, V.ts e f none] ::
 V.ts g n1 none ::
 V.i .i64 x2 :: V.i .i64 x3 :: List.replicate 34 V.undef)
 (Operand.tmp 0)).cells))
 (Operand.tmp 2)).cells
 true)).push
 (YObj.arr
 (ev
 (((V.agg [V.ts a d none, V.ts e f none] ::
 V.ts g n1 none ::
 V.i .i64 x2 :: V.i .i64 x3 :: List.replicate 34 V.undef).set
 4
 (V.lb
 (ev
 (V.agg [V.ts a d none, V.ts e f none] ::
 V.ts g n1 none ::
 V.i .i64 x2 :: V.i .i64 x3 :: List.replicate 34 V.undef)
 (Operand.tmp 0)).cells)).set
 6 (V.p (some (h.nx, 0))))
 (Operand.tmp 3)).cells
 true)).pushT
 (UY.tag 4) (YObj.arr [V.b false] true))
 (h.nx + 1) 0 1 =
 some [V.i .i64 n] ∧
 ∃ (cs : List V) (l : Nat) (c : Option Nat), (PCon UY 129
 [V.agg [V.ts a d none, V.ts e f none], V.ts g n1 none,
 V.i .i64 n]
 fun v => v = V.ts cs l c) ∧
 ∃ (n : Int),
 Zj
 (((h.push
 (YObj.arr
 (ev
 ((V.agg [V.ts a d none, V.ts e f none] ::
 V.ts g n1 none ::
 V.i .i64 x2 :: V.i .i64 x3 :: List.replicate 34 V.undef).set
 4
 (V.lb
 (ev
 (V.agg [V.ts a d none, V.ts e f none] ::
 V.ts g n1 none ::
 V.i .i64 x2 :: V.i .i64 x3 :: List.replicate 34 V.undef)
 (Operand.tmp 0)).cells))
 (Operand.tmp 2)).cells
 true)).push
 (YObj.arr
 (ev
 (((V.agg [V.ts a d none, V.ts e f none] ::
 V.ts g n1 none ::
 V.i .i64 x2 :: V.i .i64 x3 :: List.replicate 34 V.undef).set
 4
 (V.lb
 (ev
 (V.agg [V.ts a d none, V.ts e f none] ::
 V.ts g n1 none ::
 V.i .i64 x2 :: V.i .i64 x3 :: List.replicate 34 V.undef)
 (Operand.tmp 0)).cells)).set
 6 (V.p (some (h.nx, 0))))
 (Operand.tmp 3)).cells
 true)).pushT
 (UY.tag 4) (YObj.arr [V.b false] true))
 h.nx 0 1 =
 some [V.i .i64 n] ∧
 ∃ (b : Bool),
 (PCon UY 41 [V.ts cs l c, V.i .i64 n] fun v => v = V.b b) ∧
 If (!b)
 (∃ (h_1 : Heap),
 ZN
 (((h.push
 (YObj.arr
 (ev
 ((V.agg [V.ts a d none, V.ts e f none] ::
 V.ts g n1 none ::
 V.i .i64 x2 ::
 V.i .i64 x3 :: List.replicate 34 V.undef).set
 4
 (V.lb
 (ev
 (V.agg
 [V.ts a d none,
 V.ts e f none] ::
 V.ts g n1 none ::
 V.i .i64 x2 ::
 V.i .i64 x3 :: List.replicate 34 V.undef)
 (Operand.tmp 0)).cells))
 (Operand.tmp 2)).cells
 true)).push
 (YObj.arr
 (ev
 (((V.agg [V.ts a d none, V.ts e f none] ::
 V.ts g n1 none ::
 V.i .i64 x2 ::
 V.i .i64 x3 :: List.replicate 34 V.undef).set
 4
 (V.lb
 (ev
 (V.agg
 [V.ts a d none,
 V.ts e f none] ::
 V.ts g n1 none ::
 V.i .i64 x2 ::
 V.i .i64 x3 :: List.replicate 34 V.undef)
 (Operand.tmp 0)).cells)).set
 6 (V.p (some (h.nx, 0))))
 (Operand.tmp 3)).cells
 true)).pushT
 (UY.tag 4) (YObj.arr [V.b false] true))
 (h.nx + 1 + 1) 0 [V.b false] =
 some h_1 ∧
 K .ret 38
 [.p (some (h.nx, 0)), .p (some (h.nx + 1, 0)), .p (some (h.nx + 1 + 1, 0)), .undef] h_1)
 (Con UY 175
 [V.agg [V.ts a d none, V.ts e f none], V.ts g n1 none]
 (((h.push
 (YObj.arr
 (ev
 ((V.agg [V.ts a d none, V.ts e f none] ::
 V.ts g n1 none ::
 V.i .i64 x2 ::
 V.i .i64 x3 :: List.replicate 34 V.undef).set
 4
 (V.lb
 (ev
 (V.agg [V.ts a d none, V.ts e f none] ::
 V.ts g n1 none ::
 V.i .i64 x2 ::
 V.i .i64 x3 :: List.replicate 34 V.undef)
 (Operand.tmp 0)).cells))
 (Operand.tmp 2)).cells
 true)).push
 (YObj.arr
 (ev
 (((V.agg [V.ts a d none, V.ts e f none] ::
 V.ts g n1 none ::
 V.i .i64 x2 ::
 V.i .i64 x3 :: List.replicate 34 V.undef).set
 4
 (V.lb
 (ev
 (V.agg [V.ts a d none, V.ts e f none] ::
 V.ts g n1 none ::
 V.i .i64 x2 ::
 V.i .i64 x3 :: List.replicate 34 V.undef)
 (Operand.tmp 0)).cells)).set
 6 (V.p (some (h.nx, 0))))
 (Operand.tmp 3)).cells
 true)).pushT
 (UY.tag 4) (YObj.arr [V.b false] true))
 fun (v : V) (h' : Heap) =>
 ∃ (v_1 : V),
 v = v_1 ∧
 K .normal 38
 [.p (some (h.nx, 0)), .p (some (h.nx + 1, 0)), .p (some (h.nx + 1 + 1, 0)), v_1] h')) := by kernel_rfl
theorem Zzz (j6 j7 j8 : Nat) (l : V) (k a c d : Int) (e : List UInt8) (f : Int) (g : Bool) (j : Int) (h : Heap) (K : KT) : (Zc UY (UY.loc 131) 100 [Zq4 (Vk (flat (Za Tryz.f131)))] ⟨mk 38 (([6, 7, 8, 20, 21, 22] : List Nat).zip [V.p (some (j6, 0)), V.p (some (j7, 0)), V.p (some (j8, 0)), l, V.i .i64 k, V.agg [V.i .i64 a, V.i .i64 c, V.i .i64 d, V.s e, V.i .i64 f, V.b g, V.i .i64 j]]), [], h⟩ (VQ [6, 7, 8, 10] K)) =
 (K .normal 38
 [.p (some (j6, 0)), .p (some (j7, 0)), .p (some (j8, 0)),
 .lb
 [.i .i64 a, .i .i64 c, .i .i64 d, .s e,
 .i .i64 f, .b g, .i .i64 j]]
 h) := by kernel_rfl
theorem Zz0 (j6 j7 j8 : Nat) (a c d : Int) (e : List UInt8) (f : Int) (g : Bool) (j : Int) (h : Heap) (K : KT) : (Zc UY (UY.loc 131) 100 [Zq5 (Vk (flat (Za Tryz.f131)))] ⟨mk 38 (([6, 7, 8, 10] : List Nat).zip [V.p (some (j6, 0)), V.p (some (j7, 0)), V.p (some (j8, 0)), V.lb [V.i .i64 a, V.i .i64 c, V.i .i64 d, V.s e, V.i .i64 f, V.b g, V.i .i64 j]]), [], h⟩ (VQ [] K)) =
 (If (a == 4) (∃ (h_1 : Heap), ZN h j8 0 [V.b true] = some h_1 ∧ K .ret 38 [] h_1)
 (If (a == 3)
 (∃ (n : Int),
 Zj h j7 0 1 = some [V.i .i64 n] ∧
 ∃ (n_1 : Int),
 (PCon UY 176
 [V.agg
 [V.i .i64 a, V.i .i64 c, V.i .i64 d, V.s e,
 V.i .i64 f, V.b g, V.i .i64 j],
 V.i .i64 n]
 fun v => v = V.i .i64 n_1) ∧
 ∃ (n : Int),
 Zj h j6 0 1 = some [V.i .i64 n] ∧
 If (n_1 == n) (∃ (h_1 : Heap), ZN h j8 0 [V.b true] = some h_1 ∧ K .ret 38 [] h_1)
 (K .normal 38 [] h))
 (K .normal 38 [] h))) := by kernel_rfl
theorem Zz1 (j6 j7 j8 : Nat) (h : Heap) (K : KT) : (Zc UY (UY.loc 131) 100 ((Vk (flat (Za Tryz.f131))).drop 1) ⟨mk 38 (([6, 7, 8] : List Nat).zip [V.p (some (j6, 0)), V.p (some (j7, 0)), V.p (some (j8, 0))]), [], h⟩ (VQ [8] K)) =
 (∃ (h_1 : Heap), ZN h j8 0 [V.b false] = some h_1 ∧ K .ret 38 [.p (some (j8, 0))] h_1) := by kernel_rfl
theorem ZDv (a : List V) (n0 : Nat) (x1 : Int) (h : Heap) (K : KT) : (Zc UY (UY.loc 90) 100 (pre (flat (Za Tryz.f90))) ⟨(V.ts a n0 none :: V.i .i64 x1 :: List.replicate 17 .undef), [], h⟩ (VQ [0, 1, 7, 8] K)) =
 (K .normal 19 [.ts a n0 none, .i .i64 x1, .i .i64 (n0 : Int), .i .i64 0]
 h) := by kernel_rfl
theorem ZDw (a : List V) (n0 : Nat) (x1 x8 : Int) (h : Heap) (K : KT) : (Zc UY (UY.loc 90) 100 ((flat (Zv (post (flat (Za Tryz.f90)))))) ⟨mk 19 (([0, 1, 7, 8] : List Nat).zip [V.ts a n0 none, V.i .i64 x1, V.i .i64 (n0 : Int), V.i .i64 x8]), [], h⟩ (VQ [0, 1, 4, 7, 8] K)) =
 (If (ltI x8 n0)
 ((0 ≤ x8 ∧ x8 < n0) ∧
 ∃ (n : Int),
 Zh 1 (List.drop (x8.toNat * 1) a) = some [V.i .i64 n] ∧
 If (x1 == n)
 (K .ret 19
 [.ts a n0 none, .i .i64 x1, .i .i64 x8, .i .i64 (n0 : Int), .i .i64 x8]
 h)
 (K .normal 19
 [.ts a n0 none, .i .i64 x1, .undef, .i .i64 (n0 : Int),
 .i .i64 (IntKind.i64.wrap (x8 + (1 : Int)))]
 h))
 (K (.exit 0) 19
 [.ts a n0 none, .i .i64 x1, .undef, .i .i64 (n0 : Int), .i .i64 x8] h)) := by kernel_rfl
theorem ZDx (h : Heap) (K : KT) : (Zc UY (UY.loc 90) 100 (((post (flat (Za Tryz.f90))).drop 1)) ⟨mk 19 (([] : List Nat).zip []), [], h⟩ (VQ [4] K)) =
 (K .ret 19 [.i .i64 (-1)] h) := by kernel_rfl
theorem Zq7 {ws : List Wat} {k : Int} (h : isC ws k = false) : cnt ws k = none := by
 unfold isC at h
 cases hc : cnt ws k with
 | none => rfl
 | some w => rw [hc] at h; cases h
theorem Zq8 {ws : List Wat} {k : Int} (h0 : 0 ≤ k) (h1 : k < ws.length) (k1 : leI 1 (ws[k.toNat]'(by omega)).kind = true) (k2 : leI (ws[k.toNat]'(by omega)).kind 4 = true) : cnt ws k = some (ws[k.toNat]'(by omega)) := by
 unfold cnt; rw [if_neg (by omega), List.getElem?_eq_getElem (by omega)]
 simp only [leI, decide_eq_true_eq] at k1 k2
 simp only
 rw [if_pos ⟨k1, k2⟩]

theorem Zj5 (ins : List Ins) (ws : List Wat) (l : List Int) {h0 : Heap} {id j1 j : Nat} (A : Nat → Heap → Prop) (D : Heap → Prop) (hl : l.length < 2 ^ 28)
  (keep : ∀ i h, A i h → h.get j1 = some (.arr [lst encI l] true) ∧ h.get j = some (.arr (XX ins ws) true))
  (skip : ∀ i h (hi : i < l.length), A i h → cnt ws l[i] = none → A (i + 1) h)
  (step : ∀ i h (hi : i < l.length) w, A i h → cnt ws l[i] = some w → RdCon UY id [.i .i64 l[i], .agg (ZD w)] h fun v h' => (v = .b true ∧ A (i + 1) h') ∨ (v = .b false ∧ D h'))
  (hA0 : A 0 h0) : Con UY 217 [.yl id, .p (some (j1, 0)), .p (some (j, 0))] h0 fun _ h' => A l.length h' ∨ D h' := by
 refine ZL UK (fn := Tryz.f217) (by kernel_rfl) (by kernel_rfl) ?_
 refine Zp UK 43 (fun K => Zy5 id j1 j h0 K) rfl (by kernel_rfl) ?_
 refine ⟨row encI l, l.length, none, (Zo (keep 0 h0 hA0).1 0 1).trans rfl, rfl, Zne [0, 2, 3, 7, 8, 9] [0, 2, 3, 7, 8, 9] rfl (by kernel_rfl) (fun m vs h => ∃ i : Nat, vs = [.yl id, .p (some (j, 0)), .undef, lst encI l, .i .i64 l.length, .i .i64 (i : Nat)] ∧ i ≤ l.length ∧ m = l.length - i ∧ A i h) l.length Zu ⟨0, rfl, by omega, by omega, hA0⟩ ?_⟩
 rintro m vs h ⟨i, rfl, hi, rfl, hA⟩
 refine Zq UK (fun K => Zy6 id j none (row encI l) l.length l.length (i : Nat) h K) rfl ?_
 obtain ⟨_, hcode⟩ := keep i h hA
 refine Zg (fun hlt => ?_) (fun hge => ?_)
 ·have next : ∀ h', A (i + 1) h' → VC 43 [0, 2, 3, 7, 8, 9] [0, 2, 3, 7, 8, 9] (fun m vs h => ∃ i : Nat, vs = [.yl id, .p (some (j, 0)), .undef, lst encI l, .i .i64 l.length, .i .i64 (i : Nat)] ∧ i ≤ l.length ∧ m = l.length - i ∧ A i h) (l.length - i) (Xi (post (flat (Za Tryz.f217)))) (FinS UY Tryz.f217 (AfterZ fun _ h' => A l.length h' ∨ D h')) .normal 43 [.yl id, .p (some (j, 0)), .undef, lst encI l, .i .i64 l.length, .i .i64 (IntKind.i64.wrap ((i : Int) + 1))] h' := fun h' hA' =>
   ⟨rfl, l.length - (i + 1), by omega, i + 1, by rw [Zf (by omega)]; rfl, by omega, rfl, hA'⟩
  have no : isC ws l[i] = false → A (i + 1) h := fun hn => skip i h hlt hA (Zq7 hn)
  refine ⟨bnd_nat hlt, _, Xw l hlt, Zw (fun c0 => next h (no (Zn9 c0))) (fun c0 => ⟨_, _, _, (Zo hcode 1 1).trans rfl, Qz (fun c1 => next h (no (Zoa c1))) (fun c1 => ?_)⟩)⟩
  have hrow : Zh 7 (List.drop (l[i].toNat * 7) (row ZD ws)) = some (ZD (ws[l[i].toNat]'(by omega))) := Zr (f := ZD) (k := 7) QU (l := ws) (i := l[i].toNat) (by omega)
  have hic := Zsb c0 c1
  refine ⟨_, _, _, (Zo hcode 1 1).trans rfl, ⟨c0, c1⟩, _, _, _, _, _, _, _,  hrow, Zd (fun k1 => Zd (fun k2 => ?_) (fun k2 => next h (no (by rw [hic, k2]; simp)))) (fun k1 => next h (no (by rw [hic, k1]; rfl)))⟩
  refine (step i h hlt _ hA (Zq8 c0 c1 k1 k2)).mono fun v h' hv => ?_
  rcases hv with ⟨rfl, hA'⟩ | ⟨rfl, hD⟩
  ·exact ⟨true, rfl, Zd (fun hb => by cases hb) (fun _ => next h' hA')⟩
  ·exact ⟨false, rfl, Zd (fun _ => Zl (.inr rfl) (v := .tup []) rfl (.now (.inr hD))) (fun hb => by cases hb)⟩
 ·have he : i = l.length := by omega
  rw [he] at hA
  simp only [VC]
  rw [if_pos (by kernel_rfl)]
  exact Zl (.inl rfl) (v := .tup []) rfl (.now (.inl hA))

theorem Zou (ins : List Ins) (ws : List Wat) (l : List Int) (h : Heap) : Con UY 175 [.agg (XX ins ws), lst encI l] h fun v h' => v = .fn (.func 217) [] [.p (some (h.nx + 1, 0)), .p (some (h.nx, 0))] ∧ h' = (h.push (.arr (XX ins ws) true)).push (.arr [lst encI l] true) := by
 refine ZL UK (fn := Tryz.f175) (by kernel_rfl) (by kernel_rfl) ?_
 refine ZB UK (fun K => Zzs (row ZC ins) ins.length (row ZD ws) ws.length (row encI l) l.length h K) rfl ?_
 exact finC (.inr rfl) rfl (.now ⟨rfl, rfl⟩)
end Go.Y
