/- actor.Presses and actor.Later, by contracts. -/
import Derived.Test.YtkcgmnhojldoiaaGreatGGreedy
import Derived.Test.YtkcgmnhojldoiaaGreatGTree
import Derived.Test.YtkcgmnhojldoiaaGreatGPeer55
import Derived.Test.YtkcgmnhojldoiaaGreatYTryzP
import Derived.Test.YtkcgmnhojldoiaaGreatYLoop
namespace Go.Y
open Go.Proofs
set_option maxRecDepth 1000000
set_option maxHeartbeats 0
/-! ### an edge that presses -/
theorem Zt0 (s : Side) (cap : Int) (l : List Plc) (e : Edge) {h : Heap} {id1 id2 : Nat} (h1 : h.get id1 = some (.arr (Zn s) true)) (h2 : h.get id2 = some (.arr (Xp cap l) true)) :
  Con UY 222 [.agg (encE e), .p (some (id1, 0)), .p (some (id2, 0))] h fun v h' => v = .b (XW s cap e) ∧ h' = h := by
 refine ZL UK (fn := Tryz.f222) (by kernel_rfl) (by kernel_rfl) (Zm UK (loc := UY.loc 222) 100 [4] ?_)
 refine Eq.mpr (Zym e.kind e.text e.lo e.hi e.to id1 id2 h _) ?_
 have fin : ∀ x : Bool, x = XW s cap e → Fin UY Tryz.f222 [4] (AfterZ fun v h' => v = .b (XW s cap e) ∧ h' = h) .ret 31 [.b x] h := fun x hx => finC (.inr rfl) rfl (.now ⟨by rw [hx]; rfl, rfl⟩)
 have hc : Zj h id1 4 1 = some [.i .i64 s.clock] := by rw [Zo h1]; rfl
 refine Zd (fun k3 => ⟨s.clock, hc, fin _ ?_⟩) (fun k3 => Zd (fun k1 => ?_) (fun k1 => fin _ ?_))
 ·unfold XW; rw [k3]; rfl
 ·refine ⟨s.on, s.shut, s.eof, s.place, s.clock, s.typed, row encT s.lines, s.lines.length, none, s.fly, row encI s.ages, s.ages.length, none, s.ready, s.buffer, by rw [Zo h1]; rfl, cap, row ZG l, l.length, none, by rw [Zo h2]; rfl, _, Zbc s cap (row ZG l) l.length, Zd (fun h3 => ⟨s.clock, hc, fin _ ?_⟩) (fun h3 => fin _ ?_)⟩
  ·unfold XW; rw [k3, k1, h3]; rfl
  ·unfold XW; rw [k3, k1, h3]; rfl
 ·unfold XW; rw [k3, k1]; rfl
theorem Zqq (s : Side) (cap : Int) (l : List Plc) (e : Edge) {h : Heap} {id1 id2 : Nat} (h1 : h.get id1 = some (.arr (Zn s) true)) (h2 : h.get id2 = some (.arr (Xp cap l) true)) :
  RCon UY 222 [.agg (encE e), .p (some (id1, 0)), .p (some (id2, 0))] h (.b (XW s cap e)) :=
 ⟨h, Zt0 s cap l e h1 h2, fun _ _ => rfl, fun _ hp => hp⟩

theorem Zt1 (es : List Edge) (s : Side) (cap : Int) (l : List Plc) {h : Heap} {id1 id2 : Nat} (h1 : h.get id1 = some (.arr (Zn s) true)) (h2 : h.get id2 = some (.arr (Xp cap l) true)) (hl : es.length < 2 ^ 30) :
  Con UY 233 [lst encE es, .fn (.func 222) [] [.p (some (id1, 0)), .p (some (id2, 0))]] h fun v h' => ∃ n : Int, v = .i .i64 n ∧ leI 0 n = es.any (XW s cap) ∧ h' = h := by
 refine ZL UK (fn := Tryz.f233) (by kernel_rfl) (by kernel_rfl) ?_
 refine Zp UK 19 (fun K => Ztx (row encE es) es.length id1 id2 h K) rfl (by kernel_rfl) ?_
 refine ⟨rfl, ZK [0, 1, 7, 8] [0, 1, 4, 7, 8] rfl (by kernel_rfl) (fun m vs h' => ∃ i : Nat, vs = [lst encE es, .fn (.func 222) [] [.p (some (id1, 0)), .p (some (id2, 0))], .i .i64 es.length, .i .i64 (i : Nat)] ∧ i ≤ es.length ∧ (es.take i).any (XW s cap) = false ∧ m = es.length - i ∧ h' = h) es.length Zu ⟨0, rfl, by omega, by simp, by omega, rfl⟩ ?_⟩
 rintro m vs h' ⟨i, rfl, hi, hno, rfl, rfl⟩
 refine Zq UK (fun K => Zty (row encE es) es.length id1 id2 (i : Nat) h' K) rfl ?_
 refine Zg (fun hlt => ?_) (fun hge => ?_)
 ·refine ⟨bnd_nat hlt, _, _, _, _, _, by rw [Int.toNat_natCast]; exact Zr (f := encE) (k := 5) JS hlt, _, Zqq s cap l es[i] h1 h2, Zd (fun hc => ?_) (fun hc => ?_)⟩
  ·refine Zl (.inr rfl) rfl (.now ⟨(i : Nat), rfl, ?_, rfl⟩)
   have : es.any (XW s cap) = true := List.any_eq_true.2 ⟨es[i], List.getElem_mem hlt, hc⟩
   rw [this]; simp [leI]
  ·refine ⟨rfl, es.length - (i + 1), by omega, i + 1, ?_, by omega, ?_, rfl, rfl⟩
   ·rw [Zf (by omega)]; rfl
   ·rw [List.take_succ_eq_append_getElem hlt, List.any_append, hno]; simp only [List.any_cons, List.any_nil, hc, Bool.or_false]
 ·refine Ze [] (by kernel_rfl) rfl rfl ?_
  refine ZB UK (fun K => Ztz h' K) rfl ?_
  rw [List.take_of_length_le hge] at hno
  exact finC (.inr rfl) rfl (.now ⟨-1, rfl, by rw [hno]; rfl, rfl⟩)
theorem Zla (es : List Edge) (s : Side) (cap : Int) (l : List Plc) {h : Heap} {id1 id2 : Nat} (h1 : h.get id1 = some (.arr (Zn s) true)) (h2 : h.get id2 = some (.arr (Xp cap l) true)) (hl : es.length < 2 ^ 30) :
  Con UY 207 [lst encE es, .fn (.func 222) [] [.p (some (id1, 0)), .p (some (id2, 0))]] h fun v h' => v = .b (es.any (XW s cap)) ∧ h' = h := by
 refine ZL UK (fn := Tryz.f207) (by kernel_rfl) (by kernel_rfl) (Zm UK (loc := UY.loc 207) 100 [4] ?_)
 refine Eq.mpr (Ztw (row encE es) es.length id1 id2 h _) ?_
 refine (Zt1 es s cap l h1 h2 hl).mono fun v h' ⟨n, e1, e2, e3⟩ => ⟨n, e1, ?_⟩
 subst e3
 rw [e2]
 exact finC (.inr rfl) rfl (.now ⟨rfl, rfl⟩)

/-! ### Presses, Later -/
theorem Zlb (s : Side) (cap : Int) {l : List Plc} (hb : ∀ x ∈ l, x.edges.length < 2 ^ 20) : (ZA s cap l).length < 2 ^ 30 := by
 unfold ZA
 split
 ·split
  ·rename_i x hx; have := hb x (List.mem_of_getElem? hx); omega
  ·decide
 ·decide
theorem Zlc (s : Side) (cap : Int) (l : List Plc) (b : BdS s) (hb : ∀ x ∈ l, x.edges.length < 2 ^ 20) : PCon UY 182 [.agg (Zn s), .agg (Xp cap l)] (· = .b (Zau s cap l)) := by
 refine Zz UK (fn := Tryz.f182) (by kernel_rfl) (by kernel_rfl) rfl (fun K => Zyl s.on s.shut s.eof s.place s.clock s.typed (row encT s.lines) s.lines.length s.fly (row encI s.ages) s.ages.length s.ready s.buffer cap (row ZG l) l.length .empty K) rfl ?_
 have g1 : ((Heap.empty.push (.arr (Zn s) true)).push (.arr (Xp cap l) true)).get Heap.empty.nx = some (.arr (Zn s) true) := by simp [Heap.empty]
 have g2 : ((Heap.empty.push (.arr (Zn s) true)).push (.arr (Xp cap l) true)).get (Heap.empty.nx + 1) = some (.arr (Xp cap l) true) := by simp [Heap.empty]
 refine ⟨s.on, s.shut, s.eof, s.place, s.clock, s.typed, row encT s.lines, s.lines.length, none, s.fly, row encI s.ages, s.ages.length, none, s.ready, s.buffer, by rw [Zo g1]; rfl, cap, row ZG l, l.length, none, by rw [Zo g2]; rfl, row encE (ZA s cap l), (ZA s cap l).length, none, Zgv s cap l b, ?_⟩
 refine (Zla (ZA s cap l) s cap l g1 g2 (Zlb s cap hb)).mono fun v h' ⟨e1, e2⟩ => ⟨_, e1, ?_⟩
 exact Zs (.inr rfl) rfl (.b _) rfl
end Go.Y
namespace Go.Y
set_option maxRecDepth 1000000
set_option maxHeartbeats 0
def Wb (l : List Int) : Prop := l.Pairwise (· < ·)

def putS : List Int → Int → List Int
 | [], n => [n]
 | a :: l, n => if a < n then a :: putS l n else if a = n then a :: l else n :: a :: l
def allS (l more : List Int) : List Int := more.foldl putS l

theorem Ze9 {x n : Int} : ∀ {l : List Int}, x ∈ putS l n ↔ x = n ∨ x ∈ l
 | [] => by simp [putS]
 | a :: l => by
  unfold putS
  split
  ·rw [List.mem_cons, Ze9, List.mem_cons]; grind
  ·split
   ·rename_i h; subst h; simp
   ·simp
theorem Zcj {n : Int} : ∀ {l : List Int}, Wb l → Wb (putS l n)
 | [], _ => by simp [putS, Wb]
 | a :: l, h => by
  obtain ⟨h1, h2⟩ := List.pairwise_cons.1 h
  unfold putS
  split
  ·rename_i hlt
   refine List.pairwise_cons.2 ⟨fun x hx => ?_, Zcj h2⟩
   rcases Ze9.1 hx with rfl | hx
   ·exact hlt
   ·exact h1 x hx
  ·split
   ·exact h
   ·rename_i h3 h4
    refine List.pairwise_cons.2 ⟨fun x hx => ?_, h⟩
    rcases List.mem_cons.1 hx with rfl | hx
    ·omega
    ·have := h1 x hx; omega
theorem Zfa {x : Int} : ∀ {more l : List Int}, x ∈ allS l more ↔ x ∈ l ∨ x ∈ more
 | [], l => by simp [allS]
 | n :: r, l => by
  have h : allS l (n :: r) = allS (putS l n) r := rfl
  rw [h, Zfa, Ze9, List.mem_cons]; grind
theorem Zck : ∀ {more l : List Int}, Wb l → Wb (allS l more)
 | [], l, h => h
 | n :: r, l, h => by
  have e : allS l (n :: r) = allS (putS l n) r := rfl
  rw [e]; exact Zck (Zcj h)

theorem Zdt : ∀ {a b : List Int}, Wb a → Wb b → (∀ x, x ∈ a ↔ x ∈ b) → a = b
 | [], [], _, _, _ => rfl
 | [], y :: b, _, _, h => by have := (h y).2 (by simp); cases this
 | x :: a, [], _, _, h => by have := (h x).1 (by simp); cases this
 | x :: a, y :: b, ha, hb, h => by
  obtain ⟨a1, a2⟩ := List.pairwise_cons.1 ha
  obtain ⟨b1, b2⟩ := List.pairwise_cons.1 hb
  have hxy : x = y := by
   have h1 : x ∈ y :: b := (h x).1 (by simp)
   have h2 : y ∈ x :: a := (h y).2 (by simp)
   rcases List.mem_cons.1 h1 with h1 | h1
   ·exact h1
   ·rcases List.mem_cons.1 h2 with h2 | h2
    ·exact h2.symm
    ·have := b1 x h1; have := a1 y h2; omega
  subst hxy
  rw [Zdt a2 b2 fun z => ?_]
  constructor
  ·intro hz
   rcases List.mem_cons.1 ((h z).1 (List.mem_cons_of_mem _ hz)) with e | e
   ·subst e; have := a1 z hz; omega
   ·exact e
  ·intro hz
   rcases List.mem_cons.1 ((h z).2 (List.mem_cons_of_mem _ hz)) with e | e
   ·subst e; have := b1 z hz; omega
   ·exact e

def ZZ : List Int → List Int
 | [] => []
 | [a] => [a]
 | a :: b :: l => if a = b then ZZ (b :: l) else a :: ZZ (b :: l)
theorem WL {x : Int} : ∀ {l : List Int}, x ∈ ZZ l ↔ x ∈ l
 | [] => by simp [ZZ]
 | [a] => by simp [ZZ]
 | a :: b :: l => by
  unfold ZZ
  split
  ·rename_i h; subst h; rw [WL]; simp
  ·rw [List.mem_cons, WL, List.mem_cons (a := x) (b := a)]
theorem JU : ∀ {l : List Int}, l.Pairwise (· ≤ ·) → Wb (ZZ l)
 | [], _ => by simp [ZZ, Wb]
 | [a], _ => by simp [ZZ, Wb]
 | a :: b :: l, h => by
  obtain ⟨h1, h2⟩ := List.pairwise_cons.1 h
  unfold ZZ
  split
  ·exact JU h2
  ·rename_i hne
   refine List.pairwise_cons.2 ⟨fun x hx => ?_, JU h2⟩
   have hx := WL.1 hx
   have ha := h1 b (by simp)
   rcases List.mem_cons.1 hx with rfl | hx
   ·omega
   ·have := (List.pairwise_cons.1 h2).1 x hx
    omega
theorem Zld {zs s : List Int} (hs : s.Pairwise (· ≤ ·)) (hm : ∀ x, x ∈ s ↔ x ∈ zs) : ZZ s = allS [] zs :=
 Zdt (JU hs) (Zck (by simp [Wb])) fun x => by rw [WL, hm, Zfa]; simp
structure Cfg where
 pc : Int
 vars : List (List UInt8 × List UInt8)
 c0 : List UInt8
 c1 : List UInt8
 c2 : List UInt8
 c3 : List UInt8
 c4 : List UInt8
 c5 : List UInt8
 c6 : List UInt8
 c7 : List UInt8
 c8 : List UInt8
 c9 : List UInt8
 stack : List Int
 mode : Int
 err : Int
 use : Int
 tmo : Int
 ela : Int
 before : List Int
 after : List Int
 sides : List Side
structure Mdl where
 ins : List Ins
 ws : List Wat
 ps : List (Int × List Plc)
 lat : Int
 mat : Int
abbrev mdlC (m : Mdl) : List V := modC m.ins m.ws m.ps m.lat m.mat
abbrev cfgC (c : Cfg) : List V := [.i .i64 c.pc, lst ZE c.vars, .s c.c0, .s c.c1, .s c.c2, .s c.c3, .s c.c4, .s c.c5, .s c.c6, .s c.c7, .s c.c8, .s c.c9, lst encI c.stack, .i .i64 c.mode, .i .i64 c.err, .i .i64 c.use, .i .i64 c.tmo, .i .i64 c.ela, lst encI c.before, lst encI c.after, lst Zn c.sides]

def ins0 : Ins := ⟨0, 0, [], 0, [], 0, 0, [], [], [], []⟩
def XE (m : Mdl) (c : Cfg) : Ins := if c.pc < 0 then ins0 else (m.ins[c.pc.toNat]?).getD ins0
def XY (m : Mdl) (c : Cfg) : List Int := if (XE m c).op = 12 then c.before ++ (XE m c).list ++ c.after else []

def cnt (ws : List Wat) (k : Int) : Option Wat :=
 if k < 0 then none else match ws[k.toNat]? with
  | some w => if 1 ≤ w.kind ∧ w.kind ≤ 4 then some w else none
  | none => none
def ofS (w : Wat) (use : Int) : Int := if w.peer < 0 then use else w.peer
def WO (use : Int) (w : Wat) : Option Int := if w.kind = 2 ∨ ofS w use < 0 then none else some (ofS w use)
def Xq (ws : List Wat) (list : List Int) (use : Int) : List Int := (list.filterMap (cnt ws)).filterMap (WO use)
def JG (ws : List Wat) (list : List Int) (use : Int) : List Int := allS [] (Xq ws list use)
def QY (use p : Int) (w : Wat) : Bool := w.kind == 4 || w.kind == 3 && ofS w use == p
def Zav (ws : List Wat) (list : List Int) (p use : Int) : Bool := (JG ws list use).contains p && (list.filterMap (cnt ws)).any (QY use p)

def JV (s : Side) (m : Int) : Int := if m ≤ s.buffer.length then 0 else min (s.ready.length : Int) (m - s.buffer.length)
def Zle (s : Side) : Bool := s.on && s.shut && s.fly == [] && s.ready == [] && !s.eof
def XA (c : Cfg) (p : Int) : Side := (c.sides[p.toNat]?).getD XM
def Xd (m : Mdl) (c : Cfg) : List Int := JG m.ws (XY m c) c.use
def VH (m : Mdl) (c : Cfg) (p : Int) : Bool := leI m.mat (XA c p).buffer.length
def Zcl (m : Mdl) (c : Cfg) (p : Int) : Bool := (XA c p).eof && !Zav m.ws (XY m c) p c.use
def Zag (m : Mdl) (c : Cfg) (p : Int) : Bool := ltI 0 (JV (XA c p) m.mat) || Zle (XA c p)
def Xl (about : List Int) (n : Nat) (so : Int → Bool) : Int := match about.find? (fun p => ltI p n && so p) with
 | some p => p
 | none => -1
def Jk (m : Mdl) (c : Cfg) (i : Nat) : Bool := match c.sides[i]?, m.ps[i]? with
 | some s, some p => !(s.fly == []) || ltI 0 (Zk7 s p.1 p.2).length || Zau s p.1 p.2
 | _, _ => false
def ZFh (m : Mdl) (c : Cfg) : Bool := ltI c.tmo 0 && ltI (Xl (Xd m c) c.sides.length (Zag m c)) 0 && !(List.range c.sides.length).any (Jk m c)
end Go.Y
namespace Go.Y
open Go.Proofs
set_option maxRecDepth 1000000
set_option maxHeartbeats 0
theorem ZB4 (a c d : Bool) (g j : Int) (l : List UInt8) (m : List V) (n : Nat) (e : List UInt8) (o : List V) (p : Nat) (f q : List UInt8) (h : Heap) (K : KT) : (Zc UY (UY.loc 36) 100 ((flat (Za Tryz.f36))) ⟨(V.agg (vSD a c d g j l m n none e o p none f q) :: List.replicate 23 .undef), [], h⟩ (VQ [2] K)) =
 (If a
 (If c
 (If (e == ([] : List UInt8))
 (If (f == ([] : List UInt8)) (K .ret 24 [.b !d] h) (K .ret 24 [.b false] h))
 (K .ret 24 [.b false] h))
 (K .ret 24 [.b false] h))
 (K .ret 24 [.b false] h)) := by kernel_rfl
theorem Zyn (a c d : Bool) (g j : Int) (l : List UInt8) (m : List V) (n : Nat) (e : List UInt8) (o : List V) (p : Nat) (f q : List UInt8) (h : Heap) (K : KT) : (Zc UY (UY.loc 180) 100 ((flat (Za Tryz.f180))) ⟨(V.agg (vSD a c d g j l m n none e o p none f q) :: List.replicate 23 .undef), [], h⟩ (VQ [2] K)) =
 (If a
 (If c
 (If (e == ([] : List UInt8))
 (If (f == ([] : List UInt8)) (K .ret 24 [.b !d] h) (K .ret 24 [.b false] h))
 (K .ret 24 [.b false] h))
 (K .ret 24 [.b false] h))
 (K .ret 24 [.b false] h)) := by kernel_rfl
theorem Zyo (c d e : Bool) (f g : Int) (j : List UInt8) (l : List V) (m : Nat) (n : List UInt8) (o : List V) (p : Nat) (q a : List UInt8) (x1 : Int) (h : Heap) (K : KT) : (Zc UY (UY.loc 130) 100 ((flat (Za Tryz.f130))) ⟨(V.agg (vSD c d e f g j l m none n o p none q a) :: V.i .i64 x1 :: List.replicate 8 .undef), [], h⟩ (VQ [4] K)) =
 (K .ret 10 [.b (leI x1 (↑a.length : Int))] h) := by kernel_rfl
theorem Zyp (d e f : Bool) (g j : Int) (l : List UInt8) (m : List V) (n : Nat) (o : List UInt8) (p : List V) (q : Nat) (c a : List UInt8) (x1 : Int) (h : Heap) (K : KT) : (Zc UY (UY.loc 179) 100 ((flat (Za Tryz.f179))) ⟨(V.agg (vSD d e f g j l m n none o p q none c a) :: V.i .i64 x1 :: List.replicate 17 .undef), [], h⟩ (VQ [4] K)) =
 (If (leI x1 (↑a.length : Int)) (K .ret 19 [.i .i64 0] h)
 (K .ret 19
 [.i IntKind.i64
 ((fun (x y : Int) => if y < x then y else x) (↑c.length : Int)
 (IntKind.i64.wrap (x1 - (↑a.length : Int))))]
 h)) := by kernel_rfl
theorem ZB5 (a c d : Bool) (e f : Int) (g : List UInt8) (j : List V) (l : Nat) (m : List UInt8) (n : List V) (o : Nat) (p q : List UInt8) (x1 : Int) (h : Heap) (K : KT) : (Zc UY (UY.loc 80) 100 (pre (flat (Za Tryz.f80))) ⟨(V.agg (vSD a c d e f g j l none m n o none p q) :: V.i .i64 x1 :: List.replicate 26 .undef), [], h⟩ (VQ [1, 2, 5] K)) =
 (K .normal 28
 [.i .i64 x1,
 .lb
 (vSD a c d e f g j l none m n o none p q),
 .i .i64 0]
 h) := by kernel_rfl
theorem ZB6 (d e f : Bool) (g j : Int) (l : List UInt8) (m : List V) (n : Nat) (o : List UInt8) (p : List V) (q : Nat) (a c : List UInt8) (x1 x5 : Int) (h : Heap) (K : KT) : (Zc UY (UY.loc 80) 100 ((flat (Zv (post (flat (Za Tryz.f80)))))) ⟨mk 28 (([1, 2, 5] : List Nat).zip [V.i .i64 x1, V.lb (vSD d e f g j l m n none o p q none a c), V.i .i64 x5]), [], h⟩ (VQ [1, 2, 5] K)) =
 (If (ltI x5 (↑a.length : Int))
 (If (ltI x5 x1)
 (If (ltI (↑c.length : Int) (IntKind.i64.wrap (x1 - x5)))
 (K .normal 28
 [.i .i64 x1,
 .lb
 (vSD d e f g j l m n none o p q none a c),
 .i .i64 (IntKind.i64.wrap (x5 + (1 : Int)))]
 h)
 (K (.exit 0) 28
 [.i .i64 x1,
 .lb
 (vSD d e f g j l m n none o p q none a c),
 .i .i64 x5]
 h))
 (K (.exit 0) 28
 [.i .i64 x1,
 .lb
 (vSD d e f g j l m n none o p q none a c),
 .i .i64 x5]
 h))
 (K (.exit 0) 28
 [.i .i64 x1,
 .lb
 (vSD d e f g j l m n none o p q none a c),
 .i .i64 x5]
 h)) := by kernel_rfl
theorem ZB7 (x5 : Int) (h : Heap) (K : KT) : (Zc UY (UY.loc 80) 100 (((post (flat (Za Tryz.f80))).drop 1)) ⟨mk 28 (([5] : List Nat).zip [V.i .i64 x5]), [], h⟩ (VQ [4] K)) =
 (K .ret 28 [.i .i64 x5] h) := by kernel_rfl
theorem ZB8 (c a d : Int) (e : List UInt8) (f : Int) (g : Bool) (j x1 : Int) (h : Heap) (K : KT) : (Zc UY (UY.loc 91) 100 ((flat (Za Tryz.f91))) ⟨(V.agg [V.i .i64 c, V.i .i64 a, V.i .i64 d, V.s e, V.i .i64 f, V.b g, V.i .i64 j] :: V.i .i64 x1 :: List.replicate 9 .undef), [], h⟩ (VQ [4] K)) =
 (If (ltI a 0) (K .ret 11 [.i .i64 x1] h)
 (K .ret 11 [.i .i64 a] h)) := by kernel_rfl
theorem Zyq (c a d : Int) (e : List UInt8) (f : Int) (g : Bool) (j x1 : Int) (h : Heap) (K : KT) : (Zc UY (UY.loc 176) 100 ((flat (Za Tryz.f176))) ⟨(V.agg [V.i .i64 c, V.i .i64 a, V.i .i64 d, V.s e, V.i .i64 f, V.b g, V.i .i64 j] :: V.i .i64 x1 :: List.replicate 9 .undef), [], h⟩ (VQ [4] K)) =
 (If (ltI a 0) (K .ret 11 [.i .i64 x1] h)
 (K .ret 11 [.i .i64 a] h)) := by kernel_rfl
theorem Zyr (s0 : List UInt8) (h : Heap) (K : KT) : (Zc UY (UY.loc 107) 100 ((flat (Za Tryz.f107))) ⟨(V.s s0 :: List.replicate 9 .undef), [], h⟩ (VQ [2] K)) =
 (∃ (b : Bool),
 (PCon UY 95 [V.s s0] fun v => v = V.b b) ∧
 If b
 (∃ (c : UInt8),
 ((0 : Int) ≤ (0 : Int) ∧ s0[Int.toNat (0 : Int)]? = some c) ∧
 K .ret 10 [.b (leI 97 (↑c.toNat : Int))] h)
 (K .ret 10 [.b false] h)) := by kernel_rfl
theorem Zys (s0 : List UInt8) (h : Heap) (K : KT) : (Zc UY (UY.loc 215) 100 ((flat (Za Tryz.f215))) ⟨(V.s s0 :: List.replicate 9 .undef), [], h⟩ (VQ [2] K)) =
 (∃ (b : Bool),
 (PCon UY 204 [V.s s0] fun v => v = V.b b) ∧
 If b
 (∃ (c : UInt8),
 ((0 : Int) ≤ (0 : Int) ∧ s0[Int.toNat (0 : Int)]? = some c) ∧
 K .ret 10 [.b (leI 97 (↑c.toNat : Int))] h)
 (K .ret 10 [.b false] h)) := by kernel_rfl
theorem Zyt (a c d : Bool) (e f : Int) (g : List UInt8) (j : List V) (l : Nat) (m : List UInt8) (n : List V) (o : Nat) (p q : List UInt8) (r : Int) (t : List V) (u : Nat) (h : Heap) (K : KT) : (Zc UY (UY.loc 122) 100 ((flat (Za Tryz.f122))) ⟨(V.agg (vSD a c d e f g j l none m n o none p q) :: V.agg [V.i .i64 r, V.ts t u none] :: List.replicate 15 .undef), [], h⟩ (VQ [4] K)) =
 (∃ (b : Bool),
 (PCon UY 62
 [V.agg
 (vSD a c d e f g j l none m n o none p q),
 V.agg [V.i .i64 r, V.ts t u none]]
 fun v => v = V.b b) ∧
 If b (If a (K .ret 17 [.b !c] h) (K .ret 17 [.b false] h))
 (K .ret 17 [.b false] h)) := by kernel_rfl
theorem Zyu (f g j : Bool) (a m : Int) (n : List UInt8) (o : List V) (p : Nat) (q : List UInt8) (r : List V) (t : Nat) (u w : List UInt8) (x : Int) (d : List V) (e : Nat) (h : Heap) (K : KT) : (Zc UY (UY.loc 121) 100 ((flat (Za Tryz.f121))) ⟨(V.agg (vSD f g j a m n o p none q r t none u w) :: V.agg [V.i .i64 x, V.ts d e none] :: List.replicate 15 .undef), [], h⟩ (VQ [4] K)) =
 (∃ (b : Bool),
 (PCon UY 122
 [V.agg
 (vSD f g j a m n o p none q r t none u w),
 V.agg [V.i .i64 x, V.ts d e none]]
 fun v => v = V.b b) ∧
 If (!b) (K .ret 17 [.i .i64 0] h)
 ((0 ≤ a ∧ a < e) ∧
 ∃ (cs : List V) (l : Nat) (c : Option Nat), Zh 1 (List.drop 2 (List.drop (a.toNat * 3) d)) =
 some [V.ts cs l c] ∧
 K .ret 17 [.i .i64 (l : Int)] h)) := by kernel_rfl
theorem ZB9 (a : List V) (n0 : Nat) (x1 : Int) (h : Heap) (K : KT) : (Zc UY (UY.loc 41) 100 ((flat (Za Tryz.f41))) ⟨(V.ts a n0 none :: V.i .i64 x1 :: List.replicate 7 .undef), [], h⟩ (VQ [4] K)) =
 (∃ (n : Int),
 (PCon UY 90 [V.ts a n0 none, V.i .i64 x1] fun v => v = V.i .i64 n) ∧
 K .ret 9 [.b (leI 0 n)] h) := by kernel_rfl
theorem ZCa (a : List V) (b : Nat) (c : List V) (d : Nat) (e : List V) (n1 : Nat) (h : Heap) (K : KT) : (Zc UY (UY.loc 73) 100 (pre (flat (Za Tryz.f73))) ⟨(V.agg [V.ts a b none, V.ts c d none] :: V.ts e n1 none :: List.replicate 48 .undef), [], h⟩ (VQ [1, 2, 5, 6] K)) =
 (K .normal 50
 [.ts e n1 none, .lb [.ts a b none, .ts c d none],
 .sl none 0 (some 0) 0, .i .i64 0]
 h) := by kernel_rfl
theorem ZCb (g : List V) (j : Nat) (e : List V) (d : Nat) (f : List V) (n1 : Nat) (m : Option (Nat × Nat)) (o : Nat) (p : Option Nat) (q : Nat) (b : Int) (h : Heap) (K : KT) : (Zc UY (UY.loc 73) 100 ((flat (Zv (post (flat (Za Tryz.f73)))))) ⟨mk 50 (([1, 2, 5, 6] : List Nat).zip [V.ts f n1 none, V.lb [V.ts g j none, V.ts e d none], V.sl m o p q, V.i .i64 b]), [], h⟩ (VQ [1, 2, 5, 6] K)) =
 (If (ltI b n1)
 ((0 ≤ b ∧ b < n1) ∧
 ∃ (n : Int),
 Zh 1 (List.drop (b.toNat * 1) f) = some [V.i .i64 n] ∧
 If (leI 0 n)
 (If (ltI n d)
 ((0 ≤ n ∧ n < d) ∧
 ∃ (n_1 : Int),
 Zh 1 (List.drop 0 (List.drop (n.toNat * 7) e)) =
 some [V.i .i64 n_1] ∧
 If (leI 1 n_1)
 ((0 ≤ n ∧ n < d) ∧
 ∃ (n_2 : Int),
 Zh 1 (List.drop 0 (List.drop (n.toNat * 7) e)) =
 some [V.i .i64 n_2] ∧
 If (leI n_2 4)
 (∃ (a : Option (Nat × Nat)) (l : Nat) (c : Option Nat) (k : Nat) (h_1 : Heap), Zk UY h 31 31 (V.sl m o p q)
 (V.ts [V.i .i64 n] 1 (some 1)) =
 some (V.sl a l c k, h_1) ∧
 K .normal 50
 [.ts f n1 none,
 .lb [.ts g j none, .ts e d none],
 .sl a l c k, .i .i64 (IntKind.i64.wrap (b + (1 : Int)))]
 h_1)
 (K .normal 50
 [.ts f n1 none, .lb [.ts g j none, .ts e d none],
 .sl m o p q, .i .i64 (IntKind.i64.wrap (b + (1 : Int)))]
 h))
 (K .normal 50
 [.ts f n1 none, .lb [.ts g j none, .ts e d none],
 .sl m o p q, .i .i64 (IntKind.i64.wrap (b + (1 : Int)))]
 h))
 (K .normal 50
 [.ts f n1 none, .lb [.ts g j none, .ts e d none],
 .sl m o p q, .i .i64 (IntKind.i64.wrap (b + (1 : Int)))]
 h))
 (K .normal 50
 [.ts f n1 none, .lb [.ts g j none, .ts e d none],
 .sl m o p q, .i .i64 (IntKind.i64.wrap (b + (1 : Int)))]
 h))
 (K (.exit 0) 50
 [.ts f n1 none, .lb [.ts g j none, .ts e d none], .sl m o p q,
 .i .i64 b]
 h)) := by kernel_rfl
theorem ZCc (a : Option (Nat × Nat)) (b : Nat) (c : Option Nat) (d : Nat) (h : Heap) (K : KT) : (Zc UY (UY.loc 73) 100 (((post (flat (Za Tryz.f73))).drop 1)) ⟨mk 50 (([5] : List Nat).zip [V.sl a b c d]), [], h⟩ (VQ [4] K)) =
 (K .ret 50 [.sl a b c d] h) := by kernel_rfl
theorem Zt2 (s : Side) : PCon UY 180 [.agg (Zn s)] (· = .b (Zle s)) := by
 refine Zz UK (fn := Tryz.f180) (by kernel_rfl) (by kernel_rfl) rfl (fun K => Zyn s.on s.shut s.eof s.place s.clock s.typed (row encT s.lines) s.lines.length s.fly (row encI s.ages) s.ages.length s.ready s.buffer .empty K) rfl ?_
 repeat' first
  | exact Zs (.inr rfl) rfl (.b _) (by simp only [Zle]; simp [*])
  | refine Zd (fun _ => ?_) (fun _ => ?_)
theorem Zyv (s : Side) : PCon UY 36 [.agg (Zn s)] (· = .b (Zle s)) := by
 refine Zz UK (fn := Tryz.f36) (by kernel_rfl) (by kernel_rfl) rfl (fun K => ZB4 s.on s.shut s.eof s.place s.clock s.typed (row encT s.lines) s.lines.length s.fly (row encI s.ages) s.ages.length s.ready s.buffer .empty K) rfl ?_
 repeat' first
  | exact Zs (.inr rfl) rfl (.b _) (by simp only [Zle]; simp [*])
  | refine Zd (fun _ => ?_) (fun _ => ?_)
theorem Zt3 (s : Side) (m : Int) : PCon UY 130 [.agg (Zn s), .i .i64 m] (· = .b (leI m s.buffer.length)) := by
 refine Zz UK (fn := Tryz.f130) (by kernel_rfl) (by kernel_rfl) rfl (fun K => Zyo s.on s.shut s.eof s.place s.clock s.typed (row encT s.lines) s.lines.length s.fly (row encI s.ages) s.ages.length s.ready s.buffer m .empty K) rfl ?_
 exact Zs (.inr rfl) rfl (.b _) rfl
theorem Zt4 (s : Side) (m : Int) (hm : m < 2 ^ 40) (hb : s.buffer.length < 2 ^ 40) : PCon UY 179 [.agg (Zn s), .i .i64 m] (· = .i .i64 (JV s m)) := by
 refine Zz UK (fn := Tryz.f179) (by kernel_rfl) (by kernel_rfl) rfl (fun K => Zyp s.on s.shut s.eof s.place s.clock s.typed (row encT s.lines) s.lines.length s.fly (row encI s.ages) s.ages.length s.ready s.buffer m .empty K) rfl ?_
 refine Qz (fun h => Zs (.inr rfl) rfl (.i _ _) (by simp only [JV]; rw [if_pos h])) (fun h => Zs (.inr rfl) rfl (.i _ _) ?_)
 have e : IntKind.i64.wrap (m - (s.buffer.length : Int)) = m - (s.buffer.length : Int) := Xu (by omega) (by omega)
 simp only [JV]
 rw [e, if_neg (show ¬ m ≤ (s.buffer.length : Int) by omega)]
 congr 1
 split <;> omega
theorem Zyw (w : Wat) (u : Int) : PCon UY 176 [.agg (ZD w), .i .i64 u] (· = .i .i64 (ofS w u)) := by
 refine Zz UK (fn := Tryz.f176) (by kernel_rfl) (by kernel_rfl) rfl (fun K => Zyq w.kind w.peer w.pk w.text w.to w.own w.at' u .empty K) rfl ?_
 refine Zw (fun h => Zs (.inr rfl) rfl (.i _ _) (by simp only [ofS]; rw [if_pos h])) (fun h => Zs (.inr rfl) rfl (.i _ _) (by simp only [ofS]; rw [if_neg (by omega)]))
theorem of91 (w : Wat) (u : Int) : PCon UY 91 [.agg (ZD w), .i .i64 u] (· = .i .i64 (ofS w u)) := by
 refine Zz UK (fn := Tryz.f91) (by kernel_rfl) (by kernel_rfl) rfl (fun K => ZB8 w.kind w.peer w.pk w.text w.to w.own w.at' u .empty K) rfl ?_
 refine Zw (fun h => Zs (.inr rfl) rfl (.i _ _) (by simp only [ofS]; rw [if_pos h])) (fun h => Zs (.inr rfl) rfl (.i _ _) (by simp only [ofS]; rw [if_neg (by omega)]))

def Za3 (s : List UInt8) : Bool := QO s && Za1 s
theorem Zjw {s : List UInt8} (h : QO s = true) : ∃ c r, s = c :: r := by
 cases s with
 | nil => exact absurd h (by decide)
 | cons c r => exact ⟨c, r, rfl⟩
theorem Zn5 (c : UInt8) (r : List UInt8) : leI 97 (c.toNat : Int) = Za1 (c :: r) := by
 simp only [leI, ltI, Za1]
 by_cases h : (c.toNat : Int) < 97
 ·simp [h]
  try omega
 ·simp [h]
  try omega
theorem Zt5 (s : List UInt8) : PCon UY 215 [.s s] (· = .b (Za3 s)) := by
 refine Zz UK (fn := Tryz.f215) (by kernel_rfl) (by kernel_rfl) rfl (fun K => Zys s .empty K) rfl ?_
 refine ⟨_, Zjr s, Zd (fun h => ?_) (fun h => Zs (.inr rfl) rfl (.b _) (by simp [Za3, h]))⟩
 obtain ⟨c, r, rfl⟩ := Zjw h
 exact ⟨c, ⟨by decide, rfl⟩, Zs (.inr rfl) rfl (.b _) (by rw [Za3, h, ← Zn5]; rfl)⟩
theorem Zt6 (s : List UInt8) (hs : s.length < 2 ^ 30) : PCon UY 107 [.s s] (· = .b (Za3 s)) := by
 refine Zz UK (fn := Tryz.f107) (by kernel_rfl) (by kernel_rfl) rfl (fun K => Zyr s .empty K) rfl ?_
 refine ⟨_, Zgn s hs, Zd (fun h => ?_) (fun h => Zs (.inr rfl) rfl (.b _) (by simp [Za3, h]))⟩
 obtain ⟨c, r, rfl⟩ := Zjw h
 exact ⟨c, ⟨by decide, rfl⟩, Zs (.inr rfl) rfl (.b _) (by rw [Za3, h, ← Zn5]; rfl)⟩
end Go.Y
