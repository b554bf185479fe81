/- slices.Sort and slices.Compact at numbers, over memory, by what is known of them. -/
import Derived.Test.YtkcgmnhojldoiaaGreatYRow
import Derived.Sort.Row
import Derived.Sort.Grow
import Derived.Lib.SlicesCompact
import Derived.Test.YtkcgmnhojldoiaaGreatGAct2
import Derived.Test.YtkcgmnhojldoiaaGreatGGreedy
import Derived.Test.YtkcgmnhojldoiaaGreatFC7
namespace Go.Y
open Go.Sort

abbrev We (zs : List Int) : List V := zs.map (V.i .i64)
abbrev encZ : Int → Value := Value.int .i64

theorem Zg1 (w : World) {b off : Nat} {d : Array Int} {c : Array Value} {e : TypeId} {fr : Nat × Nat} (h : w.heap[b]? = some (.cells c e fr)) :
  (putRow encZ w b off d).heap[b]? = some (.cells (putCells encZ off d c) e fr) := by
 simp only [putRow, mapBlock, Array.getElem?_modify, if_true, h, Option.map_some, onCells]
theorem Zli (w : World) {b c off : Nat} {d : Array Int} (h : c ≠ b) : (putRow encZ w b off d).heap[c]? = w.heap[c]? := by
 simp only [putRow, mapBlock, Array.getElem?_modify, if_neg (Ne.symm h)]

theorem HRel.holds {W : Vw} {h : Heap} {w : World} {id : Nat} {zs : List Int} (hr : HRel W h w) (hg : h.get id = some (.arr (We zs) true)) :
  Holds encZ w (W.mu id).1 (W.mu id).2 zs.toArray ∧ (W.mu id).1 < w.heap.size := by
 obtain ⟨c, e, fr, h1, h2, h3, h4, h5⟩ := hr.obj id _ hg
 refine ⟨fun j hj => ?_, Zi h1⟩
 have hj : j < zs.length := by simpa using hj
 obtain ⟨u, hu, hvu⟩ := h4 j (.i .i64 zs[j]) (by simp [hj])
 cases hvu
 have hb := (Array.getElem?_eq_some_iff.1 hu).1
 constructor
 ·rw [Zee h1, hu]; simp [hj, encZ]
 ·rw [Zfn h1]
  have := h5 ((W.mu id).2 + j) (by simp) hb
  rw [Bool.eq_false_iff]
  simp only [ne_eq, Bool.and_eq_true, decide_eq_true_eq]
  exact this

theorem HRel.row {W : Vw} {h : Heap} {w : World} {id : Nat} {zs zs' : List Int} (hr : HRel W h w) (hg : h.get id = some (.arr (We zs) true)) (hl : zs'.length = zs.length) (n : Nat) :
  HRel W (h.set id (some (.arr (We zs') true))) (putRow encZ (Sort.ahead w n) (W.mu id).1 (W.mu id).2 zs'.toArray) ∧ Stp W W.own w W W.own (putRow encZ (Sort.ahead w n) (W.mu id).1 (W.mu id).2 zs'.toArray) := by
 obtain ⟨c, e, fr, h1, h2, h3, h4, h5⟩ := hr.obj id _ hg
 have hlv : W.lv id := (hr.lv id).2 (by simp [hg])
 have hsz : (putCells encZ (W.mu id).2 zs'.toArray c).size = c.size := by simp [putCells]
 have hstr : Str w (putRow encZ (Sort.ahead w n) (W.mu id).1 (W.mu id).2 zs'.toArray) := ⟨rfl, rfl, rfl⟩
 have ho : ORel W (putRow encZ (Sort.ahead w n) (W.mu id).1 (W.mu id).2 zs'.toArray) id (.arr (We zs') true) := by
  refine ⟨putCells encZ (W.mu id).2 zs'.toArray c, e, fr, Zg1 (Sort.ahead w n) h1, by rw [hsz]; exact h2, by rw [hsz]; simpa [hl] using h3, fun j v hj => ?_, fun j hj1 hj2 => h5 j (by simpa using hj1) (by rw [hsz] at hj2; exact hj2)⟩
  have hj' : j < zs'.length := by
   have := (List.getElem?_eq_some_iff.1 hj).1
   simpa using this
  have hv : v = .i .i64 zs'[j] := by
   have := hj
   simp [hj'] at this
   exact this.symm
  subst hv
  refine ⟨encZ zs'[j], ?_, .i _ _⟩
  have hb : (W.mu id).2 + j < c.size := by simp at h3; omega
  simp only [putCells, Array.getElem?_mapIdx, Array.getElem?_eq_getElem hb, Option.map_some]
  rw [if_pos ⟨by omega, by simp; omega⟩]
  simp [hj']
 refine hr.write hstr hlv (fun b hb => Zli (Sort.ahead w n) hb) (by simp) (fun c' e' fr' hc g1 g2 => ?_) ho
 rw [h1] at hc
 cases hc
 exact ⟨_, fr, Zg1 (Sort.ahead w n) h1, g1, by rw [hsz]; exact g2⟩

theorem HRel.grown {W : Vw} {h : Heap} {w : World} (hr : HRel W h w) (os : Array Obj) : ∃ W', HRel W' h (grow w os) ∧ Stp W W.own w W' W'.own (grow w os) := by
 have hk : ∀ b, b < w.heap.size → (grow w os).heap[b]? = w.heap[b]? := fun b hb => by
  simp only [grow, Array.getElem?_append_left hb]
 obtain ⟨g1, g2⟩ := hr.more (w' := grow w os) (s := W.snap) (fun _ _ h => h) (by simp [grow]) hk (fun b o hb => by
  have := hr.snap b o hb
  rw [hk b (Zi this)]; exact this) ⟨rfl, rfl, rfl⟩
 exact ⟨_, g1, g2⟩

abbrev Ww (zs : List Int) : List Int := zs.mergeSort fun x y => decide (x ≤ y)

abbrev XK (P : Program) (f : FuncId) : Prop := (∀ (blk off cap : Nat) (zs : List Int) (w : World), Holds encZ w blk off zs.toArray → blk < w.heap.size → zs.length < 4611686018427387904 →
   Calls P f #[.slice (some ⟨blk, off, none⟩) zs.length cap] w fun e w' => e = .returned (.tuple #[]) ∧ ∃ n os, w' = grow (putRow encZ (Sort.ahead w n) blk off (Ww zs).toArray) os) ∧
  ∀ (w : World), Calls P f #[.slice none 0 0] w fun e w' => e = .returned (.tuple #[]) ∧ w' = w
abbrev ZU (P : Program) (f : FuncId) : Prop := (∀ (blk off cap : Nat) (zs : List Int) (w : World), Holds encZ w blk off zs.toArray → zs.length ≤ 9223372036854775807 → zs.length ≤ cap →
   Calls P f #[.slice (some ⟨blk, off, none⟩) zs.length cap] w fun e w' => e = .returned (.slice (some ⟨blk, off, none⟩) (Lib.compact zs).length cap) ∧ ∃ q, w' = putRow encZ (Sort.ahead w q) blk off (Lib.compact zs ++ List.replicate (zs.length - (Lib.compact zs).length) 0).toArray) ∧
  ∀ (w : World), Calls P f #[.slice none 0 0] w fun e w' => e = .returned (.slice none 0 0) ∧ w' = w

theorem Zqx {Y : YP} {f : FuncId} (hb : JL Y f) (hs : XK Y.P f) {h : Heap} {id k : Nat} {c : Option Nat} {zs : List Int} (hg : h.get id = some (.arr (We zs) true)) (hne : zs ≠ []) (hl : zs.length < 2 ^ 60) :
  Con Y f [.sl (some (id, 0)) zs.length c k] h fun v h' => v = .tup [] ∧ h' = h.set id (some (.arr (We (Ww zs)) true)) :=
 ⟨hb, fun W w us hr hv => by
  obtain ⟨g1, g2⟩ := hr.holds hg
  have hpos : 0 < zs.length := List.length_pos_iff.2 hne
  have hlv : W.lv id := (hr.lv id).2 (by simp [hg])
  cases hv with
  | cons _ u _ _ h1 h2 =>
   cases h2
   cases h1 with
   | sls _ _ _ _ _ a cap' hid hl' hc ha hn hk =>
    have ha' := ha hlv (by omega)
    subst ha'
    refine (hs.1 _ _ cap' zs w g1 g2 (by omega)).mono ?_
    rintro e w' ⟨rfl, n, os, rfl⟩
    obtain ⟨q1, q2⟩ := hr.row hg (zs' := Ww zs) (List.length_mergeSort _) n
    obtain ⟨W', q3, q4⟩ := q1.grown os
    exact ⟨.tup [], _, W', _, ⟨rfl, rfl⟩, rfl, q3, .tup [] [] .nil, q2.trans q4⟩⟩

theorem Zof {Y : YP} {f : FuncId} (hb : JL Y f) (hs : XK Y.P f) {h : Heap} {k : Nat} {c : Option Nat} :
  Con Y f [.sl none 0 c k] h fun v h' => v = .tup [] ∧ h' = h :=
 ⟨hb, fun W w us hr hv => by
  cases hv with
  | cons _ u _ _ h1 h2 =>
   cases h2
   cases h1
   refine (hs.2 w).mono ?_
   rintro e w' ⟨rfl, rfl⟩
   exact ⟨.tup [], _, W, _, ⟨rfl, rfl⟩, rfl, hr, .tup [] [] .nil, .refl _ _ _⟩⟩

/-! ### Compact -/
def Zg2 : Int → List Int → List Int
 | _, [] => []
 | a, b :: l => if b = a then Zg2 b l else b :: Zg2 b l
theorem Zd0 : ∀ (a : Int) (l : List Int), ZZ (a :: l) = a :: Zg2 a l
 | a, [] => by simp [ZZ, Zg2]
 | a, b :: l => by
  have ih := Zd0 b l
  unfold ZZ Zg2
  by_cases h : a = b
  ·rw [if_pos h, if_pos h.symm, ih, h]
  ·rw [if_neg h, if_neg (Ne.symm h), ih]
theorem Zd1 : ∀ (a : Int) (l : List Int), ((List.range l.length).filter fun j => decide ((a :: l)[j + 1]! ≠ (a :: l)[j]!)).map (fun j => (a :: l)[j + 1]!) = Zg2 a l
 | a, [] => by simp [Zg2]
 | a, b :: l => by
  have ih := Zd1 b l
  have e : List.range (b :: l).length = 0 :: (List.range l.length).map Nat.succ := by
   rw [List.length_cons, List.range_succ_eq_map]
  rw [e, List.filter_cons, List.filter_map]
  have e1 : ((fun j => decide ((a :: b :: l)[j + 1]! ≠ (a :: b :: l)[j]!)) ∘ Nat.succ) = fun j => decide ((b :: l)[j + 1]! ≠ (b :: l)[j]!) := rfl
  unfold Zg2
  rw [e1]
  by_cases h : b = a
  ·subst h
   rw [if_neg (by simp), List.map_map]
   simp only [if_true]
   exact ih
  ·rw [if_neg h, if_pos (by simpa using h), List.map_cons, List.map_map]
   exact congrArg (b :: ·) ih
theorem Zfe : ∀ zs : List Int, Lib.compact zs = ZZ zs
 | [] => rfl
 | a :: l => by
  rw [Zd0, ← Zd1]
  unfold Lib.compact Lib.compactUpTo
  rw [List.length_cons, List.range_succ_eq_map, List.filter_cons, List.filter_map, if_pos (by simp [Lib.keeps]), List.map_cons, List.map_map]
  have e0 : (a :: l).toArray[0]! = a := by simp
  rw [e0]
  refine congrArg (a :: ·) ?_
  have e1 : (Lib.keeps (a :: l).toArray ∘ Nat.succ) = fun j => decide ((a :: l)[j + 1]! ≠ (a :: l)[j]!) := by
   funext j; simp [Lib.keeps]
  rw [e1]
  refine List.map_congr_left fun j _ => ?_
  simp
theorem Zjy : ∀ zs : List Int, (ZZ zs).length ≤ zs.length
 | [] => by simp [ZZ]
 | [a] => by simp [ZZ]
 | a :: b :: l => by
  have := Zjy (b :: l)
  unfold ZZ
  split
  ·simp at this ⊢; omega
  ·simp at this ⊢; omega

abbrev Zqy (zs : List Int) : List Int := ZZ zs ++ List.replicate (zs.length - (ZZ zs).length) 0

theorem Zir {Y : YP} {f : FuncId} (hb : JL Y f) (hs : ZU Y.P f) {h : Heap} {id k : Nat} {c : Option Nat} {zs : List Int} (hg : h.get id = some (.arr (We zs) true)) (hne : zs ≠ []) (hl : zs.length < 2 ^ 60) :
  Con Y f [.sl (some (id, 0)) zs.length c k] h fun v h' => v = .sl (some (id, 0)) (ZZ zs).length c k ∧ h' = h.set id (some (.arr (We (Zqy zs)) true)) :=
 ⟨hb, fun W w us hr hv => by
  obtain ⟨g1, g2⟩ := hr.holds hg
  have hpos : 0 < zs.length := List.length_pos_iff.2 hne
  have hlv : W.lv id := (hr.lv id).2 (by simp [hg])
  have hd := Zjy zs
  cases hv with
  | cons _ u _ _ h1 h2 =>
   cases h2
   cases h1 with
   | sls _ _ _ _ _ a cap' hid hl' hc ha hn hk =>
    have ha' := ha hlv (by omega)
    subst ha'
    refine (hs.1 _ _ cap' zs w g1 (by omega) hl').mono ?_
    rintro e w' ⟨rfl, n, rfl⟩
    rw [Zfe]
    obtain ⟨q1, q2⟩ := hr.row hg (zs' := Zqy zs) (by simp; omega) n
    exact ⟨.sl (some (id, 0)) (ZZ zs).length c k, _, W, _, ⟨rfl, rfl⟩, rfl, q1, .sls _ _ _ _ _ _ cap' hid (by omega) hc (fun _ _ => rfl) hn hk, q2⟩⟩

theorem Zg3 {Y : YP} {f : FuncId} (hb : JL Y f) (hs : ZU Y.P f) {h : Heap} {k : Nat} {c : Option Nat} :
  Con Y f [.sl none 0 c k] h fun v h' => v = .sl none 0 c k ∧ h' = h :=
 ⟨hb, fun W w us hr hv => by
  cases hv with
  | cons _ u _ _ h1 h2 =>
   cases h2
   cases h1
   refine (hs.2 w).mono ?_
   rintro e w' ⟨rfl, rfl⟩
   exact ⟨.sl none 0 c k, _, W, _, ⟨rfl, rfl⟩, rfl, hr, .sln _ _, .refl _ _ _⟩⟩

theorem Zqz (zs : List Int) : (Ww zs).Pairwise (· ≤ ·) := by
 have := List.pairwise_mergeSort (le := fun x y : Int => decide (x ≤ y)) (fun a b c h g => by simp at *; omega) (fun a b => by simp; omega) zs
 exact this.imp (fun h => by simpa using h)
theorem Zog (zs : List Int) (x : Int) : x ∈ Ww zs ↔ x ∈ zs := List.mem_mergeSort
theorem Zg4 (zs : List Int) : ZZ (Ww zs) = allS [] zs := Zld (Zqz zs) (Zog zs)
end Go.Y
namespace Go.Y
open Go.Proofs
set_option maxRecDepth 1000000
set_option maxHeartbeats 0
theorem Zuc {h : Heap} {a : Option (Nat × Nat)} {l : Nat} {c : Option Nat} {kk : Nat} {out : List Int} {cap : Option Nat} (hl : Lst encI 1 h a l c kk out) :
  ∃ a' l' c' k', Zk UY h 31 31 (.sl a l c kk) (.ts (row encI ([] : List Int)) 0 cap) = some (.sl a' l' c' k', h) ∧ Lst encI 1 h a' l' c' k' out ∧ a' = a := by
 obtain ⟨⟨cells, h1, h2, h3⟩, h4⟩ := hl
 have hs : Qb UY ⟨[], [], h⟩ ⟨1, 8, .int .i64, [.i .i64 0]⟩ 31 (.ts (row encI ([] : List Int)) 0 cap) = some (0, []) := by
  simp only [Qb, kd41, elems, Qa, Zh, Option.map_some]
 rcases h1.2 with ⟨rfl, h0, h5⟩ | ⟨id, rfl, rfl, rfl, h5, h6⟩
 ·refine ⟨none, 0, some 0, 1, ?_, ⟨⟨cells, ⟨by subst h5; rfl, .inl ⟨rfl, rfl, h5⟩⟩, h2, h3⟩, by omega⟩, rfl⟩
  simp only [Zk, ZP, kd41, ty3, hs]
  rfl
 ·refine ⟨some (id, 0), l, none, 1, ?_, ⟨⟨cells, h1, h2, h3⟩, h4⟩, rfl⟩
  simp only [Zk, ZP, kd41, ty3, hs]
  rfl

theorem Zud {h : Heap} {a : Option (Nat × Nat)} {l : Nat} {c : Option Nat} {kk : Nat} {out : List Int} (xs : List Int) (hl : Lst encI 1 h a l c kk out) (hb : out.length + xs.length < 2 ^ 29) :
  ∃ a' l' c' k' h', Zk UY h 31 31 (.sl a l c kk) (.ts (row encI xs) xs.length none) = some (.sl a' l' c' k', h') ∧ Lst encI 1 h' a' l' c' k' (out ++ xs) ∧ (out ++ xs = [] → a' = a) := by
 by_cases hx : xs = []
 ·subst hx
  obtain ⟨a', l', c', k', q1, q2, q3⟩ := Zuc (cap := none) hl
  exact ⟨a', l', c', k', h, q1, by rw [List.append_nil]; exact q2, fun _ => q3⟩
 ·have hm : most = 1099511627776 := by decide
  obtain ⟨a', l', c', k', h', q1, q2, _, _⟩ := Lst.app (Y := UY) (st := 31) (e := 3) (te := ⟨1, 8, .int .i64, [.i .i64 0]⟩) xs (cap := none) kd41 ty3 rfl (by decide) hl (Za9 xs _) (by
   rw [rowI]
   induction xs with
   | nil => rfl
   | cons x r ih =>
    by_cases hr : r = []
    ·subst hr; rfl
    ·have := ih (by simp at hb ⊢; omega) hr
     simp only [List.map_cons, Xr, this, Bool.and_true]
     rfl) hx (by rw [XC]; exact (Nat.mul_one _).symm) (WJ xs) (by show (out.length + xs.length) * 8 ≤ most; rw [hm]; omega) (by rw [hm]; omega)
  exact ⟨a', l', c', k', h', q1, q2, fun e => absurd (List.append_eq_nil_iff.1 e).2 hx⟩

theorem Zoh (xs : List Int) (hx : xs ≠ []) (h : Heap) (hb : xs.length < 2 ^ 29) (cap : Option Nat) :
  Zk UY h 31 31 (.ts [] 0 (some 0)) (.ts (row encI xs) xs.length cap) = some (.sl (some (h.nx, 0)) xs.length none 1, h.push (.arr (row encI xs) true)) ∧ Lst encI 1 (h.push (.arr (row encI xs) true)) (some (h.nx, 0)) xs.length none 1 xs := by
 obtain ⟨n, hn⟩ : ∃ n, xs.length = n + 1 := ⟨xs.length - 1, by have := List.length_pos_iff.2 hx; omega⟩
 have hcold : Xr (row encI xs) = true := by
  rw [rowI]
  clear hn hb hx
  induction xs with
  | nil => rfl
  | cons x r ih => simp only [List.map_cons, Xr, ih, Bool.and_true]; rfl
 refine ⟨?_, ⟨⟨row encI xs, ⟨by rw [XC]; omega, .inr ⟨h.nx, rfl, rfl, rfl, by simp [Heap.push], by simp⟩⟩, hcold, Za9 xs _⟩, rfl⟩⟩
 rw [hn]
 exact Znd (Y := UY) (te := ⟨1, 8, .int .i64, [.i .i64 0]⟩) kd41 ty3 (by decide) (by decide) (by
  have : Zh (row encI xs).length (row encI xs) = some (row encI xs) := Vy _
  rw [XC, hn] at this
  simpa using this) (WJ xs) (by omega) h

/-! ### Put -/
theorem Zcq {l : List Int} {n : Int} {k : Nat} (h : ∀ x ∈ l.take k, x < n) : putS l n = l.take k ++ putS (l.drop k) n := by
 induction k generalizing l with
 | zero => simp
 | succ k ih =>
  cases l with
  | nil => simp
  | cons a l =>
   have ha : a < n := h a (by simp)
   rw [List.take_succ_cons, List.drop_succ_cons, List.cons_append, ← ih (fun x hx => h x (by rw [List.take_succ_cons]; exact List.mem_cons_of_mem _ hx))]
   conv => lhs; unfold putS
   rw [if_pos ha]


theorem Zg5 : ∀ {l m : List V} {n : Nat}, n = l.length → Zh n (l ++ m) = some l
 | [], m, _, h => by subst h; cases m <;> rfl
 | v :: l, m, _, h => by subst h; simp only [List.cons_append, List.length_cons, Zh, Zg5 (l := l) (m := m) rfl]; rfl
theorem Zaj : UY.kd 31 = some (.slice 3) := by kernel_rfl
theorem Zoi {h : Heap} {id : Nat} {cs : List V} {wr : Bool} (hg : h.get id = some (.arr cs wr)) {o n : Nat} {c : Option Nat} {r : List V} (hr : Zh n (cs.drop o) = some r) :
  Qb UY ⟨[], [], h⟩ ⟨1, 8, .int .i64, [.i .i64 0]⟩ 31 (.sl (some (id, o)) n c 1) = some (n, r) := by
 simp only [Qb, Zaj, elems, Qa, Xc, hg, Nat.mul_one, hr, if_true, Option.map_some]
theorem Zg6 (l : List Int) (i : Nat) : (row encI l).drop i = row encI (l.drop i) := by rw [rowI, rowI, List.map_drop]
theorem Zue (l : List Int) : Xr (row encI l) = true := Zch l

theorem Zq0 {h : Heap} {id : Nat} {out : List Int} (hg : h.get id = some (.arr (row encI out) true)) {i : Nat} (hi : i < out.length) (hl : out.length < 2 ^ 29) {c : Option Nat} :
  Zk UY h 31 31 (.ts [] 0 (some 0)) (.sl (some (id, i)) (out.length - i) c 1) = some (.sl (some (h.nx, 0)) (out.length - i) none 1, h.push (.arr (row encI (out.drop i)) true)) := by
 have hr : Zh (out.length - i) ((row encI out).drop i) = some (row encI (out.drop i)) := by
  rw [Zg6]; exact Wq (by rw [XC, List.length_drop])
 have hm : most = 1099511627776 := by decide
 have h1 : ¬ ((0 + (out.length - i)) * 8 > most ∨ 0 + (out.length - i) > most) := by rw [hm]; omega
 have h2 : out.length - i ≠ 0 := by omega
 have h3 : ¬ (0 + (out.length - i) ≤ 0) := by omega
 simp only [Zk, ZP, Zaj, ty3, Zoi hg hr]
 rw [if_neg (by simp [WJ]), if_neg h2, if_neg h1, if_neg h3]
 simp [Zh]
theorem Zoj {h : Heap} {id o : Nat} {c : Option Nat} {cs : List V} {wr : Bool} (hg : h.get id = some (.arr cs wr)) :
  Zk UY h 31 31 (.ts [] 0 (some 0)) (.sl (some (id, o)) 0 c 1) = some (.ts [] 0 (some 0), h) := by
 simp only [Zk, ZP, Zaj, ty3, Zoi hg (show Zh 0 (cs.drop o) = some [] by cases cs.drop o <;> rfl)]
 rfl
theorem Zuf {h : Heap} {id : Nat} {out : List Int} (hg : h.get id = some (.arr (row encI out) true)) (x : Int) {i : Nat} (hi : i < out.length) (hl : out.length < 2 ^ 29) :
  Zk UY h 31 31 (.sl (some (id, 0)) i none 1) (.ts [.i .i64 x] 1 (some 1)) = some (.sl (some (id, 0)) (i + 1) none 1, h.set id (some (.arr (row encI (out.take i ++ x :: out.drop (i + 1))) true))) := by
 have hs : Qb UY ⟨[], [], h⟩ ⟨1, 8, .int .i64, [.i .i64 0]⟩ 31 (.ts [.i .i64 x] 1 (some 1)) = some (1, [.i .i64 x]) := rfl
 have hm : most = 1099511627776 := by decide
 have h1 : ¬ ((i + 1) * 8 > most ∨ i + 1 > most) := by rw [hm]; omega
 have h2 : 0 + (i + 1) * 1 ≤ (row encI out).length := by rw [XC]; omega
 have h3 : splice (row encI out) (0 + i * 1) [V.i .i64 x] = row encI (out.take i ++ x :: out.drop (i + 1)) := by
  have he : out = out.take i ++ out[i] :: out.drop (i + 1) := by rw [← List.drop_eq_getElem_cons hi, List.take_append_drop]
  have hlen : (out.take i).length = 0 + i * 1 := by simp; omega
  rw [rowI, rowI, ← hlen]
  conv => lhs; arg 1; rw [he]
  exact Zk0 (out.take i) (out.drop (i + 1)) out[i] x
 simp only [Zk, ZP, Zaj, ty3, hs, hg]
 rw [if_neg (show ¬ ((!Zx [V.i .i64 x] || decide (1 = 0)) = true) from (by simp [Zx]; rfl)), if_neg (by decide), if_neg (by decide), if_neg h1, if_pos h2, if_pos trivial, h3]
theorem Zug {h : Heap} {id id2 : Nat} {A B C : List Int} (hg : h.get id = some (.arr (row encI (A ++ B)) true)) (hg2 : h.get id2 = some (.arr (row encI C) true)) (hC : C ≠ []) (hlt : B.length < C.length) (hl : A.length + C.length < 2 ^ 29) (hid : id < h.nx) :
  ∃ a' l' c' k' h', Zk UY h 31 31 (.sl (some (id, 0)) A.length none 1) (.sl (some (id2, 0)) C.length none 1) = some (.sl a' l' c' k', h') ∧ Lst encI 1 h' a' l' c' k' (A ++ C) := by
 have hr : Zh C.length ((row encI C).drop 0) = some (row encI C) := by rw [List.drop_zero]; exact Wq (XC C).symm
 have hm : most = 1099511627776 := by decide
 have hcl : 0 < C.length := List.length_pos_iff.2 hC
 have h1 : ¬ ((A.length + C.length) * 8 > most ∨ A.length + C.length > most) := by rw [hm]; omega
 have h2 : C.length ≠ 0 := by omega
 have h3 : ¬ (0 + (A.length + C.length) * 1 ≤ (row encI (A ++ B)).length) := by rw [XC, List.length_append]; omega
 have h4 : Zh (A.length * 1) ((row encI (A ++ B)).drop 0) = some (row encI A) := by
  rw [List.drop_zero, Nat.mul_one, QE]
  exact Zg5 (XC A).symm
 refine ⟨some (h.nx, 0), A.length + C.length, none, 1, _, by
  simp only [Zk, ZP, Zaj, ty3, Zoi hg2 hr, hg]
  rw [if_neg (by simp [WJ]), if_neg (by decide), if_neg h2, if_neg h1, if_neg h3, if_pos (by simp), h4], ?_⟩
 refine ⟨⟨row encI (A ++ C), ⟨by rw [XC, List.length_append]; omega, .inr ⟨h.nx, rfl, rfl, rfl, by simp, ?_⟩⟩, Zue _, Za9 _ _⟩, by simp⟩
 rw [QE]
 simp [Heap.get_push]
theorem Zok {m : Mdl} (bm : BdM m) (c : Cfg) : (XE m c).list.length < 2 ^ 20 := by
 unfold XE
 split
 ·decide
 ·cases h : m.ins[c.pc.toNat]? with
  | none => decide
  | some x => exact bm.il x (List.mem_of_getElem? h)
theorem Zcr {m : Mdl} {c : Cfg} (bm : BdM m) (bc : BdC c) : (XY m c).length < 2 ^ 22 := by
 have h1 := Zok bm c
 have h2 := bc.bf
 have h3 := bc.af
 unfold XY
 split
 ·simp only [List.length_append]; omega
 ·decide
theorem Zcs (m : Mdl) (c : Cfg) (bm : BdM m) (bc : BdC c) : PCon UY 29 [.agg (mdlC m), .agg (cfgC c)] (· = lst encI (XY m c)) := by
 refine Zz UK (fn := Tryz.f29) (by kernel_rfl) (by kernel_rfl) rfl (fun K => ZCn (row ZC m.ins) m.ins.length (row ZD m.ws) m.ws.length (row ZF m.ps) m.ps.length m.lat m.mat c.pc (row ZE c.vars) c.vars.length c.c0 c.c1 c.c2 c.c3 c.c4 c.c5 c.c6 c.c7 c.c8 c.c9 (row encI c.stack) c.stack.length c.mode c.err c.use c.tmo c.ela (row encI c.before) c.before.length (row encI c.after) c.after.length (row Zn c.sides) c.sides.length .empty K) rfl ?_
 refine ⟨_, _, _, _, _, _, _, _, _, _, _, _, _, _, _, _, _,  Zio m c, ?_⟩
 have h1 := Zok bm c
 have h2 := bc.bf
 have h3 := bc.af
 have fin : ∀ (a : Option (Nat × Nat)) (n : Nat) (cc : Option Nat) (k : Nat) (h : Heap) (out : List Int), Lst encI 1 h a n cc k out → out = XY m c → Fin UY Tryz.f29 [4] (fun v h => ∃ r, Frz h v r ∧ r = lst encI (XY m c)) .ret 25 [.sl a n cc k] h := fun a n cc k h out hL ho => Zs (.inr rfl) rfl (hL.frz (by decide) ZV) (by rw [ho])
 refine Zd (fun hc => ?_) (fun hc => ?_)
 ·have hc : (XE m c).op ≠ 12 := by simpa using hc
  exact fin _ _ _ _ _ [] (Lst.nil _ _ _ _ _) (by unfold XY; rw [if_neg hc])
 have hc : (XE m c).op = 12 := by simpa using hc
 have hl : XY m c = c.before ++ (XE m c).list ++ c.after := by unfold XY; rw [if_pos hc]
 generalize (XE m c).list = x at h1 hl
 by_cases e1 : c.before = []
 ·refine .inr ⟨?_, ?_⟩
  ·rw [e1]; exact Zac Zaj ty3 (by decide) _ _ _
  by_cases e2 : x = []
  ·refine .inr ⟨?_, ?_⟩
   ·rw [e2]; exact Zac Zaj ty3 (by decide) _ _ _
   by_cases e3 : c.after = []
   ·refine .inr ⟨?_, ?_⟩
    ·rw [e3]; exact Zac Zaj ty3 (by decide) _ _ _
    ·exact Zs (.inr rfl) rfl (Qx _ _ _ _) (by rw [hl, e1, e2, e3]; rfl)
   ·obtain ⟨q1, q2⟩ := Zoh c.after e3 .empty (by omega) none
    exact .inl ⟨_, _, _, _, _, q1, fin _ _ _ _ _ _ q2 (by rw [hl, e1, e2]; rfl)⟩
  ·obtain ⟨q1, q2⟩ := Zoh x e2 .empty (by omega) none
   obtain ⟨a', l', c', k', h', q3, q4, _⟩ := Zud c.after q2 (by omega)
   exact .inl ⟨_, _, _, _, _, q1, a', l', c', k', h', q3, fin _ _ _ _ _ _ q4 (by rw [hl, e1]; rfl)⟩
 ·obtain ⟨q1, q2⟩ := Zoh c.before e1 .empty (by omega) none
  obtain ⟨a', l', c', k', h', q3, q4, _⟩ := Zud x q2 (by omega)
  obtain ⟨a2, l2, c2, k2, h2', q5, q6, _⟩ := Zud c.after q4 (by simp only [List.length_append]; omega)
  exact .inl ⟨_, _, _, _, _, q1, a', l', c', k', h', q3, a2, l2, c2, k2, h2', q5, fin _ _ _ _ _ _ q6 (by rw [hl])⟩
theorem Zol (l more : List Int) (x : Int) : allS l (more ++ [x]) = putS (allS l more) x := by
 unfold allS; rw [List.foldl_append]; rfl
theorem Zjz (n : Int) : ∀ l : List Int, (putS l n).length ≤ l.length + 1
 | [] => by simp [putS]
 | a :: l => by
  have := Zjz n l
  unfold putS
  split
  ·simp; omega
  ·split <;> simp
theorem Zff : ∀ (more l : List Int), (allS l more).length ≤ l.length + more.length
 | [], l => by simp [allS]
 | n :: r, l => by
  have e : allS l (n :: r) = allS (putS l n) r := rfl
  have h1 := Zff r (putS l n)
  have h2 := Zjz n l
  rw [e]; simp; omega
theorem Zak (ws : List Wat) (l : List Int) (k : Int) (use : Int) : Xq ws (l ++ [k]) use = Xq ws l use ++ ((cnt ws k).bind (WO use)).toList := by
 unfold Xq
 rw [List.filterMap_append, List.filterMap_append]
 congr 1
 cases h : cnt ws k with
 | none => simp [h]
 | some w => cases g : WO use w <;> simp [h, g]
theorem Zom (ws : List Wat) (l : List Int) (use : Int) : Xq ws (cntL ws l) use = Xq ws l use := by
 unfold Xq cntL
 congr 1
 induction l with
 | nil => rfl
 | cons a l ih =>
  unfold isC at ih ⊢
  cases h : cnt ws a with
  | none => simp [h, ih]
  | some w => simp [h, ih]
theorem VI (ws : List Wat) (l : List Int) (use : Int) : (Xq ws l use).length ≤ l.length := by
 unfold Xq
 exact Nat.le_trans (List.length_filterMap_le _ _) (List.length_filterMap_le _ _)
theorem Zal (ws : List Wat) (l : List Int) (use : Int) : (JG ws l use).length ≤ l.length := by
 have h1 := Zff (Xq ws l use) []
 have h2 := VI ws l use
 unfold JG; simp at h1; omega

def OutI (h : Heap) (a : Option (Nat × Nat)) (n : Nat) (c : Option Nat) (k : Nat) (out : List Int) : Prop :=
 (a = none ∧ n = 0 ∧ c = some 0 ∧ k = 0 ∧ out = []) ∨ ∃ id, a = some (id, 0) ∧ n = out.length ∧ c = none ∧ k = 1 ∧ id < h.nx ∧ h.get id = some (.arr (row encI out) true)
theorem frzI : ∀ {l : List V} {zs : List Int}, FrzL .empty l (row encI zs) → l = row encI zs
 | l, zs, f => by
  rw [rowI] at f ⊢
  induction zs generalizing l with
  | nil => cases f; rfl
  | cons z zs ih =>
   cases f with
   | cons _ _ _ _ h1 h2 =>
    cases h1
    rw [ih _ h2]; rfl
theorem Zfg {h : Heap} {a : Option (Nat × Nat)} {n : Nat} {c : Option Nat} {k : Nat} {out : List Int} (hL : Lst encI 1 h a n c k out) (hne : out ≠ []) : OutI h a n c k out := by
 obtain ⟨⟨cells, h1, h2, h3⟩, h4⟩ := hL
 have := frzI h3
 subst this
 rcases h1.2 with ⟨rfl, h0, h5⟩ | ⟨id, rfl, rfl, rfl, h5, h6⟩
 ·rw [rowI] at h5; simp at h5; exact absurd h5 hne
 ·exact .inr ⟨id, rfl, h4, rfl, rfl, h5, h6⟩
theorem OutI.lst {h : Heap} {a : Option (Nat × Nat)} {n : Nat} {c : Option Nat} {k : Nat} {out : List Int} (hO : OutI h a n c k out) : Lst encI 1 h a n c k out := by
 rcases hO with ⟨rfl, rfl, rfl, rfl, rfl⟩ | ⟨id, rfl, rfl, rfl, rfl, h1, h2⟩
 ·exact Lst.nil _ _ _ _ _
 ·exact Ze8 h1 h2
theorem Zis (l : List Int) (n : Int) : putS l n ≠ [] := by
 cases l with
 | nil => simp [putS]
 | cons a l => unfold putS; split <;> (try split) <;> simp

def P42I (ins : List Ins) (ws : List Wat) (L : List Int) (use : Int) (m : Nat) (vs : List V) (h : Heap) : Prop :=
 ∃ (i : Nat) (a : Option (Nat × Nat)) (n : Nat) (c : Option Nat) (k : Nat), vs = [.i .i64 use, .lb (XX ins ws), .undef, .sl a n c k, lst encI L, .i .i64 (i : Nat)] ∧ i ≤ L.length ∧ m = L.length - i ∧ OutI h a n c k (allS [] (Xq ws (L.take i) use))

theorem Zd2 (ins : List Ins) (ws : List Wat) (l : List Int) (use : Int) (hl : l.length < 2 ^ 26) : PCon UY 42 [.agg (XX ins ws), lst encI l, .i .i64 use] (· = lst encI (JG ws l use)) := by
 refine Zt UK (fn := Tryz.f42) (by kernel_rfl) (by kernel_rfl) rfl ?_
 refine Zp UK 81 (fun K => ZCf (row ZC ins) ins.length (row ZD ws) ws.length (row encI l) l.length use .empty K) rfl (by kernel_rfl) ?_
 have hL := Zdu ins ws l (by omega)
 have hcl := Zfb ws l
 have hper := Zom ws l use
 have hall : ∀ k ∈ cntL ws l, isC ws k = true := fun k hk => (List.mem_filter.1 hk).2
 unfold JG
 rw [← hper]
 generalize cntL ws l = L at hL hcl hall hper
 refine ⟨row encI L, L.length, none, hL, rfl, ZK [2, 3, 4, 7, 8, 9] [2, 3, 4, 7, 8, 9] rfl (by kernel_rfl) (P42I ins ws L use) L.length Zu ⟨0, none, 0, some 0, 0, rfl, by omega, by omega, .inl ⟨rfl, rfl, rfl, rfl, rfl⟩⟩ ?_⟩
 rintro m vs h ⟨i, a, n, c, k, rfl, hi, rfl, hO⟩
 refine Zp UK 81 (fun K => ZCg (row ZC ins) ins.length (row ZD ws) ws.length use none (row encI L) L.length a n c k (i : Nat) h K) rfl (by kernel_rfl) ?_
 refine Zg (fun hlt => ?_) (fun hge => ?_)
 ·refine ⟨rfl, Zgm (n := 81) [2, 3, 4, 7, 8, 9] (by kernel_rfl) ?_⟩
  obtain ⟨w, hw, k0, k1, hwk⟩ := Zn8 (hall L[i] (List.getElem_mem hlt))
  have hwk' : ws[L[i].toNat]'(by omega) = w := by
   have := List.getElem?_eq_getElem (show L[i].toNat < ws.length by omega)
   rw [this] at hwk; exact Option.some.inj hwk
  have hT : L.take (i + 1) = L.take i ++ [L[i]] := List.take_succ_eq_append_getElem hlt
  have hS := Zak ws (L.take i) L[i] use
  rw [hw] at hS
  have hS : Xq ws (L.take (i + 1)) use = Xq ws (L.take i) use ++ (WO use w).toList := by rw [hT, hS]; rfl
  have hlen : (Xq ws (L.take i) use).length ≤ i := by have := VI ws (L.take i) use; simp at this; omega
  have hlen2 := Zff (Xq ws (L.take i) use) []
  -- the end of a round
  have next : ∀ (h' : Heap) (a' : Option (Nat × Nat)) (n' : Nat) (c' : Option Nat) (k' : Nat), OutI h' a' n' c' k' (allS [] (Xq ws (L.take (i + 1)) use)) →
    TriL UY ((post (flat (Zv (post (flat (Za Tryz.f42)))))).drop 1) ⟨mk 81 (([2, 3, 4, 7, 8, 9] : List Nat).zip [.i .i64 use, .lb (XX ins ws), .undef, .sl a' n' c' k', lst encI L, .i .i64 (i : Nat)]), [], h'⟩ (VQ [2, 3, 4, 7, 8, 9] (Xy UY 81 [2, 3, 4, 7, 8, 9] [2, 3, 4, 7, 8, 9] (P42I ins ws L use) (L.length - i) (Xi (post (flat (Za Tryz.f42)))) ((post (flat (Za Tryz.f42))).drop 1) (FinS UY Tryz.f42 fun v h => ∃ r, Frz h v r ∧ r = lst encI (allS [] (Xq ws L use))))) := by
   intro h' a' n' c' k' hO'
   refine Zq UK (fun K => Zzk (row ZC ins) ins.length (row ZD ws) ws.length use none (row encI L) L.length a' n' c' k' (i : Nat) h' K) rfl ?_
   exact ⟨rfl, L.length - (i + 1), by omega, i + 1, a', n', c', k', by rw [Zf (by omega)]; rfl, by omega, rfl, hO'⟩
  refine Zp UK 81 (fun K => ZCh (row ZC ins) ins.length (row ZD ws) ws.length use none (row encI L) L.length a n c k (i : Nat) h K) rfl (by kernel_rfl) ?_
  refine ⟨bnd_nat hlt, L[i], Xw L hlt, ⟨k0, k1⟩, w.kind, w.peer, w.pk, w.text, w.to, w.own, w.at', ?_, _, of91 w use, ?_⟩
  ·have := Zr (f := ZD) (k := 7) QU (l := ws) (i := L[i].toNat) (by omega)
   rw [this, hwk']
  have skip : WO use w = none → Zc1 UY 81 [2, 3, 4, 7, 8, 9] (Qs (post (flat (Zv (post (flat (Za Tryz.f42))))))) ((post (flat (Zv (post (flat (Za Tryz.f42)))))).drop 1) (VQ [2, 3, 4, 7, 8, 9] (Xy UY 81 [2, 3, 4, 7, 8, 9] [2, 3, 4, 7, 8, 9] (P42I ins ws L use) (L.length - i) (Xi (post (flat (Za Tryz.f42)))) ((post (flat (Za Tryz.f42))).drop 1) (FinS UY Tryz.f42 fun v h => ∃ r, Frz h v r ∧ r = lst encI (allS [] (Xq ws L use))))) (.exit 1) 81 [.i .i64 use, .lb (XX ins ws), .undef, .sl a n c k, lst encI L, .i .i64 (i : Nat)] h := fun hp =>
   Zdk [2, 3, 4, 7, 8, 9] (by kernel_rfl) rfl rfl (next h a n c k (by rw [hS, hp]; simpa using hO))
  have same : ∀ (h' : Heap) (a' : Option (Nat × Nat)) (n' : Nat) (c' : Option Nat) (k' : Nat), OutI h' a' n' c' k' (allS [] (Xq ws (L.take (i + 1)) use)) → ∀ o, o = .exit 1 ∨ o = .normal → Zc1 UY 81 [2, 3, 4, 7, 8, 9] (Qs (post (flat (Zv (post (flat (Za Tryz.f42))))))) ((post (flat (Zv (post (flat (Za Tryz.f42)))))).drop 1) (VQ [2, 3, 4, 7, 8, 9] (Xy UY 81 [2, 3, 4, 7, 8, 9] [2, 3, 4, 7, 8, 9] (P42I ins ws L use) (L.length - i) (Xi (post (flat (Za Tryz.f42)))) ((post (flat (Za Tryz.f42))).drop 1) (FinS UY Tryz.f42 fun v h => ∃ r, Frz h v r ∧ r = lst encI (allS [] (Xq ws L use))))) o 81 [.i .i64 use, .lb (XX ins ws), .undef, .sl a' n' c' k', lst encI L, .i .i64 (i : Nat)] h' := by
   rintro h' a' n' c' k' hO' o (rfl | rfl)
   ·exact Zdk [2, 3, 4, 7, 8, 9] (by kernel_rfl) rfl rfl (next h' a' n' c' k' hO')
   ·exact ⟨rfl, [2, 3, 4, 7, 8, 9], rfl, next h' a' n' c' k' hO'⟩
  refine Zd (fun c2 => ZR rfl (skip ?_)) (fun c2 => Zw (fun c3 => ZR rfl (skip ?_)) (fun c3 => ?_))
  ·have c2 : w.kind = 2 := by simpa using c2
   unfold WO; rw [if_pos (.inl c2)]
  ·unfold WO; rw [if_pos (.inr c3)]
  have c2 : w.kind ≠ 2 := by simpa using c2
  have hp : WO use w = some (ofS w use) := by unfold WO; rw [if_neg (by omega)]
  generalize ofS w use = p at hp
  have hput : allS [] (Xq ws (L.take (i + 1)) use) = putS (allS [] (Xq ws (L.take i) use)) p := by rw [hS, hp]; exact Zol _ _ _
  generalize allS [] (Xq ws (L.take i) use) = out at hO hput hlen2
  have hol : out.length < 2 ^ 27 := by simp at hlen2; omega
  rw [hput] at same
  clear next skip
  rcases hO with ⟨rfl, rfl, rfl, rfl, rfl⟩ | ⟨id, rfl, rfl, rfl, rfl, hid, hg⟩
  ·refine ⟨rfl, ZK [2, 3, 4, 7, 8, 9, 11, 12] [2, 3, 4, 7, 8, 9, 11, 12] rfl (by kernel_rfl) (fun m vs h' => vs = [.i .i64 use, .lb (XX ins ws), .undef, .sl none 0 (some 0) 0, lst encI L, .i .i64 (i : Nat), .i .i64 p, .i .i64 0] ∧ h' = h) 0 Zu ⟨rfl, rfl⟩ ?_⟩
   rintro m vs h' ⟨rfl, rfl⟩
   refine Zq UK (fun K => Zzm (row ZC ins) ins.length (row ZD ws) ws.length use none (row encI L) L.length p (i : Nat) h' K) rfl ?_
   refine Ze [2, 3, 4, 7, 8, 9, 11, 12] (by kernel_rfl) rfl rfl ?_
   refine Zq UK (fun K => Zzn (row ZC ins) ins.length (row ZD ws) ws.length use none (row encI L) L.length p (i : Nat) h' K) rfl ?_
   obtain ⟨a1, n1, c1, k1, h1, q1, q2, _, _⟩ := JF [] p (Lst.nil encI 1 h' (some 0) 0) (by decide)
   obtain ⟨a2, n2, c2', k2, q3, q4, _⟩ := Zuc (cap := some 0) q2
   exact ⟨none, 0, some 0, 0, by kernel_rfl, .inr ⟨by kernel_rfl, none, 0, some 0, 0, by kernel_rfl, a1, n1, c1, k1, h1, q1, a2, n2, c2', k2, h1, q3, same _ _ _ _ _ (Zfg (show Lst encI 1 h1 a2 n2 c2' k2 (putS [] p) from q4) (Zis _ _)) _ (.inr rfl)⟩⟩
  ·refine ⟨rfl, ZK [2, 3, 4, 7, 8, 9, 11, 12] [2, 3, 4, 7, 8, 9, 11, 12] rfl (by kernel_rfl) (fun m vs h' => ∃ k : Nat, vs = [.i .i64 use, .lb (XX ins ws), .undef, .sl (some (id, 0)) out.length none 1, lst encI L, .i .i64 (i : Nat), .i .i64 p, .i .i64 (k : Nat)] ∧ k ≤ out.length ∧ m = out.length - k ∧ (∀ x ∈ out.take k, x < p) ∧ h' = h) out.length Zu ⟨0, rfl, by omega, by omega, by simp, rfl⟩ ?_⟩
   rintro m vs h' ⟨k, rfl, hk, rfl, hp', rfl⟩
   have cell : ∀ hlt : k < out.length, Zj h' id (0 + ((k : Nat) : Int).toNat * 1) 1 = some [.i .i64 out[k]] := fun hlt => by
    rw [Zo hg]
    have := Xw out hlt
    rwa [Nat.zero_add]
   have stop : (∀ hlt : k < out.length, ¬ out[k] < p) → TriL UY ((post (flat (Xx (post (flat (Zv (post (flat (Za Tryz.f42))))))))).drop 1) ⟨mk 81 (([2, 3, 4, 7, 8, 9, 11, 12] : List Nat).zip [.i .i64 use, .lb (XX ins ws), .undef, .sl (some (id, 0)) out.length none 1, lst encI L, .i .i64 (i : Nat), .i .i64 p, .i .i64 (k : Nat)]), [], h'⟩ (VQ [2, 3, 4, 7, 8, 9] (Zc1 UY 81 [2, 3, 4, 7, 8, 9] (Qs (post (flat (Zv (post (flat (Za Tryz.f42))))))) ((post (flat (Zv (post (flat (Za Tryz.f42)))))).drop 1) (VQ [2, 3, 4, 7, 8, 9] (Xy UY 81 [2, 3, 4, 7, 8, 9] [2, 3, 4, 7, 8, 9] (P42I ins ws L use) (L.length - i) (Xi (post (flat (Za Tryz.f42)))) ((post (flat (Za Tryz.f42))).drop 1) (FinS UY Tryz.f42 fun v h => ∃ r, Frz h v r ∧ r = lst encI (allS [] (Xq ws L use))))))) := by
    intro hns
    refine Zq UK (fun K => Zzj (row ZC ins) ins.length (row ZD ws) ws.length use none (row encI L) L.length id out.length (i : Nat) (k : Nat) p h' K) rfl ?_
    refine Zg (fun hlt => ?_) (fun hge => ?_)
    ·have hd : out.drop k = out[k] :: out.drop (k + 1) := List.drop_eq_getElem_cons hlt
     refine ⟨bnd_nat hlt, rfl, _, cell hlt, Zd (fun g => ?_) (fun g => ?_)⟩
     ·have g : out[k] = p := by simpa using g
      have e : putS out p = out := by
       rw [Zcq hp', hd]
       conv => lhs; rhs; unfold putS
       rw [if_neg (hns hlt), if_pos g, ← hd, List.take_append_drop]
      exact same _ _ _ _ _ (.inr ⟨id, rfl, by rw [e], rfl, rfl, hid, by rw [e]; exact hg⟩) _ (.inl rfl)
     ·have g : out[k] ≠ p := by simpa using g
      have e : putS out p = (out.take k ++ [p]) ++ out.drop k := by
       rw [Zcq hp', hd]
       conv => lhs; rhs; unfold putS
       rw [if_neg (hns hlt), if_neg g, List.append_assoc]; rfl
      have q1 := Zq0 hg hlt (by omega) (c := none)
      have g2 : (h'.push (.arr (row encI (out.drop k)) true)).get id = some (.arr (row encI out) true) := by rw [Heap.get_push, if_neg (by omega), hg]
      have q2 := Zuf g2 p hlt (by omega)
      have l1 : (out.take k ++ [p]).length = k + 1 := by simp; omega
      have l2 : (out.drop k).length = out.length - k := by simp
      have e3 : out.take k ++ p :: out.drop (k + 1) = (out.take k ++ [p]) ++ out.drop (k + 1) := by simp
      rw [e3] at q2
      generalize hH : (h'.push (.arr (row encI (out.drop k)) true)).set id (some (.arr (row encI ((out.take k ++ [p]) ++ out.drop (k + 1))) true)) = H at q2
      have g3 : H.get id = some (.arr (row encI ((out.take k ++ [p]) ++ out.drop (k + 1))) true) := by rw [← hH, Heap.get_set, if_pos rfl]
      have g4 : H.get h'.nx = some (.arr (row encI (out.drop k)) true) := by rw [← hH, Heap.get_set, if_neg (by omega), Heap.get_push, if_pos rfl]
      obtain ⟨a', l', c', k', h2, q3, q4⟩ := Zug g3 g4 (by rw [hd]; exact List.cons_ne_nil _ _) (by rw [l2, List.length_drop]; omega) (by rw [l1, l2]; omega) (by rw [← hH]; simp; omega)
      rw [l1, l2] at q3
      have hkn : ((k : Nat) : Int).toNat = k := Int.toNat_natCast k
      refine ⟨rfl, ⟨by omega, by omega⟩, .inl ⟨_, _, _, _, _, by rw [hkn, Nat.mul_one, Nat.zero_add]; exact q1, rfl, ⟨by omega, by show _ ≤ ((out.length : Nat) : Int); omega⟩, _, _, _, _, _, by rw [hkn, Nat.sub_zero]; exact q2, _, _, _, _, _, q3, same _ _ _ _ _ (Zfg (e ▸ q4) (Zis _ _)) _ (.inr rfl)⟩⟩
    ·have hk' : k = out.length := by omega
     have e : putS out p = out ++ [p] := by
      rw [Zcq hp', hk', List.drop_length, List.take_length]; rfl
     have hkn : ((k : Nat) : Int).toNat = k := Int.toNat_natCast k
     obtain ⟨a1, n1, c1, k1, h1, q1, q2, _, _⟩ := JF out p (Ze8 hid hg) (by omega)
     obtain ⟨a2, n2, c2', k2, q3, q4, _⟩ := Zuc (cap := some 0) q2
     refine ⟨rfl, ⟨by omega, by omega⟩, .inr ⟨by rw [hkn, hk', Nat.sub_self]; exact Zoj hg, rfl, ⟨by omega, by show _ ≤ ((out.length : Nat) : Int); omega⟩, a1, n1, c1, k1, h1, by rw [hkn, hk', Nat.sub_zero]; exact q1, a2, n2, c2', k2, h1, q3, same _ _ _ _ _ (Zfg (e ▸ q4) (Zis _ _)) _ (.inr rfl)⟩⟩
   refine Zq UK (fun K => Zzi (row ZC ins) ins.length (row ZD ws) ws.length use none (row encI L) L.length id out.length (i : Nat) (k : Nat) p h' K) rfl ?_
   refine Zg (fun hlt => ?_) (fun hge => ?_)
   ·refine ⟨bnd_nat hlt, rfl, _, cell hlt, Zw (fun g => ?_) (fun g => ?_)⟩
    ·refine ⟨rfl, out.length - (k + 1), by omega, k + 1, by rw [Zf (by omega)]; rfl, by omega, rfl, fun x hx => ?_, rfl⟩
     rw [List.take_succ_eq_append_getElem hlt, List.mem_append] at hx
     rcases hx with hx | hx
     ·exact hp' x hx
     ·simp at hx; subst hx; exact g
    ·exact Ze [2, 3, 4, 7, 8, 9, 11, 12] (by kernel_rfl) rfl rfl (stop fun _ => Int.not_lt.2 g)
   ·exact Ze [2, 3, 4, 7, 8, 9, 11, 12] (by kernel_rfl) rfl rfl (stop fun h => absurd h (by omega))
 ·refine Zjq fun vs2 ht => Jh [7] ht (by kernel_rfl) rfl rfl rfl ?_
  refine ZB UK (fun K => Zzl a n c k h K) rfl ?_
  rw [List.take_of_length_le hge] at hO
  exact Zs (.inr rfl) rfl (hO.lst.frz (by decide) ZV) rfl
end Go.Y
