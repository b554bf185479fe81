/- The walker: its memory, and how a node is met. -/
import Derived.Test.YtdoanndgjipbmaaGTar2
import Derived.Test.YtdoanndgjipbmaaGX5
import Derived.Test.YtdoanndgjipbmaaGCool
namespace Go.Y
open Go.Proofs
set_option maxRecDepth 100000

/-- Where a walker's parts lie. -/
structure WkI where
  id : Nat
  im : Nat
  il : Nat
  io : Nat
  ip : Nat
  n : Nat
  gv : V
def WkI.ids (I : WkI) : List Nat := [I.id, I.im, I.il, I.io, I.ip]
def WkI.own (I : WkI) (a : Option Nat) (j : Nat) : Prop := j ∈ I.ids ∨ a = some j

/-- What a walker knows. -/
structure WkS where
  met : List Nat
  low : List Nat
  part : List Nat
  on : List Bool
  op : List Nat
  parts : Nat

def WkI.cells (I : WkI) (sl : V) (parts : Nat) : List V := [I.gv, .sl (some (I.im, 0)) I.n (some I.n) 1, .sl (some (I.il, 0)) I.n (some I.n) 1, sl, .sl (some (I.io, 0)) I.n (some I.n) 1, .sl (some (I.ip, 0)) I.n (some I.n) 1, .i .i64 (parts : Nat)]

structure WkR (I : WkI) (h : Heap) (a : Option Nat) (s : WkS) (sl : V) : Prop where
  stk : Stk h 1 a sl (nums s.op)
  w : h.get I.id = some (.arr (I.cells sl s.parts) true)
  m : h.get I.im = some (.arr (nums s.met) true)
  l : h.get I.il = some (.arr (nums s.low) true)
  o : h.get I.io = some (.arr (bools s.on) true)
  p : h.get I.ip = some (.arr (nums s.part) true)
  ml : s.met.length = I.n
  ll : s.low.length = I.n
  ol : s.on.length = I.n
  pl : s.part.length = I.n
  nd : I.ids.Nodup
  na : ∀ j, a = some j → j ∉ I.ids
  lt : ∀ j ∈ I.ids, j < h.nx

theorem WkI.nds {I : WkI} (h : I.ids.Nodup) : (I.id ≠ I.im ∧ I.id ≠ I.il ∧ I.id ≠ I.io ∧ I.id ≠ I.ip) ∧ (I.im ≠ I.il ∧ I.im ≠ I.io ∧ I.im ≠ I.ip) ∧ (I.il ≠ I.io ∧ I.il ≠ I.ip) ∧ I.io ≠ I.ip := by
  simpa [WkI.ids] using h

section
variable {I : WkI} {h : Heap} {a : Option Nat} {s : WkS} {sl : V}

theorem WkR.stk_set (r : WkR I h a s sl) {j : Nat} (hj : j ∈ I.ids) (o : Option YObj) : Stk (h.set j o) 1 a sl (nums s.op) :=
  r.stk.fr (by simp) fun i hi => by rw [Heap.get_set, if_neg (fun e => r.na i hi (by rw [e]; exact hj))]

theorem WkR.setM (r : WkR I h a s sl) (i x : Nat) : WkR I (h.set I.im (some (.arr (nums (s.met.set i x)) true))) a { s with met := s.met.set i x } sl := by
  obtain ⟨⟨d1, d2, d3, d4⟩, ⟨d5, d6, d7⟩, ⟨d8, d9⟩, d10⟩ := WkI.nds r.nd
  exact { stk := r.stk_set (by simp [WkI.ids]) _, w := by rw [Heap.get_set, if_neg d1]; exact r.w, m := by rw [Heap.get_set, if_pos rfl], l := by rw [Heap.get_set, if_neg d5.symm]; exact r.l,
          o := by rw [Heap.get_set, if_neg d6.symm]; exact r.o, p := by rw [Heap.get_set, if_neg d7.symm]; exact r.p, ml := by simpa using r.ml, ll := r.ll, ol := r.ol, pl := r.pl, nd := r.nd, na := r.na, lt := r.lt }
theorem WkR.setL (r : WkR I h a s sl) (i x : Nat) : WkR I (h.set I.il (some (.arr (nums (s.low.set i x)) true))) a { s with low := s.low.set i x } sl := by
  obtain ⟨⟨d1, d2, d3, d4⟩, ⟨d5, d6, d7⟩, ⟨d8, d9⟩, d10⟩ := WkI.nds r.nd
  exact { stk := r.stk_set (by simp [WkI.ids]) _, w := by rw [Heap.get_set, if_neg d2]; exact r.w, l := by rw [Heap.get_set, if_pos rfl], m := by rw [Heap.get_set, if_neg d5]; exact r.m,
          o := by rw [Heap.get_set, if_neg d8.symm]; exact r.o, p := by rw [Heap.get_set, if_neg d9.symm]; exact r.p, ll := by simpa using r.ll, ml := r.ml, ol := r.ol, pl := r.pl, nd := r.nd, na := r.na, lt := r.lt }
theorem WkR.setO (r : WkR I h a s sl) (i : Nat) (x : Bool) : WkR I (h.set I.io (some (.arr (bools (s.on.set i x)) true))) a { s with on := s.on.set i x } sl := by
  obtain ⟨⟨d1, d2, d3, d4⟩, ⟨d5, d6, d7⟩, ⟨d8, d9⟩, d10⟩ := WkI.nds r.nd
  exact { stk := r.stk_set (by simp [WkI.ids]) _, w := by rw [Heap.get_set, if_neg d3]; exact r.w, o := by rw [Heap.get_set, if_pos rfl], m := by rw [Heap.get_set, if_neg d6]; exact r.m,
          l := by rw [Heap.get_set, if_neg d8]; exact r.l, p := by rw [Heap.get_set, if_neg d10.symm]; exact r.p, ol := by simpa using r.ol, ml := r.ml, ll := r.ll, pl := r.pl, nd := r.nd, na := r.na, lt := r.lt }
theorem WkR.setP (r : WkR I h a s sl) (i x : Nat) : WkR I (h.set I.ip (some (.arr (nums (s.part.set i x)) true))) a { s with part := s.part.set i x } sl := by
  obtain ⟨⟨d1, d2, d3, d4⟩, ⟨d5, d6, d7⟩, ⟨d8, d9⟩, d10⟩ := WkI.nds r.nd
  exact { stk := r.stk_set (by simp [WkI.ids]) _, w := by rw [Heap.get_set, if_neg d4]; exact r.w, p := by rw [Heap.get_set, if_pos rfl], m := by rw [Heap.get_set, if_neg d7]; exact r.m,
          l := by rw [Heap.get_set, if_neg d9]; exact r.l, o := by rw [Heap.get_set, if_neg d10]; exact r.o, pl := by simpa using r.pl, ml := r.ml, ll := r.ll, ol := r.ol, nd := r.nd, na := r.na, lt := r.lt }
/-- The walker's own object is turned. -/
theorem WkR.setW (r : WkR I h a s sl) {h' : Heap} {a' : Option Nat} {sl' : V} {op' : List Nat} {parts' : Nat} (hst : Stk h' 1 a' sl' (nums op')) (hf : FrS h (fun j => a = some j) h') (hn : ∀ j, a' = some j → a = some j ∨ h.nx ≤ j) :
    WkR I (h'.set I.id (some (.arr (I.cells sl' parts') true))) a' { s with op := op', parts := parts' } sl' := by
  obtain ⟨⟨d1, d2, d3, d4⟩, ⟨d5, d6, d7⟩, ⟨d8, d9⟩, d10⟩ := WkI.nds r.nd
  have hna : ∀ j, a' = some j → j ∉ I.ids := fun j hj hm => by
    rcases hn j hj with h1 | h1
    · exact r.na j h1 hm
    · have := r.lt j hm; omega
  have keep : ∀ j ∈ I.ids, j ≠ I.id → (h'.set I.id (some (.arr (I.cells sl' parts') true))).get j = h.get j := fun j hj hne => by
    rw [Heap.get_set, if_neg hne]; exact hf.2 j (r.lt j hj) fun e => r.na j e hj
  exact { stk := hst.fr (by simp) fun i hi => by rw [Heap.get_set, if_neg (fun e => hna i hi (by rw [e]; simp [WkI.ids]))], w := by rw [Heap.get_set, if_pos rfl],
          m := by rw [keep I.im (by simp [WkI.ids]) d1.symm]; exact r.m, l := by rw [keep I.il (by simp [WkI.ids]) d2.symm]; exact r.l, o := by rw [keep I.io (by simp [WkI.ids]) d3.symm]; exact r.o, p := by rw [keep I.ip (by simp [WkI.ids]) d4.symm]; exact r.p,
          ml := r.ml, ll := r.ll, ol := r.ol, pl := r.pl, nd := r.nd, na := hna, lt := fun j hj => by have := r.lt j hj; have := hf.1; simp; omega }

theorem WkI.cell (I : WkI) (sl : V) (parts : Nat) : (I.cells sl parts)[0]? = some I.gv ∧ (I.cells sl parts)[1]? = some (.sl (some (I.im, 0)) I.n (some I.n) 1) ∧ (I.cells sl parts)[2]? = some (.sl (some (I.il, 0)) I.n (some I.n) 1) ∧
    (I.cells sl parts)[3]? = some sl ∧ (I.cells sl parts)[4]? = some (.sl (some (I.io, 0)) I.n (some I.n) 1) ∧ (I.cells sl parts)[5]? = some (.sl (some (I.ip, 0)) I.n (some I.n) 1) ∧ (I.cells sl parts)[6]? = some (.i .i64 (parts : Nat)) := ⟨rfl, rfl, rfl, rfl, rfl, rfl, rfl⟩

theorem Stk.form {h : Heap} {k : Nat} {a : Option Nat} {sl : V} {cs : List V} (s : Stk h k a sl cs) : ∃ b l c kk, sl = .sl b l c kk := by
  rcases s with ⟨_, _, c, kk, h⟩ | ⟨id, _, l, _, h, _⟩
  · exact ⟨_, _, _, _, h⟩
  · exact ⟨_, _, _, _, h⟩

/-- A node is met. -/
def WkS.meet (s : WkS) (i number : Nat) : WkS := { s with met := s.met.set i number, low := s.low.set i number, op := s.op ++ [i], on := s.on.set i true }

theorem at1 (i : Nat) : (0 : Nat) + (i : Int).toNat * 1 = i := by simp

/-- What a function of the walker leaves. -/
def WkQ (I : WkI) (h : Heap) (a : Option Nat) (s' : WkS) (h' : Heap) : Prop := ∃ a' sl', WkR I h' a' s' sl' ∧ FrS h (I.own a) h' ∧ ∀ j, a' = some j → a = some j ∨ h.nx ≤ j

theorem meet_con (r : WkR I h a s sl) {i number : Nat} (hi : i < I.n) (hn : s.op.length < 2 ^ 30) :
    Con Try.Y 28 [.p (some (I.id, 0)), .i .i64 (i : Nat), .i .i64 (number : Nat)] h fun v h' => v = .tup [] ∧ WkQ I h a (s.meet i number) h' := by
  refine conf_of Try.Yok (fn := Try.f28) (by kernel_rfl) (by kernel_rfl) (end_rule Try.Yok (loc := Try.Y.loc 28) 100 [] ?_)
  rw [show (⟨[.p (some (I.id, 0)), .i .i64 (i : Nat), .i .i64 (number : Nat)] ++ List.replicate (Try.f28.ntmps - [V.p (some (I.id, 0)), .i .i64 (i : Nat), .i .i64 (number : Nat)].length) .undef, [], h⟩ : St) = ⟨.p (some (I.id, 0)) :: .i .i64 (i : Nat) :: .i .i64 (number : Nat) :: List.replicate 33 .undef, [], h⟩ by rfl, f28_0]
  obtain ⟨c0, c1, c2, c3, c4, c5, c6⟩ := I.cell sl s.parts
  have hb : (0 : Int) ≤ (i : Nat) ∧ ((i : Nat) : Int) < (I.n : Nat) := ⟨by omega, by omega⟩
  refine ⟨_, _, _, _, hcells_at r.w c1, _, _, _, _, hcells_at r.w c2, hb, rfl, ?_⟩
  rw [at1]
  refine ⟨_, hstore_at r.m _ (by rw [nums_length, r.ml]; exact hi), hb, rfl, ?_⟩
  rw [nums_set, at1]
  have r1 := r.setM i number
  refine ⟨_, hstore_at r1.l _ (by rw [nums_length]; have := r1.ll; omega), ?_⟩
  rw [nums_set]
  have r2 := r1.setL i number
  obtain ⟨b, l, c, kk, hsl⟩ := r.stk.form
  obtain ⟨q0, q1, q2, q3, q4, q5, q6⟩ := I.cell sl s.parts
  refine ⟨b, l, c, kk, by rw [← hsl]; exact hcells_at r2.w q3, ?_⟩
  obtain ⟨j, l', h3, g1, g2, g3, g4⟩ := Stk.push (Y := Try.Y) (st := 26) (e := 3) (te := ⟨1, 8, .int .i64, [.i .i64 0]⟩) (new := [.i .i64 (i : Nat)]) (cap := some 1) (by kernel_rfl) (by kernel_rfl) rfl (by decide) r2.stk rfl rfl (by
    have : (nums s.op).length = s.op.length := nums_length _
    have hm : most = 1099511627776 := by decide
    show ((nums s.op).length + 1) * 8 ≤ most
    omega) (by
    have : (nums s.op).length = s.op.length := nums_length _
    have hm : most = 1099511627776 := by decide
    show (nums s.op).length + 1 ≤ most
    omega)
  rw [hsl] at g1
  refine ⟨_, _, _, _, h3, g1, ?_⟩
  have hw : h3.get I.id = some (.arr (I.cells sl s.parts) true) := by
    rw [g3.2 I.id (r2.lt I.id (by simp [WkI.ids])) fun e => r2.na I.id e (by simp [WkI.ids])]; exact r2.w
  refine ⟨_, hstore_at hw (i := 3) _ (show 3 < 7 by decide), ?_⟩
  have hcs : (I.cells sl s.parts).set 3 (.sl (some (j, 0)) l' none 1) = I.cells (.sl (some (j, 0)) l' none 1) s.parts := rfl
  rw [hcs]
  have hop : nums s.op ++ [V.i .i64 ((i : Nat) : Int)] = nums (s.op ++ [i]) := by simp [nums]
  have g2' := g2
  rw [show nums ({ ({ s with met := s.met.set i number } : WkS) with low := s.low.set i number } : WkS).op ++ [V.i .i64 ((i : Nat) : Int)] = nums (s.op ++ [i]) from hop] at g2'
  have r3 := r2.setW (parts' := s.parts) (a' := some j) g2' g3 (fun x hx => by
    simp only [Option.some.injEq] at hx; subst hx
    exact g4)
  obtain ⟨u0, u1, u2, u3, u4, u5, u6⟩ := I.cell (.sl (some (j, 0)) l' none 1) s.parts
  refine ⟨_, _, _, _, hcells_at r3.w u4, hb, rfl, ?_⟩
  rw [at1]
  refine ⟨_, hstore_at r3.o _ (by rw [bools_length]; have := r3.ol; omega), .inl rfl, .tup [], rfl, rfl, some j, _, by rw [bools_set]; exact r3.setO i true, ?_, ?_⟩
  · have f1 : FrS h (I.own a) (h.set I.im (some (.arr (nums (s.met.set i number)) true))) := (FrS.set _ _ _).mono fun x _ e => .inl (by rw [e]; simp [WkI.ids])
    have f2 := f1.trans ((FrS.set _ I.il (some (.arr (nums (s.low.set i number)) true))).mono fun x _ e => .inl (by rw [e]; simp [WkI.ids]))
    have f3 := f2.trans (g3.mono fun x _ e => .inr e)
    have f4 := f3.trans ((FrS.set h3 I.id (some (.arr (I.cells (.sl (some (j, 0)) l' none 1) s.parts) true))).mono fun x _ e => .inl (by rw [e]; simp [WkI.ids]))
    exact f4.trans ((FrS.set _ I.io _).mono fun x _ e => .inl (by rw [e]; simp [WkI.ids]))
  · intro x hx
    simp only [Option.some.injEq] at hx; subst hx
    exact g4
end
end Go.Y

/- The walker: a part is shut. -/
namespace Go.Y
open Go.Proofs
set_option maxRecDepth 100000

/-- Some nodes left the list of what is open, for the part of that number. -/
structure Left (s : WkS) (A C : List Nat) (s' : WkS) : Prop where
  met : s'.met = s.met
  low : s'.low = s.low
  op : s'.op = A
  on : ∀ u, s'.on.getD u false = if u ∈ C then false else s.on.getD u false
  part : ∀ u, s'.part.getD u 0 = if u ∈ C then s.parts else s.part.getD u 0

theorem getD_setN {l : List Nat} {i x u : Nat} (hi : i < l.length) : (l.set i x).getD u 0 = if u = i then x else l.getD u 0 := by
  simp only [List.getD_eq_getElem?_getD, List.getElem?_set]
  by_cases h : i = u
  · subst h; simp [hi]
  · have : ¬ u = i := fun e => h e.symm
    simp [h, this]
theorem getD_setB {l : List Bool} {i u : Nat} {x : Bool} (hi : i < l.length) : (l.set i x).getD u false = if u = i then x else l.getD u false := by
  simp only [List.getD_eq_getElem?_getD, List.getElem?_set]
  by_cases h : i = u
  · subst h; simp [hi]
  · have : ¬ u = i := fun e => h e.symm
    simp [h, this]

def ShutI (I : WkI) (h0 : Heap) (a0 : Option Nat) (s0 : WkS) (A B : List Nat) (v : Nat) (m : Nat) (vs : List V) (h : Heap) : Prop :=
  ∃ (B1 B2 : List Nat) (s : WkS) (a : Option Nat) (sl : V), vs = [.p (some (I.id, 0)), .i .i64 (v : Nat)] ∧ B = B1 ++ B2 ∧ B1.length < m ∧ WkR I h a s sl ∧ Left s0 (A ++ v :: B1) B2 s ∧ s.parts = s0.parts ∧ FrS h0 (I.own a0) h ∧ (∀ j, a = some j → a0 = some j ∨ h0.nx ≤ j)

theorem FrS.own {I : WkI} {h0 h h' : Heap} {a0 a : Option Nat} (f : FrS h0 (I.own a0) h) (ha : ∀ j, a = some j → a0 = some j ∨ h0.nx ≤ j) (g : FrS h (I.own a) h') : FrS h0 (I.own a0) h' :=
  ⟨Nat.le_trans f.1 g.1, fun j hj hn => by
    rw [g.2 j (Nat.lt_of_lt_of_le hj f.1) fun hq => ?_, f.2 j hj hn]
    rcases hq with hq | hq
    · exact hn (.inl hq)
    · rcases ha j hq with h1 | h1
      · exact hn (.inr h1)
      · omega⟩

theorem shut_con {I : WkI} {h : Heap} {a : Option Nat} {s : WkS} {sl : V} (r : WkR I h a s sl) {A B : List Nat} {v : Nat} (ho : s.op = A ++ v :: B) (hv : v ∉ B) (hop : ∀ u ∈ s.op, u < I.n) (hlen : s.op.length < 2 ^ 30) (hpb : s.parts < 2 ^ 30) :
    Con Try.Y 29 [.p (some (I.id, 0)), .i .i64 (v : Nat)] h fun w h' => w = .tup [] ∧ ∃ s', Left s A (v :: B) s' ∧ s'.parts = s.parts + 1 ∧ WkQ I h a s' h' := by
  refine conf_of Try.Yok (fn := Try.f29) (by kernel_rfl) (by kernel_rfl) ?_
  refine pre_rule Try.Yok (n := 57) (loc := Try.Y.loc 29) 100 [0, 1] (by kernel_rfl) ?_
  rw [show (⟨[.p (some (I.id, 0)), .i .i64 (v : Nat)] ++ List.replicate (Try.f29.ntmps - [V.p (some (I.id, 0)), .i .i64 (v : Nat)].length) .undef, [], h⟩ : St) = ⟨.p (some (I.id, 0)) :: .i .i64 (v : Nat) :: List.replicate 55 .undef, [], h⟩ by rfl, f29_0]
  have r0 : Left s (A ++ v :: B) [] s := ⟨rfl, rfl, ho, fun u => by simp, fun u => by simp⟩
  refine ⟨rfl, loop2 [0, 1] [0, 1] rfl (by kernel_rfl) (ShutI I h a s A B v) (B.length + 1) mk_len ⟨B, [], s, a, sl, rfl, by simp, by omega, r, r0, rfl, .refl _ _, fun j hj => .inl hj⟩ ?_⟩
  rintro m vs h1 ⟨B1, B2, s1, a1, sl1, rfl, hB, hm, r1, hL, hpp, hf, ha1⟩
  refine all_rule Try.Yok (loc := Try.Y.loc 29) 100 [0, 1] ?_
  rw [f29_1]
  -- the last that is open
  obtain ⟨P, x, hPx, hcase⟩ : ∃ (P : List Nat) (x : Nat), s1.op = P ++ [x] ∧ ((B1 = [] ∧ x = v ∧ P = A) ∨ ∃ B0, B1 = B0 ++ [x] ∧ P = A ++ v :: B0) := by
    rw [hL.op]
    rcases List.eq_nil_or_concat B1 with h0 | ⟨B0, x, h0⟩
    · exact ⟨A, v, by rw [h0], .inl ⟨h0, rfl, rfl⟩⟩
    · refine ⟨A ++ v :: B0, x, by rw [h0]; simp, .inr ⟨B0, by simpa using h0, rfl⟩⟩
  have hxo : x ∈ s.op := by
    rw [ho, hB]
    rcases hcase with ⟨_, h2, _⟩ | ⟨B0, h2, _⟩
    · simp [h2]
    · simp [h2]
  have hxn : x < I.n := hop x hxo
  have hPl : P.length < 2 ^ 30 := by
    have h2 : s1.op.length ≤ s.op.length := by rw [hL.op, ho, hB]; simp
    rw [hPx] at h2; simp at h2; omega
  have hst := r1.stk
  rw [hPx, nums_append] at hst
  have hsl1 : ∃ id l c kk, sl1 = .sl (some (id, 0)) l c kk := by
    rcases hst with ⟨_, h2, _⟩ | ⟨id, ext, l, _, h3, _⟩
    · simp [nums] at h2
    · exact ⟨id, l, none, 1, h3⟩
  obtain ⟨id, l, c, kk, rfl⟩ := hsl1
  obtain ⟨rfl, rfl, rfl, hl1, hst2, hl2, ext, hget⟩ := hst.pop (by decide) rfl
  rw [Nat.mul_one, nums_length] at hl2
  obtain ⟨c0, c1, c2, c3, c4, c5, c6⟩ := I.cell (.sl (some (id, 0)) l none 1) s1.parts
  have wl : IntKind.i64.wrap ((l : Int) - (1 : Int)) = ((P.length : Nat) : Int) := by rw [wrap_ok (by omega) (by omega)]; omega
  have hidx : (nums P ++ nums [x] ++ ext)[P.length]? = some (.i .i64 (x : Nat)) := by
    rw [List.append_assoc, List.getElem?_append_right (by simp)]; simp [nums]
  refine ⟨_, _, _, _, hcells_at r1.w c3, _, _, _, _, hcells_at r1.w c3, ?_⟩
  rw [wl]
  refine ⟨⟨by omega, by omega⟩, rfl, (x : Nat), by rw [at1]; exact hcells_at hget hidx, _, _, _, _, hcells_at r1.w c3, _, _, _, _, hcells_at r1.w c3, ?_⟩
  refine ⟨rfl, ⟨by rw [wl]; omega, by rw [wl]; show ((P.length : Nat) : Int) ≤ (l : Nat); omega⟩, ?_⟩
  have hv3 : V.sl (some (id, 0 + (0 : Nat) * 1)) ((IntKind.i64.wrap ((l : Int) - (1 : Int))).toNat - (0 : Nat)) (Option.map (fun (x : Nat) => x - (0 : Nat)) none) 1 = .sl (some (id, 0)) (l - 1) none 1 := by
    rw [wl, hl2]; simp
  rw [hv3]
  refine ⟨_, hstore_at r1.w (i := 3) _ (show 3 < 7 by decide), ?_⟩
  rw [show (I.cells (.sl (some (id, 0)) l none 1) s1.parts).set 3 (.sl (some (id, 0)) (l - 1) none 1) = I.cells (.sl (some (id, 0)) (l - 1) none 1) s1.parts from rfl]
  have r2 := r1.setW (parts' := s1.parts) (op' := P) hst2 (.refl _ _) (fun j hj => .inl hj)
  obtain ⟨d0, d1, d2, d3, d4, d5, d6⟩ := I.cell (.sl (some (id, 0)) (l - 1) none 1) s1.parts
  have hb : (0 : Int) ≤ (x : Nat) ∧ ((x : Nat) : Int) < (I.n : Nat) := ⟨by omega, by omega⟩
  refine ⟨_, _, _, _, hcells_at r2.w d4, hb, rfl, ?_⟩
  rw [at1]
  refine ⟨_, hstore_at r2.o _ (by rw [bools_length]; have := r2.ol; omega), ?_⟩
  rw [bools_set]
  have r3 := r2.setO x false
  refine ⟨_, _, _, _, hcells_at r3.w d5, _, hcells_at r3.w d6, hb, rfl, ?_⟩
  rw [at1]
  refine ⟨_, hstore_at r3.p _ (by rw [nums_length]; have := r3.pl; omega), ?_⟩
  rw [nums_set]
  have r4 := r3.setP x s1.parts
  have f4 : FrS h1 (I.own (some id)) ((((h1.set I.id (some (.arr (I.cells (.sl (some (id, 0)) (l - 1) none 1) s1.parts) true))).set I.io (some (.arr (bools (s1.on.set x false)) true))).set I.ip (some (.arr (nums (s1.part.set x s1.parts)) true)))) :=
    (((FrS.set h1 I.id _).mono fun y _ e => .inl (by rw [e]; simp [WkI.ids])).trans ((FrS.set _ I.io _).mono fun y _ e => .inl (by rw [e]; simp [WkI.ids]))).trans ((FrS.set _ I.ip _).mono fun y _ e => .inl (by rw [e]; simp [WkI.ids]))
  have f5 := hf.own ha1 f4
  have hon : ∀ u, (s1.on.set x false).getD u false = if u = x ∨ u ∈ B2 then false else s.on.getD u false := fun u => by
    rw [getD_setB (by have := r1.ol; omega), hL.on u]
    by_cases h2 : u = x
    · simp [h2]
    · simp [h2]
  have hpt : ∀ u, (s1.part.set x s1.parts).getD u 0 = if u = x ∨ u ∈ B2 then s.parts else s.part.getD u 0 := fun u => by
    rw [getD_setN (by have := r1.pl; omega), hL.part u, hpp]
    by_cases h2 : u = x
    · simp [h2]
    · simp [h2]
  rcases hcase with ⟨hB1, hxv, hPA⟩ | ⟨B0, hB1, hPA⟩
  · -- it is the node itself
    subst hxv hPA
    rw [hB1, List.nil_append] at hB
    refine if_mk (fun _ => ?_) (fun hc => by simp at hc)
    refine roundW_exit [0] (by kernel_rfl) rfl rfl ?_
    refine end_rule Try.Yok (loc := Try.Y.loc 29) 100 [] ?_
    rw [show pick [0, 1] [0] [V.p (some (I.id, 0)), .i .i64 (x : Nat)] = [V.p (some (I.id, 0))] by rfl, f29_2]
    have hw6 : IntKind.i64.wrap (((s1.parts : Nat) : Int) + 1) = ((s1.parts + 1 : Nat) : Int) := wrap_succ (by omega)
    refine ⟨_, hcells_at r4.w d6, _, hstore_at r4.w (i := 6) _ (show 6 < 7 by decide), .inl rfl, .tup [], rfl, rfl, { met := s1.met, low := s1.low, part := s1.part.set x s1.parts, on := s1.on.set x false, op := P, parts := s1.parts + 1 }, ⟨hL.met, hL.low, rfl, fun u => ?_, fun u => ?_⟩, ?_, ?_⟩
    · show (s1.on.set x false).getD u false = _
      rw [hon u, hB]; simp
    · show (s1.part.set x s1.parts).getD u 0 = _
      rw [hpt u, hB]; simp
    · show s1.parts + 1 = _
      rw [hpp]
    · rw [hw6, show (I.cells (.sl (some (id, 0)) (l - 1) none 1) s1.parts).set 6 (.i .i64 ((s1.parts + 1 : Nat) : Int)) = I.cells (.sl (some (id, 0)) (l - 1) none 1) (s1.parts + 1) from rfl]
      exact ⟨some id, _, r4.setW (parts' := s1.parts + 1) (op' := P) r4.stk (.refl _ _) (fun j hj => .inl hj), f5.trans ((FrS.set _ I.id _).mono fun y _ e => .inl (by rw [e]; simp [WkI.ids])), ha1⟩
  · have hne : x ≠ v := fun e => hv (by rw [hB, hB1, ← e]; simp)
    refine if_mk (fun hc => ?_) (fun _ => ?_)
    · have : ((x : Nat) : Int) = (v : Nat) := by simpa using hc
      omega
    · refine ⟨rfl, m - 1, by omega, B0, x :: B2, _, _, _, rfl, by rw [hB, hB1]; simp, by rw [hB1] at hm; simp at hm; omega, r4, ⟨hL.met, hL.low, hPA, fun u => ?_, fun u => ?_⟩, hpp, f5, ha1⟩
      · show (s1.on.set x false).getD u false = _
        rw [hon u]; simp
      · show (s1.part.set x s1.parts).getD u 0 = _
        rw [hpt u]; simp
end Go.Y
