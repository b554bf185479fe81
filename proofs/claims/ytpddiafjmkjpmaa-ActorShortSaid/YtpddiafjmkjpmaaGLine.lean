/- What is typed, by contracts over the typist's memory. -/
import Derived.Test.YtpddiafjmkjpmaaGPipe5
import Derived.Test.YtpddiafjmkjpmaaGD6
import Derived.Test.YtpddiafjmkjpmaaGD5
namespace Go.Y
open Go.Proofs
set_option maxRecDepth 100000
set_option maxHeartbeats 1000000

abbrev typC (s : Side) (cap : Int) (l : List Plc) : List V := sideC s ++ peerC cap l

theorem place_echo {l : List Plc} {p : Int} (p0 : 0 ≤ p) (p1 : p < l.length) : takeX 1 (List.drop 1 (List.drop (p.toNat * 3) (row encPl l))) = some [.b (echoAt l p)] := by
  have hlt : p.toNat < l.length := by omega
  rw [row_cons encPl_len l hlt]
  unfold echoAt
  rw [List.getElem?_eq_getElem hlt]
  rfl

theorem echo_con (s : Side) (cap : Int) (l : List Plc) (t : List UInt8) {h : Heap} {id : Nat} (hg : h.get id = some (.arr (typC s cap l) true)) (p0 : 0 ≤ s.place) (p1 : s.place < l.length) (hl : s.ages.length < 2 ^ 29) (hf : s.fly.length < 2 ^ 30) (ht : t.length < 2 ^ 29) (h0 : t ≠ []) :
    Con Try.Y 108 [.p (some (id, 0)), .s t] h fun v h' => v = .tup [] ∧ h'.get id = some (.arr (typC (echoS s cap l t) cap l) true) ∧ h'.nx = h.nx := by
  refine conz_of Try.Yok (fn := Try.f108) (by kernel_rfl) (by kernel_rfl) (end_rule Try.Yok (loc := Try.Y.loc 108) 100 [] ?_)
  refine Eq.mpr (f108_0 id t h _) ?_
  refine ⟨row encPl l, l.length, none, by rw [hcells_of hg]; rfl, s.place, by rw [hcells_of hg]; rfl, ⟨p0, p1⟩, echoAt l s.place, place_echo p0 p1, if_mk (fun he => ?_) (fun he => ?_)⟩
  · refine ⟨s.on, s.shut, s.eof, s.place, s.clock, s.typed, row encT s.lines, s.lines.length, none, s.fly, row encI s.ages, s.ages.length, none, s.ready, s.buffer, by rw [hcells_of hg]; rfl, cap, row encPl l, l.length, none, by rw [hcells_of hg]; rfl, ?_⟩
    have ew : echoS s cap l t = (writeS s cap t).1 := by unfold echoS; rw [if_pos he]
    rw [ew]
    generalize hw : writeS s cap t = w
    refine ⟨w.1.on, w.1.shut, w.1.eof, w.1.place, w.1.clock, w.1.typed, row encT w.1.lines, w.1.lines.length, none, w.1.fly, row encI w.1.ages, w.1.ages.length, none, w.1.ready, w.1.buffer, w.2, ?_, h.set id (some (.arr (typC w.1 cap l) true)), ?_, ?_⟩
    · rw [← hw]; exact write_con s cap (row encPl l) l.length t hl hf ht h0
    · simp only [hstore, hg]
      rfl
    · exact finC (.inl rfl) rfl (.now ⟨rfl, by rw [Heap.get_set, if_pos rfl], rfl⟩)
  · have ew : echoS s cap l t = s := by unfold echoS; rw [he]; rfl
    rw [ew]
    exact finC (.inl rfl) rfl (.now ⟨rfl, hg, rfl⟩)

theorem colds1_rowT (l : List (List UInt8)) : colds1 (row encT l) = true := by
  rw [row_one]
  induction l with
  | nil => rfl
  | cons a l ih => simp only [List.map_cons, colds1, ih, Bool.and_true]; rfl
theorem rowT_all (l : List (List UInt8)) : allCells (row encT l) = true := by
  rw [row_one]
  induction l with
  | nil => rfl
  | cons a l ih => simp only [List.map_cons, allCells, ih, Bool.and_true]; rfl
theorem lst_obj {h : Heap} {id : Nat} {l : List (List UInt8)} (hid : id < h.nx) (hg : h.get id = some (.arr (row encT l) true)) : Lst encT 1 h (some (id, 0)) l.length none 1 l :=
  ⟨⟨row encT l, ⟨by rw [row_length encT_len], .inr ⟨id, rfl, rfl, rfl, hid, hg⟩⟩, colds1_rowT l, frzL_row (f := encT) (fun _ => rfl) _ l⟩, rfl⟩

theorem FrzAL.side {h : Heap} {s : Side} {ln ln' ag : V} (m : List V) (hl : FrzA h ln ln') : FrzAL h (sideL s ln ag ++ m) (sideL s ln' ag ++ m) :=
  .cons _ _ _ _ (.same _) (.cons _ _ _ _ (.same _) (.cons _ _ _ _ (.same _) (.cons _ _ _ _ (.same _) (.cons _ _ _ _ (.same _) (.cons _ _ _ _ (.same _) (.cons _ _ _ _ hl (FrzAL.refl _)))))))

/-- Behind a line's end. -/
theorem byte_tail (s : Side) (cap : Int) (l : List Plc) {h : Heap} {a : Option (Nat × Nat)} {n : Nat} {c : Option Nat} {k : Nat} (hg : h.get 0 = some (.arr (typC s cap l) true)) (hn : 0 < h.nx) (hL : Lst encT 1 h a n c k (s.lines ++ [s.typed])) (ha : ∃ j, a = some (j, 0) ∧ 0 < j)
    (p0 : 0 ≤ s.place) (p1 : s.place < l.length) (hl : s.ages.length < 2 ^ 29) (hf : s.fly.length < 2 ^ 30) {Q : Heap → Prop}
    (hq : ∀ h' : Heap, h'.get 0 = some (.arr (typC (echoS { s with lines := s.lines ++ [s.typed], typed := [] } cap l [13, 10]) cap l) true) → 0 < h'.nx → Q h') :
    ∃ h_1, hstore h 0 6 [.sl a n c k] = some h_1 ∧ ∃ h2, hstore h_1 0 5 [.s #[].toList] = some h2 ∧ Con Try.Y 108 [.p (some (0, 0)), .s #[(13 : UInt8), (10 : UInt8)].toList] h2 fun v h' => v = .tup [] ∧ Q h' := by
  obtain ⟨j, rfl, hj⟩ := ha
  let h1 : Heap := h.set 0 (some (.arr (sideL s (.sl (some (j, 0)) n c k) (lst encI s.ages) ++ peerC cap l) true))
  have g1 : h1.get 0 = some (.arr (sideL s (.sl (some (j, 0)) n c k) (lst encI s.ages) ++ peerC cap l) true) := by rw [Heap.get_set, if_pos rfl]
  let s1 : Side := { s with lines := s.lines ++ [s.typed], typed := [] }
  let h2 : Heap := h1.set 0 (some (.arr (sideL s1 (.sl (some (j, 0)) n c k) (lst encI s.ages) ++ peerC cap l) true))
  have g2 : h2.get 0 = some (.arr (sideL s1 (.sl (some (j, 0)) n c k) (lst encI s.ages) ++ peerC cap l) true) := by rw [Heap.get_set, if_pos rfl]
  have hL2 : Lst encT 1 h2 (some (j, 0)) n c k s1.lines := hL.fr (Nat.le_refl _) (fun i hi _ => by
    have : j = i := by injection hi with hi; injection hi
    subst this
    rw [Heap.get_set, if_neg (by omega), Heap.get_set, if_neg (by omega)])
  obtain ⟨D, hD1, hD2⟩ := hL2.afterZ (by decide) encT_len
  have hD0 : 0 ∉ D := fun h0 => by have := hD2 0 h0; injection this with this; injection this; omega
  refine ⟨h1, ?_, h2, ?_, ?_⟩
  · simp only [hstore, hg]; rfl
  · simp only [hstore, g1]; rfl
  · refine Con.cool D g2 hD0 (FrzAL.side _ (.frz _ _ hD1)) (FrzAL.refl _) ?_
    refine (echo_con s1 cap l [13, 10] (by rw [Heap.get_set, if_pos rfl]) p0 p1 hl hf (by decide) (by decide)).mono fun v h' ⟨e1, e2, e3⟩ => ⟨e1, hq h' e2 ?_⟩
    rw [e3]
    show 0 < (killD h2 D).nx
    rw [killD_nx]
    exact hn

/-- Clone of strings. -/
theorem clone79e (c : Option Nat) : PCon Try.Y 79 [.ts [] 0 c] (· = .ts [] 0 (some 0)) := by
  have h := clone79 (args := [.ts [] 0 c]) (h := .empty) (v := .ts [] 0 (some 0)) (h' := .empty) rfl
  refine ⟨h.body, PTr.of (coldAll_cold rfl) h.tr fun v h' hq => ⟨_, ?_, rfl⟩⟩
  rw [hq.1]; exact .ts _ _ _ _ (fun x hx => hx)
theorem rowT_len (l : List (List UInt8)) : (row encT l).length = l.length := by rw [row_one]; simp
theorem clone79n (l : List (List UInt8)) (c : Option Nat) (h : Heap) (h0 : l ≠ []) (hl : l.length < 2 ^ 30) : Con Try.Y 79 [.ts (row encT l) l.length c] h fun v h' => v = .sl (some (h.nx, 0)) l.length none 1 ∧ h' = h.push (.arr (row encT l) true) := by
  refine clone79 ?_
  cases l with
  | nil => exact absurd rfl h0
  | cons a l =>
    have := rowT_len (a :: l)
    have ha := rowT_all (a :: l)
    simp only [List.length_cons] at this hl ⊢
    have ht : takeX ((l.length + 1) * 1) (row encT (a :: l)) = some (row encT (a :: l)) := takeX_len (by omega)
    simp only [cloneV, ht, ha]
    rw [if_pos ⟨trivial, by omega⟩]

theorem kd34 : Try.Y.kd 34 = some (.slice 9) := by kernel_rfl
theorem ty9 : Try.Y.ty 9 = some ⟨1, 16, .str, [.s []]⟩ := by kernel_rfl
theorem strs_app1 (l : List (List UInt8)) (t : List UInt8) {h : Heap} {a : Option (Nat × Nat)} {n : Nat} {c : Option Nat} {k : Nat} (hL : Lst encT 1 h a n c k l) (hl : l.length < 2 ^ 29) :
    ∃ a' n' c' k' h', appendH Try.Y h 34 34 (.sl a n c k) (.ts [.s t] 1 (some 1)) = some (.sl a' n' c' k', h') ∧ Lst encT 1 h' a' n' c' k' (l ++ [t]) ∧ Fr h a h' ∧ ∃ j, a' = some (j, 0) ∧ h.nx ≤ j :=
  Lst.app1 (Y := Try.Y) (e := 9) (te := ⟨1, 16, .str, [.s []]⟩) t kd34 ty9 rfl (by decide) hL (.cons _ _ _ _ (.s _) .nil) rfl rfl rfl (by decide) hl
theorem strs_app0 (t : List UInt8) (h : Heap) : appendH Try.Y h 34 34 (.ts [] 0 (some 0)) (.ts [.s t] 1 (some 1)) = some (.sl (some (h.nx, 0)) 1 none 1, h.push (.arr [.s t] true)) :=
  clone_app (n := 0) (cs := [.s t]) kd34 ty9 (by decide) (by decide) rfl rfl (by decide) h

theorem byte_con (s : Side) (cap : Int) (l : List Plc) (c : UInt8) {h : Heap} (hg : h.get 0 = some (.arr (typC s cap l) true)) (hn : 0 < h.nx) (p0 : 0 ≤ s.place) (p1 : s.place < l.length) (hl : s.ages.length < 2 ^ 29) (hf : s.fly.length < 2 ^ 30) (hll : s.lines.length < 2 ^ 29) :
    Con Try.Y 77 [.p (some (0, 0)), .i .u8 c.toNat] h fun v h' => match byteS s cap l c with
      | none => v = .i .i64 9
      | some s' => v = .i .i64 0 ∧ h'.get 0 = some (.arr (typC s' cap l) true) ∧ 0 < h'.nx := by
  obtain ⟨t, nx, lo, tg⟩ := h
  obtain ⟨k, rfl⟩ : ∃ k, nx = k + 1 := ⟨nx - 1, by have : 0 < nx := hn; omega⟩
  refine conz_of Try.Yok (fn := Try.f77) (by kernel_rfl) (by kernel_rfl) (end_rule Try.Yok (loc := Try.Y.loc 77) 100 [4] ?_)
  refine Eq.mpr (f77_0 (c.toNat : Nat) t k lo tg _) ?_
  generalize hh : Heap.mk t (k + 1) lo tg = h at hg
  have hnx : h.nx = k + 1 := by rw [← hh]
  have cell : ∀ off n, hcells h 0 off n = takeX n ((typC s cap l).drop off) := hcells_of hg
  have u10 : (((c.toNat : Nat) : Int) == 10) = (c == 10) := by
    rw [show (10 : Int) = (((10 : UInt8).toNat : Nat) : Int) by decide, u8_eq]
  rw [u10]
  have fin : ∀ (h' : Heap) (s' : Side), byteS s cap l c = some s' → h'.get 0 = some (.arr (typC s' cap l) true) → 0 < h'.nx → Fin Try.Y Try.f77 [4] (AfterZ fun v h' => match byteS s cap l c with
      | none => v = .i .i64 9
      | some s' => v = .i .i64 0 ∧ h'.get 0 = some (.arr (typC s' cap l) true) ∧ 0 < h'.nx) .ret 68 [.i .i64 0] h' := by
    intro h' s' e1 e2 e3
    refine finC (.inr rfl) rfl (.now ?_)
    rw [e1]; exact ⟨rfl, e2, e3⟩
  refine if_mk (fun h10 => ?_) (fun h10 => if_mk (fun hx => by rw [h10] at hx; cases hx) (fun _ => ?_))
  · have hc : c = 10 := by simpa using h10
    refine ⟨row encT s.lines, s.lines.length, none, by rw [cell]; rfl, if_le (fun h2 => ?_) (fun h2 => if_mk (fun _ => ?_) (fun hx => by rw [h10] at hx; cases hx))⟩
    · refine finC (.inr rfl) rfl (.now ?_)
      have : byteS s cap l c = none := by unfold byteS; rw [if_pos hc, if_pos (by omega)]
      rw [this]
      exact rfl
    have hb : byteS s cap l c = some (echoS { s with lines := s.lines ++ [s.typed], typed := [] } cap l [13, 10]) := by unfold byteS; rw [if_pos hc, if_neg (by omega)]
    refine ⟨row encT s.lines, s.lines.length, none, by rw [cell]; rfl, ?_⟩
    by_cases h0 : s.lines = []
    · refine .inr ⟨[], 0, some 0, by rw [h0]; exact clone79e none, s.typed, by rw [cell]; rfl, .inl ⟨_, _, _, _, _, strs_app0 s.typed h, ?_⟩⟩
      refine byte_tail s cap l (by simp [hnx, hg]) (by simp) ?_ ⟨_, rfl, by omega⟩ p0 p1 hl hf (fun h' e1 e2 => fin h' _ hb e1 e2)
      have : s.lines ++ [s.typed] = [s.typed] := by rw [h0]; rfl
      rw [this]
      exact lst_obj (l := [s.typed]) (by simp) (by simp; rfl)
    · refine .inl ⟨_, _, _, _, .arr (row encT s.lines) true, clone79n s.lines none h h0 (by omega), ?_⟩
      have hp : h.putAt (k + 1) (.arr (row encT s.lines) true) = h.push (.arr (row encT s.lines) true) := by rw [← hnx, Heap.putAt_nx]
      rw [hp]
      have hg' : (h.push (.arr (row encT s.lines) true)).get 0 = some (.arr (typC s cap l) true) := by simp [hnx, hg]
      have hL : Lst encT 1 (h.push (.arr (row encT s.lines) true)) (some (h.nx, 0)) s.lines.length none 1 s.lines := lst_obj (by simp) (by simp)
      obtain ⟨a', n', c', k', h', q1, q2, q3, j, q4, q5⟩ := strs_app1 s.lines s.typed hL hll
      refine ⟨s.typed, by rw [hcells_of hg']; rfl, a', n', c', k', h', q1, ?_⟩
      have hj : h.nx + 1 ≤ j := by simpa using q5
      have hnx' : h.nx + 1 ≤ h'.nx := by have := q3.1; simpa using this
      refine byte_tail s cap l ?_ (by omega) q2 ⟨j, q4, by omega⟩ p0 p1 hl hf (fun h' e1 e2 => fin h' _ hb e1 e2)
      rw [q3.2 0 (by simp) (fun o ho => by injection ho with ho; injection ho with h1 h2; omega)]
      exact hg'
  · have hc : c ≠ 10 := by simpa using h10
    refine ⟨s.typed, by rw [cell]; rfl, if_lt (fun hlt => ?_) (fun hge => ?_)⟩
    · have hb : byteS s cap l c = some (echoS { s with typed := s.typed ++ [c] } cap l [c]) := by unfold byteS; rw [if_neg hc, if_pos (by omega)]
      have hconv : (some (Q.val (.s ((fun x : List UInt8 => UInt8.ofNat ((c.toNat : Nat) : Int).toNat :: x) []))) : Option Q) = some (Q.val (.s [c])) := by
        rw [Int.toNat_natCast]
        simp
      let h1 : Heap := h.set 0 (some (.arr (typC { s with typed := s.typed ++ [c] } cap l) true))
      refine ⟨s.typed, by rw [cell]; rfl, [c], hconv, by simp; omega, h1, ?_, [c], hconv, ?_⟩
      · simp only [hstore, hg]; rfl
      · refine (echo_con { s with typed := s.typed ++ [c] } cap l [c] (by rw [Heap.get_set, if_pos rfl]) p0 p1 hl hf (by simp) (by simp)).mono fun v h' ⟨e1, e2, e3⟩ => ⟨e1, fin h' _ hb e2 ?_⟩
        rw [e3]; show 0 < h.nx; omega
    · have hb : byteS s cap l c = some s := by unfold byteS; rw [if_neg hc, if_neg (by omega)]
      exact fin h s hb hg (by omega)
end Go.Y

/- line.Type, by its contract. -/
namespace Go.Y
open Go.Proofs
set_option maxRecDepth 100000
set_option maxHeartbeats 1000000

/-- pipe.May of any side. -/
theorem maySd_con (s : Side) (cap : Int) (l : List Plc) (hl : s.ages.length < 2 ^ 30) (hll : s.lines.length < 2 ^ 30) : PCon Try.Y 23 [.agg (sideC s), .agg (peerC cap l)] (· = .b (maySd s l.length cap (peerS cap l))) := by
  unfold maySd
  cases hon : s.on with
  | true => rw [if_pos rfl]; exact may_con s cap (row encPl l) l.length _ (peer_con cap l) hl hon hll
  | false => rw [if_neg (by decide)]; exact mayOff_con s cap (row encPl l) l.length _ (peer_con cap l) hl hon hll

def TypeI (s : Side) (cap : Int) (l : List Plc) (t : List UInt8) (m : Nat) (vs : List V) (h : Heap) : Prop :=
  ∃ (i : Nat) (s1 : Side), vs = [.s t, .lb side0, .p (some (0, 0)), .i .i64 t.length, .i .i64 (i : Nat)] ∧ i ≤ t.length ∧ m = t.length - i ∧ OkS s1 cap l.length ∧ h.get 0 = some (.arr (typC s1 cap l) true) ∧ 0 < h.nx ∧ typeL cap l (t.drop i) s1 = typeL cap l t s

theorem type_con (s : Side) (cap : Int) (l : List Plc) (t : List UInt8) (hl : s.ages.length ≤ 1000) (hll : s.lines.length ≤ 1000) (hr : s.ready.length ≤ 1000) (hf : s.fly.length ≤ 1000) (ht : t.length ≤ 1000) :
    PCon Try.Y 33 [.agg (sideC s), .agg (peerC cap l), .s t] (· = .tup [.agg (sideC (typeS s cap l t).1), .i .i64 (typeS s cap l t).2]) := by
  refine pcon_of Try.Yok (fn := Try.f33) (by kernel_rfl) (by kernel_rfl) rfl ?_
  refine pre_rule Try.Yok (n := 49) (loc := Try.Y.loc 33) 100 [2, 6, 7, 8, 31, 32] (by kernel_rfl) ?_
  refine Eq.mpr (f33_0 s.on s.shut s.eof s.place s.clock s.typed (row encT s.lines) s.lines.length s.fly (row encI s.ages) s.ages.length s.ready s.buffer cap (row encPl l) l.length t .empty _) ?_
  have bad : ∀ (so : List Nat) (vs : List V) (h : Heap) (e : Int), typeS s cap l t = (side00, e) → resV Try.Y Try.f33 (so.zip vs) = some (.tup [.agg side0, .i .i64 e]) → AtV so (FinS Try.Y Try.f33 fun v h => ∃ r, Frz h v r ∧ r = .tup [.agg (sideC (typeS s cap l t).1), .i .i64 (typeS s cap l t).2]) .ret 49 vs h := by
    intro so vs h e he hv
    refine fin_at (.inr rfl) hv ⟨_, .tup _ _ (.cons _ _ _ _ (frz_00 h) (.cons _ _ _ _ (.i _ _) .nil)), ?_⟩
    rw [he]
  refine ⟨_, maySd_con s cap l (by omega) (by omega), if_mk (fun h1 => bad _ _ _ 5 ?_ rfl) (fun h1 => if_mk (fun h2 => bad _ _ _ 11 ?_ rfl) (fun h2 => if_mk (fun h3 => bad _ _ _ 13 ?_ rfl) (fun h3 => ?_)))⟩
  · unfold typeS; rw [if_pos (by simpa using h1)]
  · unfold typeS; rw [if_neg (by simpa using h1), if_pos (by simpa using h2)]
  · unfold typeS; rw [if_neg (by simpa using h1), if_neg (by simpa using h2), if_pos h3]
  have h1 : maySd s l.length cap (peerS cap l) = true := by simpa using h1
  have h2 : s.on = true := by simpa using h2
  have hm : mayOn s l.length cap (peerS cap l) = true := by unfold maySd at h1; rw [h2] at h1; exact h1
  obtain ⟨c1, c2⟩ := peer_cap (mayOn_pm hm)
  have g0 := (OkS.of h3 h2 hr hf c1 c2 hm).1
  have hty : typeS s cap l t = match typeL cap l t s with
      | none => (side00, 9)
      | some s' => (s', 0) := by unfold typeS; rw [h1, h2, h3]; rfl
  refine ⟨rfl, loop2 [2, 6, 8, 31, 32] [2, 6, 7, 8, 31, 32] rfl (by kernel_rfl) (TypeI s cap l t) t.length mk_len ⟨0, s, rfl, by omega, by omega, g0, rfl, Nat.zero_lt_one, rfl⟩ ?_⟩
  rintro m vs h ⟨i, s1, rfl, hi, rfl, g, hg, hn, hp⟩
  refine all_rule Try.Yok (loc := Try.Y.loc 33) 100 [2, 6, 7, 8, 31, 32] ?_
  refine Eq.mpr (f33_1 t false false false 0 (i : Nat) h _) ?_
  have hrm := g.rm
  have hag := g.ag
  refine if_lt_nat (fun hlt => ?_) (fun hge => ?_)
  · refine ⟨t[i], ⟨by omega, by rw [Int.toNat_natCast]; exact List.getElem?_eq_getElem hlt⟩, ?_⟩
    refine (byte_con s1 cap l t[i] hg hn g.p0 g.p1 (by omega) (by omega) (by have := g.ln; omega)).mono fun v h' hv => ?_
    rw [List.drop_eq_getElem_cons hlt, typeL] at hp
    cases hb : byteS s1 cap l t[i] with
    | none =>
      rw [hb] at hv hp
      refine ⟨9, hv, ifY' rfl (bad _ _ _ 9 ?_ rfl)⟩
      rw [hty, ← hp]
    | some s2 =>
      rw [hb] at hv hp
      obtain ⟨e1, e2, e3⟩ := hv
      refine ⟨0, e1, ifN' rfl ⟨rfl, t.length - (i + 1), by omega, i + 1, s2, by rw [wrap_succ (by omega)]; rfl, by omega, rfl, g.byte c1 c2 hb, e2, e3, hp⟩⟩
  · refine roundW_exit [6, 8] (by kernel_rfl) rfl rfl ?_
    refine end_rule Try.Yok (loc := Try.Y.loc 33) 100 [6, 7] ?_
    refine Eq.mpr (f33_2 0 false false false h _) ?_
    have : i = t.length := by omega
    subst this
    rw [List.drop_length, typeL] at hp
    rw [← hp] at hty
    refine ⟨s1.on, s1.shut, s1.eof, s1.place, s1.clock, s1.typed, row encT s1.lines, s1.lines.length, none, s1.fly, row encI s1.ages, s1.ages.length, none, s1.ready, s1.buffer, by rw [hcells_of hg]; rfl, ?_⟩
    exact finV2 (.inr rfl) rfl (frz_sideL (frz_ts _ _ _ _) (frz_ts _ _ _ _)) (.i _ _) (by rw [hty])
end Go.Y
