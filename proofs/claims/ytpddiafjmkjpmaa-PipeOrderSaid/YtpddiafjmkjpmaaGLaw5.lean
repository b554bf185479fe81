/- PipeOrder, as a call of the abstract machine. -/
import Derived.Test.YtpddiafjmkjpmaaGPipe4
import Derived.Test.YtpddiafjmkjpmaaGPeer1
import Derived.Test.YtpddiafjmkjpmaaGA1
namespace Go.Y
open Go.Proofs
set_option maxRecDepth 100000

/-- Ages that fall, up to a bound. -/
def Dn (B : Int) (l : List Int) : Prop := (∀ a ∈ l, 0 ≤ a ∧ a ≤ B) ∧ l.Pairwise fun a b => b ≤ a
theorem Dn.down {B : Int} {l : List Int} (h : Dn B l) : downS l = true := by
  unfold downS
  rw [List.all_eq_true]
  intro j hj
  have hj : j < l.length := List.mem_range.1 hj
  have h1 := h.1 _ (List.getElem_mem hj)
  unfold okAge
  rw [List.getElem?_eq_getElem hj]
  cases j with
  | zero => simp; exact h1.1
  | succ k =>
    have hk : k < l.length := by omega
    have h2 := List.pairwise_iff_getElem.1 h.2 k (k + 1) hk hj (by omega)
    simp only [List.getElem?_eq_getElem hk]
    simp; exact ⟨h1.1, h2⟩
theorem Dn.mono {B B' : Int} {l : List Int} (h : Dn B l) (hb : B ≤ B') : Dn B' l := ⟨fun a ha => ⟨(h.1 a ha).1, by have := (h.1 a ha).2; omega⟩, h.2⟩
theorem bump_ok {a : Int} (h0 : 0 ≤ a) (h1 : a ≤ 2 ^ 40) : bump a = a + 1 := by
  unfold bump; exact wrap_ok (by omega) (by omega)
theorem Dn.bump {B : Int} {l : List Int} (h : Dn B l) (hB : B ≤ 2 ^ 40) : Dn (B + 1) (l.map Go.Y.bump) := by
  have e : l.map Go.Y.bump = l.map (fun a => a + 1) := List.map_congr_left fun a ha => bump_ok (h.1 a ha).1 (by have := (h.1 a ha).2; omega)
  rw [e]
  refine ⟨fun a ha => ?_, ?_⟩
  · obtain ⟨b, hb, rfl⟩ := List.mem_map.1 ha
    have := h.1 b hb
    omega
  · rw [List.pairwise_map]
    exact h.2.imp fun hab => by omega
theorem Dn.tail {B : Int} {a : Int} {l : List Int} (h : Dn B (a :: l)) : Dn B l := ⟨fun b hb => h.1 b (List.mem_cons_of_mem _ hb), (List.pairwise_cons.1 h.2).2⟩
theorem Dn.zeros {B : Int} {l : List Int} (h : Dn B l) (hB : 0 ≤ B) (m : Nat) : Dn B (l ++ List.replicate m 0) := by
  refine ⟨fun a ha => ?_, ?_⟩
  · rcases List.mem_append.1 ha with h1 | h1
    · exact h.1 a h1
    · have := (List.mem_replicate.1 h1).2; omega
  · rw [List.pairwise_append]
    refine ⟨h.2, ?_, fun a ha b hb => ?_⟩
    · rw [List.pairwise_replicate]; exact .inr (by omega)
    · have := (List.mem_replicate.1 hb).2
      have := (h.1 a ha).1
      omega

/-- The side, behind so many texts. -/
structure Good (s : Side) (B : Nat) (most : Int) : Prop where
  on : s.on = true
  shut : s.shut = false
  eof : s.eof = false
  place : s.place = 0
  clock : 0 ≤ s.clock ∧ s.clock ≤ B
  typed : s.typed = []
  lines : s.lines = []
  buffer : s.buffer = []
  ages : s.ages.length = s.fly.length
  dn : Dn B s.ages
  fits : ((s.fly.length + s.ready.length : Nat) : Int) ≤ most

theorem Good.room {s : Side} {B : Nat} {most : Int} (g : Good s B most) (hm : most ≤ 16) : roomS s most = most - s.fly.length - s.ready.length := by
  have := g.fits
  unfold roomS
  rw [wrap_ok (n := most - s.fly.length) (by omega) (by omega), wrap_ok (by omega) (by omega)]
theorem Good.may {s : Side} {B : Nat} {most : Int} (g : Good s B most) (hm : most ≤ 16) : mayOn s 1 most true = true := by
  have h1 := g.room hm
  have h2 := g.fits
  have h3 : agedS s = true := by unfold agedS; rw [g.dn.down]; simp [g.ages]
  have h4 : 0 ≤ roomS s most := by omega
  have h5 := g.clock
  simp only [mayOn, h3, h4, g.place, g.typed, g.lines, g.buffer, g.shut, g.eof, h5]
  simp [lineS]
theorem Good.tick {s : Side} {B : Nat} {most : Int} (g : Good s B most) (hB : B ≤ 1000) : Good (tickS s) (B + 1) most := by
  have hc := g.clock
  have he : (tickS s).clock = s.clock + 1 := by simp [tickS, g.on, g.shut]; exact wrap_ok (by omega) (by omega)
  exact ⟨g.on, g.shut, g.eof, g.place, by rw [he]; omega, g.typed, g.lines, g.buffer, by simpa [tickS] using g.ages, by have := g.dn.bump (by omega); simpa [tickS] using this, g.fits⟩
theorem Good.more {s : Side} {B B' : Nat} {most : Int} (g : Good s B most) (h : B ≤ B') : Good s B' most :=
  { g with clock := by have := g.clock; omega, dn := g.dn.mono (by omega) }
theorem Good.arrive {s : Side} {B : Nat} {most : Int} (g : Good s B most) (h : (arriveS s).2 = 0) : Good (arriveS s).1 B most ∧ (arriveS s).1.ready ++ (arriveS s).1.fly = s.ready ++ s.fly := by
  unfold arriveS at h ⊢
  split at h
  · rename_i b f a ag hf ha
    have e1 := g.ages
    have e2 := g.dn
    have e3 := g.fits
    rw [hf, ha] at e1
    rw [ha] at e2
    rw [hf] at e3
    simp only [hf, ha]
    simp at e1 e3
    refine ⟨⟨g.on, g.shut, g.eof, g.place, g.clock, g.typed, g.lines, g.buffer, e1, e2.tail, ?_⟩, by simp⟩
    simp; omega
  · exact absurd h (by decide)
theorem Good.write {s : Side} {B : Nat} {most : Int} (g : Good s B most) (hm : most ≤ 16) {t : List UInt8} (h : ¬ roomS s most < (t.length : Nat)) : Good { s with fly := s.fly ++ t, ages := s.ages ++ List.replicate t.length 0 } B most := by
  have h1 := g.room hm
  refine ⟨g.on, g.shut, g.eof, g.place, g.clock, g.typed, g.lines, g.buffer, ?_, g.dn.zeros (by omega) _, ?_⟩
  · simp [g.ages]
  · simp; omega

theorem ifY {b : Bool} {P Q : Prop} (hb : b = true) (hp : P) : If b P Q := if_mk (fun _ => hp) (fun h => by rw [hb] at h; cases h)
theorem ifN {b : Bool} {P Q : Prop} (hb : b = false) (hp : Q) : If b P Q := if_mk (fun h => by rw [hb] at h; cases h) (fun _ => hp)

abbrev peerW (k : Int) : V := .agg [.i .i64 k, .ts placeC 1 (some 1)]
theorem wkPeer (k : Int) (cs : List V) : WkA [.agg cs, peerW k] [.agg cs, peerV k] :=
  .agg _ _ _ _ (WkL.refl _) (.agg _ _ _ _ (.cons _ _ _ _ (.refl _) (.cons _ _ _ _ (.inr (.inr ⟨_, _, _, rfl, rfl⟩)) .nil)) .nil)
theorem wkPeer3 (k : Int) (cs : List V) (t : List UInt8) : WkA [.agg cs, peerW k, .s t] [.agg cs, peerV k, .s t] :=
  .agg _ _ _ _ (WkL.refl _) (.agg _ _ _ _ (.cons _ _ _ _ (.refl _) (.cons _ _ _ _ (.inr (.inr ⟨_, _, _, rfl, rfl⟩)) .nil)) (.one _ _ _ _ (.refl _) .nil))

theorem po_tail {s : Side} {B : Nat} {most : Int} (g : Good s B most) (h1 : 1 ≤ most) (hm : most ≤ 16) {sent : List UInt8} (hs : s.ready ++ s.fly = sent) {R1 R2 R3 KN : Prop} (hk : KN) :
    s.ready.length + s.fly.length ≤ 1152921504606846976 ∧ If (!(s.ready ++ s.fly == sent)) R1 (∃ b : Bool, PCon Try.Y 23 [.agg (sideC s), peerW most] (· = .b b) ∧ If (!b) R2 (∃ b : Bool, PCon Try.Y 24 [.agg (sideC s), peerW most] (· = .b b) ∧ If (!b) R3 KN)) := by
  have hf := g.fits
  have ha := g.ages
  refine ⟨by omega, ifN (by simp [hs]) ⟨true, ?_, ifN rfl ⟨true, ?_, ifN rfl hk⟩⟩⟩
  · have := may_con s most placeC 1 true (peer55 most h1 hm) (by omega) g.on (by rw [g.lines]; decide)
    rw [g.may hm] at this
    exact this.wk (wkPeer _ _)
  · have := rmayOn_con s most placeC 1 true (peer47 most h1 hm) (by omega) g.on (by rw [g.typed]; decide) (by rw [g.lines]; simp)
    rw [g.may hm] at this
    exact this.wk (wkPeer _ _)

def PO (l : List (List UInt8)) (most : Int) (m : Nat) (vs : List V) (_ : Heap) : Prop :=
  ∃ (i : Nat) (s : Side) (v13 : V), vs = [.i .i64 most, .lb [.i .i64 most, .ts placeC 1 (some 1)], .lb (sideC s), .s (s.ready ++ s.fly), v13, lst encT l, .i .i64 l.length, .i .i64 (i : Nat)] ∧ i ≤ l.length ∧ m = l.length - i ∧ Good s i most

def sideOn : Side := ⟨true, false, false, 0, 0, [], [], [], [], [], []⟩

theorem pipeOrder_con (most : Int) (l : List (List UInt8)) : PCon Try.Y 5 [.i .i64 most, lst encT l] (· = .b true) := by
  refine pcon_of Try.Yok (fn := Try.f5) (by kernel_rfl) (by kernel_rfl) rfl ?_
  refine pre_rule Try.Yok (n := 102) (loc := Try.Y.loc 5) 100 [0, 4, 5, 6, 7, 13, 32, 33, 34] (by kernel_rfl) ?_
  refine Eq.mpr (f5_0 most (row encT l) l.length .empty _) ?_
  have yes : ∀ h, ∃ r, Frz h (.b true) r ∧ r = .b true := fun h => ⟨_, .b _, rfl⟩
  refine ⟨true, awake16, ifN rfl (if_lt (fun _ => fin_at (.inr rfl) rfl (yes _)) (fun h30 => if_lt (fun _ => fin_at (.inr rfl) rfl (yes _)) (fun h1 => if_lt (fun _ => fin_at (.inr rfl) rfl (yes _)) (fun h16 => ?_))))⟩
  have h1 : 1 ≤ most := by omega
  have h16 : most ≤ 16 := by omega
  have h30 : l.length ≤ 30 := by omega
  refine ⟨rfl, loop3 [0, 5, 6, 7, 13, 32, 33, 34] [0, 4, 5, 6, 7, 13, 32, 33, 34] rfl (by kernel_rfl) (PO l most) l.length mk_len ?_ ?_⟩
  · refine ⟨[.i .i64 most, .lb [.i .i64 most, .ts placeC 1 (some 1)], .lb (sideC sideOn), .s [], .undef, lst encT l, .i .i64 l.length, .i .i64 0], ?_, 0, sideOn, .undef, rfl, by omega, by omega, ⟨rfl, rfl, rfl, rfl, ⟨by decide, by decide⟩, rfl, rfl, rfl, rfl, ⟨(fun a ha => by cases ha), List.Pairwise.nil⟩, by simp [sideOn]; omega⟩⟩
    refine .cons _ _ _ _ (.refl _) (.cons _ _ _ _ (.refl _) (.cons _ _ _ _ (.inr ⟨_, _, rfl, rfl, ?_⟩) (WkE.refl _)))
    have wn : Wk0 (.sl none 0 (some 0) 0) (.ts [] 0 none) := .inr (.inl ⟨_, _, _, rfl, rfl, fun x hx => by cases hx⟩)
    exact .cons _ _ _ _ (.refl _) (.cons _ _ _ _ (.refl _) (.cons _ _ _ _ (.refl _) (.cons _ _ _ _ (.refl _) (.cons _ _ _ _ (.refl _) (.cons _ _ _ _ (.refl _) (.cons _ _ _ _ wn (.cons _ _ _ _ (.refl _) (.cons _ _ _ _ wn (WkL.refl _)))))))))
  rintro m vs h ⟨i, s, v13, rfl, hi, rfl, g⟩
  refine all_rule Try.Yok (loc := Try.Y.loc 5) 100 [0, 4, 5, 6, 7, 13, 32, 33, 34] ?_
  refine Eq.mpr (f5_1 most (row encT l) l.length placeC 1 s.on s.shut s.eof s.place s.clock s.typed none (row encT s.lines) s.lines.length s.fly none (row encI s.ages) s.ages.length s.ready s.buffer (s.ready ++ s.fly) v13 (i : Nat) h _) ?_
  have hf := g.fits
  have ha := g.ages
  refine if_lt_nat (fun hlt => ?_) (fun hge => ?_)
  · refine ⟨bnd_nat hlt, l[i], by rw [Int.toNat_natCast]; exact row_get (f := encT) (k := 1) encT_len hlt, if_lt (fun _ => fin_at (.inr rfl) rfl (yes _)) (fun h10 => ?_)⟩
    have next : ∀ (s' : Side) (v : V), Good s' (i + 1) most → (RoundX Try.Y 102 [0, 4, 5, 6, 7, 13, 32, 33, 34] [0, 5, 6, 7, 13, 32, 33, 34] (PO l most) (l.length - i) (loopId (post (flat (bodyOf Try.f5)))) ((post (flat (bodyOf Try.f5))).drop 1) (FinS Try.Y Try.f5 fun v h => ∃ r, Frz h v r ∧ r = .b true))
        .normal 102 [.i .i64 most, .undef, .lb [.i .i64 most, .ts placeC 1 (some 1)], .lb (sideC s'), .s (s'.ready ++ s'.fly), v, lst encT l, .i .i64 l.length, .i .i64 (IntKind.i64.wrap ((i : Nat) + 1))] h := by
      intro s' v g'
      refine ⟨rfl, l.length - (i + 1), by omega, _, WkE.refl _, i + 1, s', v, ?_, by omega, rfl, g'⟩
      rw [wrap_succ (by omega)]; rfl
    have hw : WkA [.agg (sideC s)] [.agg (sideC s)] := .agg _ _ _ _ (WkL.refl _) .nil
    refine if_mk (fun ht => ?_) (fun ht => if_mk (fun hb => ?_) (fun hb => ?_))
    · -- a tick
      have g' := g.tick (by omega)
      exact ⟨_, _, _, _, _, _, _, _, _, _, _, _, _, _, _, tick_con s (by omega), po_tail g' h1 h16 rfl (next _ _ g')⟩
    · -- an arrival
      refine ⟨_, _, _, _, _, _, _, _, _, _, _, _, _, _, _, _, arrive_con s (by omega) (by omega), if_mk (fun hz => ?_) (fun hz => ?_)⟩
      · obtain ⟨g1, e1⟩ := g.arrive (by simpa using hz)
        have g' := g1.more (Nat.le_succ i)
        refine po_tail g' h1 h16 e1 ?_
        rw [← e1]
        exact next _ _ g'
      · have g' := g.more (Nat.le_succ i)
        exact po_tail g' h1 h16 rfl (next _ _ g')
    · -- a text
      have hne : l[i] ≠ [] := by simpa using ht
      have hlen : l[i].length ≤ 10 := by omega
      have hwr := (write_con s most placeC 1 l[i] (by omega) (by omega) (by omega) hne).wk (wkPeer3 most (sideC s) l[i])
      by_cases hfit : roomS s most < (l[i].length : Nat)
      · have e : writeS s most l[i] = (s, false) := by unfold writeS; rw [if_pos hfit]
        rw [e] at hwr
        have g' := g.more (Nat.le_succ i)
        refine ⟨_, _, _, _, _, _, _, _, _, _, _, _, _, _, _, _, hwr, ifN rfl (ifN ?_ (po_tail g' h1 h16 rfl (next _ _ g')))⟩
        show (!(false == leI (l[i].length : Nat) (roomS s most))) = false
        have : ¬ ((l[i].length : Nat) : Int) ≤ roomS s most := by omega
        simp [leI, this]
      · have e : writeS s most l[i] = ({ s with fly := s.fly ++ l[i], ages := s.ages ++ List.replicate l[i].length 0 }, true) := by unfold writeS; rw [if_neg hfit]
        rw [e] at hwr
        have g' := (g.write h16 hfit).more (Nat.le_succ i)
        refine ⟨_, _, _, _, _, _, _, _, _, _, _, _, _, _, _, _, hwr, ifY rfl ⟨by rw [List.length_append]; omega, ifN ?_ (po_tail g' h1 h16 (List.append_assoc _ _ _).symm ?_)⟩⟩
        · show (!(true == leI (l[i].length : Nat) (roomS s most))) = false
          have : ((l[i].length : Nat) : Int) ≤ roomS s most := by omega
          simp [leI, this]
        · have := next _ (.b true) g'
          simp only [← List.append_assoc] at this
          exact this
  · refine roundX_exit [] rfl rfl (by kernel_rfl) ?_
    refine end_rule Try.Yok (loc := Try.Y.loc 5) 100 [4] ?_
    refine Eq.mpr (f5_2 h _) ?_
    exact finV1 (.inr rfl) rfl (.b _) rfl
end Go.Y
