/- What the pieces of functions come to: printed by program. -/
import Derived.Test.YtpddiafjmkjpmaaYTryP
import Derived.Test.YtpddiafjmkjpmaaYLoop
import Derived.Test.YtpddiafjmkjpmaaGRLine
import Derived.Test.YtpddiafjmkjpmaaGD11
import Derived.Test.YtpddiafjmkjpmaaGD12
import Derived.Test.YtpddiafjmkjpmaaYRow
import Derived.Test.YtpddiafjmkjpmaaGClone
import Derived.Test.YtpddiafjmkjpmaaGPipe5
namespace Go.Y
open Go.Proofs
set_option maxRecDepth 100000
set_option maxHeartbeats 0
theorem f9_0 (b0On : Bool) (b0Shut : Bool) (b0Eof : Bool) (x0Place : Int) (x0Clock : Int) (s0Typed : List UInt8) (cs0Lines : List V) (n0Lines : Nat) (s0Fly : List UInt8) (cs0Ages : List V) (n0Ages : Nat) (s0Ready : List UInt8) (s0Buffer : List UInt8) (x1Cap : Int) (cs1Places : List V) (n1Places : Nat) (s2_0 : List UInt8) (s2_1 : List UInt8) (h : Heap) (K : Out → Nat → List V → Heap → Prop) : (codeP Try.Y (Try.Y.loc 9) 100 ((flat (bodyOf Try.f9))) ⟨(V.agg [V.b b0On, V.b b0Shut, V.b b0Eof, V.i IntKind.i64 x0Place, V.i IntKind.i64 x0Clock, V.s s0Typed, V.ts cs0Lines n0Lines none, V.s s0Fly, V.ts cs0Ages n0Ages none, V.s s0Ready, V.s s0Buffer] :: V.agg [V.i IntKind.i64 x1Cap, V.ts cs1Places n1Places none] :: V.agg [V.s s2_0, V.s s2_1] :: List.replicate 72 .undef), [], h⟩ (VQ [6] K)) =
  (∃ (b : Bool),
  (PCon Try.Y (30 : Nat) [] fun (v : V) => v = V.b b) ∧
  If (!b) (K Out.ret 75 [V.b false] h)
  (∃ (b : Bool),
  (PCon Try.Y (31 : Nat)
  [V.agg
  [V.b b0On, V.b b0Shut, V.b b0Eof, V.i IntKind.i64 x0Place, V.i IntKind.i64 x0Clock, V.s s0Typed,
  V.ts cs0Lines n0Lines none, V.s s0Fly, V.ts cs0Ages n0Ages none, V.s s0Ready, V.s s0Buffer]]
  fun (v : V) => v = V.b b) ∧
  If (!b) (K Out.ret 75 [V.b true] h)
  (∃ (b : Bool),
  (PCon Try.Y (32 : Nat) [V.agg [V.i IntKind.i64 x1Cap, V.ts cs1Places n1Places none]] fun (v : V) =>
  v = V.b b) ∧
  If (!b) (K Out.ret 75 [V.b true] h)
  (((0 : Int) ≤ (0 : Int) ∧ (0 : Int) < (↑(2 : Nat) : Int)) ∧
  If (ltI (40 : Int) (↑s2_0.length : Int)) (K Out.ret 75 [V.b true] h)
  (((0 : Int) ≤ (1 : Int) ∧ (1 : Int) < (↑(2 : Nat) : Int)) ∧
  If (ltI (40 : Int) (↑s2_1.length : Int)) (K Out.ret 75 [V.b true] h)
  (((0 : Int) ≤ (0 : Int) ∧ (0 : Int) < (↑(2 : Nat) : Int)) ∧
  ((0 : Int) ≤ (1 : Int) ∧ (1 : Int) < (↑(2 : Nat) : Int)) ∧
  s2_0.length + s2_1.length ≤ 1152921504606846976 ∧
  ∃ (b : Bool),
  ∃ (b_1 : Bool),
  ∃ (b_2 : Bool),
  ∃ (n : Int),
  ∃ (n_1 : Int),
  ∃ (s : List UInt8),
  ∃ (cs : List V),
  ∃ (l : Nat),
  ∃ (c : Option Nat),
  ∃ (s_1 : List UInt8),
  ∃ (cs_1 : List V),
  ∃ (l_1 : Nat),
  ∃ (c_1 : Option Nat),
  ∃ (s_2 : List UInt8),
  ∃ (s_3 : List UInt8),
  ∃ (n_2 : Int),
  (PCon Try.Y (33 : Nat)
  [V.agg
  [V.b b0On, V.b b0Shut, V.b b0Eof,
  V.i IntKind.i64 x0Place,
  V.i IntKind.i64 x0Clock, V.s s0Typed,
  V.ts cs0Lines n0Lines none, V.s s0Fly,
  V.ts cs0Ages n0Ages none, V.s s0Ready,
  V.s s0Buffer],
  V.agg
  [V.i IntKind.i64 x1Cap,
  V.ts cs1Places n1Places none],
  V.s (s2_0 ++ s2_1)]
  fun (v : V) =>
  v =
  V.tup
  [V.agg
  [V.b b, V.b b_1, V.b b_2, V.i IntKind.i64 n,
  V.i IntKind.i64 n_1, V.s s, V.ts cs l c,
  V.s s_1, V.ts cs_1 l_1 c_1, V.s s_2,
  V.s s_3],
  V.i IntKind.i64 n_2]) ∧
  ((0 : Int) ≤ (0 : Int) ∧
  (0 : Int) < (↑(2 : Nat) : Int)) ∧
  ∃ (b_3 : Bool),
  ∃ (b_4 : Bool),
  ∃ (b_5 : Bool),
  ∃ (n_3 : Int),
  ∃ (n_4 : Int),
  ∃ (s_4 : List UInt8),
  ∃ (cs_2 : List V),
  ∃ (l_2 : Nat),
  ∃ (c_2 : Option Nat),
  ∃ (s_5 : List UInt8),
  ∃ (cs_3 : List V),
  ∃ (l_3 : Nat),
  ∃ (c_3 : Option Nat),
  ∃ (s_6 : List UInt8),
  ∃ (s_7 : List UInt8),
  ∃ (n_5 : Int),
  (PCon Try.Y
  (33 : Nat)
  [V.agg
  [V.b b0On,
  V.b
  b0Shut,
  V.b b0Eof,
  V.i
  IntKind.i64
  x0Place,
  V.i
  IntKind.i64
  x0Clock,
  V.s
  s0Typed,
  V.ts
  cs0Lines
  n0Lines
  none,
  V.s s0Fly,
  V.ts
  cs0Ages
  n0Ages
  none,
  V.s
  s0Ready,
  V.s
  s0Buffer],
  V.agg
  [V.i
  IntKind.i64
  x1Cap,
  V.ts
  cs1Places
  n1Places
  none],
  V.s s2_0]
  fun (v : V) =>
  v =
  V.tup
  [V.agg
  [V.b
  b_3,
  V.b
  b_4,
  V.b
  b_5,
  V.i
  IntKind.i64
  n_3,
  V.i
  IntKind.i64
  n_4,
  V.s
  s_4,
  V.ts
  cs_2
  l_2
  c_2,
  V.s
  s_5,
  V.ts
  cs_3
  l_3
  c_3,
  V.s
  s_6,
  V.s
  s_7],
  V.i
  IntKind.i64
  n_5]) ∧
  If
  (n_5 !=
  (0 : Int))
  (K Out.ret
  75
  [V.b
  (n_2 ==
  n_5)]
  h)
  (((0 : Int) ≤
  (1 :
  Int) ∧
  (1 : Int) <
  (↑(2 :
  Nat) :
  Int)) ∧
  ∃ (b_6 :
  Bool),
  ∃ (b_7 :
  Bool),
  ∃ (b_8 :
  Bool),
  ∃ (n_6 :
  Int),
  ∃ (n_7
  :
  Int),
  ∃
  (s_8
  :
  List
  UInt8),
  ∃
  (cs_4
  :
  List
  V),
  ∃
  (l_4
  :
  Nat),
  ∃
  (c_4
  :
  Option
  Nat),
  ∃
  (s_9
  :
  List
  UInt8),
  ∃
  (cs_5
  :
  List
  V),
  ∃
  (l_5
  :
  Nat),
  ∃
  (c_5
  :
  Option
  Nat),
  ∃
  (s_10
  :
  List
  UInt8),
  ∃
  (s_11
  :
  List
  UInt8),
  ∃
  (n_8
  :
  Int),
  (PCon
  Try.Y
  (33 :
  Nat)
  [V.agg
  [V.b
  b_3,
  V.b
  b_4,
  V.b
  b_5,
  V.i
  IntKind.i64
  n_3,
  V.i
  IntKind.i64
  n_4,
  V.s
  s_4,
  V.ts
  cs_2
  l_2
  c_2,
  V.s
  s_5,
  V.ts
  cs_3
  l_3
  c_3,
  V.s
  s_6,
  V.s
  s_7],
  V.agg
  [V.i
  IntKind.i64
  x1Cap,
  V.ts
  cs1Places
  n1Places
  none],
  V.s
  s2_1]
  fun
  (v :
  V) =>
  v =
  V.tup
  [V.agg
  [V.b
  b_6,
  V.b
  b_7,
  V.b
  b_8,
  V.i
  IntKind.i64
  n_6,
  V.i
  IntKind.i64
  n_7,
  V.s
  s_8,
  V.ts
  cs_4
  l_4
  c_4,
  V.s
  s_9,
  V.ts
  cs_5
  l_5
  c_5,
  V.s
  s_10,
  V.s
  s_11],
  V.i
  IntKind.i64
  n_8]) ∧
  If
  (n_2 ==
  n_8)
  (∃
  (b_9
  :
  Bool),
  (PCon
  Try.Y
  (38 :
  Nat)
  [V.agg
  [V.b
  b,
  V.b
  b_1,
  V.b
  b_2,
  V.i
  IntKind.i64
  n,
  V.i
  IntKind.i64
  n_1,
  V.s
  s,
  V.ts
  cs
  l
  c,
  V.s
  s_1,
  V.ts
  cs_1
  l_1
  c_1,
  V.s
  s_2,
  V.s
  s_3],
  V.agg
  [V.b
  b_6,
  V.b
  b_7,
  V.b
  b_8,
  V.i
  IntKind.i64
  n_6,
  V.i
  IntKind.i64
  n_7,
  V.s
  s_8,
  V.ts
  cs_4
  l_4
  c_4,
  V.s
  s_9,
  V.ts
  cs_5
  l_5
  c_5,
  V.s
  s_10,
  V.s
  s_11]]
  fun
  (v :
  V) =>
  v =
  V.b
  b_9) ∧
  K
  Out.ret
  75
  [V.b
  b_9]
  h)
  (K
  Out.ret
  75
  [V.b
  false]
  h)))))))) := by kernel_rfl
end Go.Y

/- LineParts, as a call of the abstract machine. -/
namespace Go.Y
open Go.Proofs
set_option maxRecDepth 100000
set_option maxHeartbeats 1000000

theorem smallSd_ok {s : Side} (h : smallSd s = true) : s.typed.length ≤ 100 ∧ s.fly.length ≤ 40 ∧ s.ready.length ≤ 100 ∧ s.lines.length ≤ 6 ∧ s.ages.length ≤ 40 ∧ ∀ x ∈ s.lines, x.length < 2 ^ 30 := by
  unfold smallSd at h
  simp only [Bool.and_eq_true, decide_eq_true_eq] at h
  obtain ⟨⟨⟨⟨⟨⟨⟨⟨h1, h2⟩, h3⟩, h4⟩, h5⟩, h6⟩, h7⟩, h8⟩, h9⟩ := h
  refine ⟨h1, h2, h3, h5, h6, fun x hx => ?_⟩
  have := List.all_eq_true.1 h8 x hx
  unfold smallLn at this
  have : x.length ≤ 60 := by simpa using this
  omega
theorem smallP_ok {l : List Plc} (h : smallP l = true) : ∀ x ∈ l, x.name.length < 2 ^ 30 := by
  unfold smallP at h
  simp only [Bool.and_eq_true] at h
  intro x hx
  have := List.all_eq_true.1 h.2 x hx
  unfold smallPl at this
  simp only [Bool.and_eq_true, decide_eq_true_eq] at this
  omega
theorem typeS_small {s : Side} {cap : Int} {l : List Plc} {t : List UInt8} (hr : s.ready.length ≤ 1000) (hf : s.fly.length ≤ 1000) :
    (typeS s cap l t).1.lines.length ≤ 1000 ∧ (typeS s cap l t).1.ages.length ≤ 1000 ∧ (typeS s cap l t).1.ready.length ≤ 1000 ∧ (typeS s cap l t).1.fly.length ≤ 1000 ∧ (typeS s cap l t).1.typed.length ≤ 1000 ∧ ∀ x ∈ (typeS s cap l t).1.lines, x.length ≤ 1000 := by
  by_cases h : (typeS s cap l t).2 = 0
  · obtain ⟨g, hp, s', h1, h2, g'⟩ := typeS_ok hr hf h
    obtain ⟨c1, c2⟩ := peer_cap hp
    have h3 := g'.rm
    have h4 := g'.ag
    have h5 := g'.ln
    have h6 := g'.ty
    have h7 := g'.la
    rw [h2]
    have ln16 : ∀ x, lineS x = true → x.length ≤ 1000 := fun x hx => by
      unfold lineS at hx
      simp only [Bool.and_eq_true, decide_eq_true_eq] at hx
      omega
    exact ⟨by simp only; omega, by simp only; omega, by simp only; omega, by simp only; omega, ln16 _ h6, fun x hx => ln16 _ (List.all_eq_true.1 h7 x hx)⟩
  · have : (typeS s cap l t).1 = side00 := by
      unfold typeS at h ⊢
      split
      · rfl
      · split
        · rfl
        · split
          · rfl
          · rename_i h1 h2 h3
            rw [if_neg h1, if_neg h2, if_neg h3] at h
            split
            · rfl
            · rename_i s' h4
              rw [h4] at h; exact absurd rfl h
    rw [this]
    exact ⟨by decide, by decide, by decide, by decide, by decide, fun x hx => by cases hx⟩

theorem lineParts_con (s : Side) (cap : Int) (l : List Plc) (a b : List UInt8) : PCon Try.Y 9 [.agg (sideC s), .agg (peerC cap l), .agg [.s a, .s b]] (· = .b true) := by
  refine tree_con Try.Yok (fn := Try.f9) (by kernel_rfl) (by kernel_rfl) rfl (fun K => f9_0 s.on s.shut s.eof s.place s.clock s.typed (row encT s.lines) s.lines.length s.fly (row encI s.ages) s.ages.length s.ready s.buffer cap (row encPl l) l.length a b .empty K) rfl ?_
  have yes : ∀ (x : Bool) (h : Heap), x = true → Fin Try.Y Try.f9 [6] (fun v h => ∃ r, Frz h v r ∧ r = .b true) .ret 75 [.b x] h := fun x h e => finV1 (.inr rfl) rfl (.b _) (by rw [e])
  generalize Fin Try.Y Try.f9 [6] (fun v h => ∃ r, Frz h v r ∧ r = .b true) = K at yes ⊢
  refine ⟨true, awake17, ifN' rfl ⟨_, smallSd_con s, if_mk (fun _ => yes _ _ rfl) (fun hs => ⟨_, smallP_con cap l, if_mk (fun _ => yes _ _ rfl) (fun hp => ⟨⟨by decide, by decide⟩, if_lt (fun _ => yes _ _ rfl) (fun h40 => ⟨⟨by decide, by decide⟩, if_lt (fun _ => yes _ _ rfl) (fun h41 => ?_)⟩)⟩)⟩)⟩⟩
  have hs : smallSd s = true := by simpa using hs
  have hp : smallP l = true := by simpa using hp
  obtain ⟨k1, k2, k3, k4, k5, k6⟩ := smallSd_ok hs
  have q1 := type_con s cap l (a ++ b) (by omega) (by omega) (by omega) (by omega) (by simp; omega)
  have q2 := type_con s cap l a (by omega) (by omega) (by omega) (by omega) (by omega)
  have hparts := typeS_parts s cap l a b (by omega) (by omega)
  obtain ⟨m1, m2, m3, m4, _, _⟩ := typeS_small (s := s) (cap := cap) (l := l) (t := a ++ b) (by omega) (by omega)
  obtain ⟨n1, n2, n3, n4, _, _⟩ := typeS_small (s := s) (cap := cap) (l := l) (t := a) (by omega) (by omega)
  generalize typeS s cap l (a ++ b) = w1 at q1 hparts m1 m2 m3 m4
  generalize typeS s cap l a = w2 at q2 hparts n1 n2 n3 n4
  refine ⟨⟨by decide, by decide⟩, ⟨by decide, by decide⟩, by omega, w1.1.on, w1.1.shut, w1.1.eof, w1.1.place, w1.1.clock, w1.1.typed, row encT w1.1.lines, w1.1.lines.length, none, w1.1.fly, row encI w1.1.ages, w1.1.ages.length, none, w1.1.ready, w1.1.buffer, w1.2, q1, ⟨by decide, by decide⟩,
    w2.1.on, w2.1.shut, w2.1.eof, w2.1.place, w2.1.clock, w2.1.typed, row encT w2.1.lines, w2.1.lines.length, none, w2.1.fly, row encI w2.1.ages, w2.1.ages.length, none, w2.1.ready, w2.1.buffer, w2.2, q2, if_mk (fun hne => yes _ _ ?_) (fun he => ⟨⟨by decide, by decide⟩, ?_⟩)⟩
  · have hne : w2.2 ≠ 0 := by simpa using hne
    rw [if_neg hne] at hparts
    simp [hparts]
  · have he : w2.2 = 0 := by simpa using he
    rw [if_pos he] at hparts
    have q3 := type_con w2.1 cap l b n2 n1 n3 n4 (by omega)
    rw [← hparts] at q3
    refine ⟨w1.1.on, w1.1.shut, w1.1.eof, w1.1.place, w1.1.clock, w1.1.typed, row encT w1.1.lines, w1.1.lines.length, none, w1.1.fly, row encI w1.1.ages, w1.1.ages.length, none, w1.1.ready, w1.1.buffer, w1.2, q3, ifY' (by simp) ⟨_, rsideSame_con w1.1 w1.1 (by omega) (by omega), yes _ _ (by simp)⟩⟩
end Go.Y

/- ActorComes, as a call of the abstract machine. -/
namespace Go.Y
open Go.Proofs
set_option maxRecDepth 100000
set_option maxHeartbeats 1000000

theorem small_bd {s : Side} (h : smallSd s = true) : BdS s := by
  unfold smallSd at h
  simp only [Bool.and_eq_true, decide_eq_true_eq] at h
  obtain ⟨⟨⟨⟨⟨⟨⟨⟨h1, h2⟩, h3⟩, h4⟩, h5⟩, h6⟩, h7⟩, h8⟩, h9⟩ := h
  refine ⟨by omega, by omega, fun x hx => ?_, by omega, by omega⟩
  have := List.all_eq_true.1 h8 x hx
  unfold smallLn at this
  have : x.length ≤ 60 := by simpa using this
  omega
theorem small_young {s : Side} (h : smallSd s = true) : Young s (2 ^ 60) := by
  unfold smallSd at h
  simp only [Bool.and_eq_true, decide_eq_true_eq] at h
  obtain ⟨⟨⟨⟨⟨⟨⟨⟨h1, h2⟩, h3⟩, h4⟩, h5⟩, h6⟩, h7⟩, h8⟩, h9⟩ := h
  refine ⟨fun a ha => ?_, by omega⟩
  have := List.all_eq_true.1 h9 a ha
  unfold smallAge at this
  have : a ≤ 1152921504606846976 := by simpa using this
  omega
theorem smallP_edges {l : List Plc} (h : smallP l = true) : ∀ x ∈ l, x.edges.length < 2 ^ 20 := by
  unfold smallP at h
  simp only [Bool.and_eq_true] at h
  intro x hx
  have := List.all_eq_true.1 h.2 x hx
  unfold smallPl at this
  simp only [Bool.and_eq_true, decide_eq_true_eq] at this
  omega
theorem BdS.tickN {s : Side} (b : BdS s) : ∀ k, BdS (tickN k s)
  | 0 => b
  | k + 1 => (b.tickN k).tick

def ComesI (s : Side) (cap : Int) (l : List Plc) (m : Nat) (vs : List V) (_ : Heap) : Prop :=
  ∃ k : Nat, vs = [.lb (sideC (tickN k s)), .lb (peerC cap l), .i .i64 ((openL s cap l).length : Nat), .b (laterS s cap l), .b false, .i .i64 (k : Nat)] ∧ k ≤ 10 ∧ m = 10 - k

theorem actorComes_con (s : Side) (cap : Int) (l : List Plc) : PCon Try.Y 11 [.agg (sideC s), .agg (peerC cap l)] (· = .b true) := by
  refine pcon_of Try.Yok (fn := Try.f11) (by kernel_rfl) (by kernel_rfl) rfl ?_
  refine pre_rule Try.Yok (n := 61) (loc := Try.Y.loc 11) 100 [2, 3, 4, 5, 6, 8, 36] (by kernel_rfl) ?_
  refine Eq.mpr (f11_0 s.on s.shut s.eof s.place s.clock s.typed (row encT s.lines) s.lines.length s.fly (row encI s.ages) s.ages.length s.ready s.buffer cap (row encPl l) l.length .empty _) ?_
  have yes : ∀ h, ∃ r, Frz h (.b true) r ∧ r = .b true := fun h => ⟨_, .b _, rfl⟩
  refine ⟨true, awake18, ifN' rfl ⟨_, small18_con s cap l, if_mk (fun _ => fin_at (.inr rfl) rfl (yes _)) (fun hs => ?_)⟩⟩
  have hs : smallSd s = true ∧ smallP l = true := by simpa using hs
  have b := small_bd hs.1
  have hy := small_young hs.1
  have hb := smallP_edges hs.2
  have hn := smallP_ok hs.2
  have b1 := b.ag
  have b2 := b.ln
  have b3 := b.ty
  refine ⟨_, rmaySd_con s cap l hn (by omega) (by omega) (by omega) (fun x hx => by have := b.el x hx; omega), if_mk (fun _ => fin_at (.inr rfl) rfl (yes _)) (fun hm => if_lt (fun _ => fin_at (.inr rfl) rfl (yes _)) (fun _ => ⟨_, rpeer_con cap l hn, if_mk (fun _ => fin_at (.inr rfl) rfl (yes _)) (fun _ => ?_)⟩))⟩
  have hm : maySd s l.length cap (peerS cap l) = true := by simpa using hm
  refine ⟨row encI (openL s cap l), (openL s cap l).length, none, openL_con s cap l b hb, _, laterL_con s cap l b hb, rfl, loop2 [2, 3, 5, 6, 8, 36] [2, 3, 4, 5, 6, 8, 36] rfl (by kernel_rfl) (ComesI s cap l) 10 mk_len ⟨0, rfl, by omega, rfl⟩ ?_⟩
  rintro m vs h ⟨k, rfl, hk, rfl⟩
  refine all_rule Try.Yok (loc := Try.Y.loc 11) 100 [2, 3, 4, 5, 6, 8, 36] ?_
  refine Eq.mpr (f11_1 ..) ?_
  refine if_lt (fun hlt => ?_) (fun hge => ?_)
  · have hk1 : tickS (tickN k s) = tickN (k + 1) s := rfl
    have bt := b.tickN (k + 1)
    have q1 := rtick_con (tickN k s) (by have := (b.tickN k).ag; omega)
    rw [hk1] at q1
    have q2 := openL_con (tickN (k + 1) s) cap l bt hb
    have hmore := comes_more hm hy (k := k + 1) (by omega)
    refine ⟨(tickN (k + 1) s).on, (tickN (k + 1) s).shut, (tickN (k + 1) s).eof, (tickN (k + 1) s).place, (tickN (k + 1) s).clock, (tickN (k + 1) s).typed, row encT (tickN (k + 1) s).lines, (tickN (k + 1) s).lines.length, none, (tickN (k + 1) s).fly, row encI (tickN (k + 1) s).ages, (tickN (k + 1) s).ages.length, none, (tickN (k + 1) s).ready, (tickN (k + 1) s).buffer, q1, row encI (openL (tickN (k + 1) s) cap l), (openL (tickN (k + 1) s) cap l).length, none, q2, if_lt (fun hl => by omega) (fun _ => ?_)⟩
    exact ⟨rfl, 10 - (k + 1), by omega, k + 1, by rw [wrap_succ (by omega)]; rfl, by omega, rfl⟩
  · have hk10 : k = 10 := by omega
    subst hk10
    refine roundW_exit [2, 3, 5, 6, 8] (by kernel_rfl) rfl rfl ?_
    refine end_rule Try.Yok (loc := Try.Y.loc 11) 100 [4] ?_
    refine Eq.mpr (f11_2 ..) ?_
    obtain ⟨c1, c2⟩ := comes_later hm hy
    refine ⟨row encI (openL (tickN 10 s) cap l), (openL (tickN 10 s) cap l).length, none, openL_con (tickN 10 s) cap l (b.tickN 10) hb, ifY' ?_ ⟨_, laterL_con (tickN 10 s) cap l (b.tickN 10) hb, finV1 (.inr rfl) rfl (.b _) (by rw [c2]; rfl)⟩⟩
    rw [c1, ltI_nat]; simp
end Go.Y

/- ActorShort, as a call of the abstract machine. -/
namespace Go.Y
open Go.Proofs
set_option maxRecDepth 100000
set_option maxHeartbeats 2000000

abbrev most21 (x : Int) : Int := IntKind.i64.wrap (x.tmod 21)
theorem most21_ok {x : Int} (h0 : 0 ≤ x) (h1 : x ≤ 255) : 0 ≤ most21 x ∧ most21 x ≤ 20 := by
  unfold most21
  have h2 : x.tmod 21 = x % 21 := Int.tmod_eq_emod_of_nonneg h0
  rw [h2, wrap_ok (by omega) (by omega)]
  omega

def ShortO (s : Side) (cap : Int) (l : List Plc) (x y : Int) (m : Nat) (vs : List V) (_ : Heap) : Prop :=
  ∃ (i : Nat) (v : V), vs = [.lb (sideC (tickN i s)), .lb (peerC cap l), .lb [.i .u8 x, .i .u8 y], .lb (sideC (shortS (tickN i s) l)), v, .i .i64 (most21 x), .i .i64 (i : Nat)] ∧ (i : Int) ≤ most21 x ∧ m = (most21 x).toNat - i
def ShortN (a u : Side) (cap : Int) (l : List Plc) (x y : Int) (i : Nat) (L : List Int) (m : Nat) (vs : List V) (_ : Heap) : Prop :=
  ∃ j : Nat, vs = [.lb (sideC a), .lb (peerC cap l), .lb [.i .u8 x, .i .u8 y], .lb (sideC u), lst encI L, lst encI L, .i .i64 (most21 x), .i .i64 (i : Nat), .i .i64 L.length, .i .i64 (j : Nat)] ∧ j ≤ L.length ∧ m = L.length - j

theorem openFrom_le (s : Side) (cap : Int) : ∀ (es : List Edge) (i : Nat), (openFrom s cap es i).length ≤ es.length
  | [], _ => by simp [openFrom]
  | e :: r, i => by
    have := openFrom_le s cap r (i + 1)
    unfold openFrom
    split
    · simp; omega
    · simp; omega

theorem actorShort_con (s : Side) (cap : Int) (l : List Plc) (x y : Int) (x0 : 0 ≤ x) (x1 : x ≤ 255) : PCon Try.Y 10 [.agg (sideC s), .agg (peerC cap l), .agg [.i .u8 x, .i .u8 y]] (· = .b true) := by
  refine pcon_of Try.Yok (fn := Try.f10) (by kernel_rfl) (by kernel_rfl) rfl ?_
  refine pre_rule Try.Yok (n := 133) (loc := Try.Y.loc 10) 100 [3, 4, 5, 6, 7, 14, 44, 45] (by kernel_rfl) ?_
  refine Eq.mpr (f10_0 s.on s.shut s.eof s.place s.clock s.typed (row encT s.lines) s.lines.length s.fly (row encI s.ages) s.ages.length s.ready s.buffer cap (row encPl l) l.length x y .empty _) ?_
  have yes : ∀ h, ∃ r, Frz h (.b true) r ∧ r = .b true := fun h => ⟨_, .b _, rfl⟩
  refine ⟨true, awake18, ifN' rfl ⟨_, small18_con s cap l, if_mk (fun _ => fin_at (.inr rfl) rfl (yes _)) (fun hs => ?_)⟩⟩
  have hs : smallSd s = true ∧ smallP l = true := by simpa using hs
  have b := small_bd hs.1
  have hy := small_young hs.1
  have hb := smallP_edges hs.2
  have hb30 : ∀ x ∈ l, x.edges.length < 2 ^ 30 := fun x hx => by have := hb x hx; omega
  have hn := smallP_ok hs.2
  have b1 := b.ag
  have b2 := b.ln
  have b3 := b.ty
  refine ⟨_, rmaySd_con s cap l hn (by omega) (by omega) (by omega) (fun x hx => by have := b.el x hx; omega), if_mk (fun _ => fin_at (.inr rfl) rfl (yes _)) (fun hm => if_lt (fun _ => fin_at (.inr rfl) rfl (yes _)) (fun _ => ?_))⟩
  have hm : maySd s l.length cap (peerS cap l) = true := by simpa using hm
  have q1 := short_con s cap l hb30
  have q2 := short_con (shortS s l) cap l hb30
  rw [short_short] at q2
  obtain ⟨n0, n1⟩ := most21_ok x0 x1
  have e21 : most21 x = IntKind.i64.wrap (x.tmod 21) := rfl
  refine ⟨(shortS s l).on, (shortS s l).shut, (shortS s l).eof, (shortS s l).place, (shortS s l).clock, (shortS s l).typed, row encT (shortS s l).lines, (shortS s l).lines.length, none, (shortS s l).fly, row encI (shortS s l).ages, (shortS s l).ages.length, none, (shortS s l).ready, (shortS s l).buffer, q1,
    (shortS s l).on, (shortS s l).shut, (shortS s l).eof, (shortS s l).place, (shortS s l).clock, (shortS s l).typed, row encT (shortS s l).lines, (shortS s l).lines.length, none, (shortS s l).fly, row encI (shortS s l).ages, (shortS s l).ages.length, none, (shortS s l).ready, (shortS s l).buffer, q2,
    _, rsideSame_con (shortS s l) (shortS s l) (by have := (b.short l).ln; omega) (by have := (b.short l).ag; omega), ifN' (by simp) ⟨⟨by decide, by decide⟩, (by decide), ?_⟩⟩
  refine ⟨rfl, loop2 [3, 4, 5, 7, 14, 44, 45] [3, 4, 5, 6, 7, 14, 44, 45] rfl (by kernel_rfl) (ShortO s cap l x y) (most21 x).toNat mk_len ⟨0, _, rfl, n0, by omega⟩ ?_⟩
  rintro m vs h ⟨i, v, rfl, hi, rfl⟩
  refine pre_rule Try.Yok (n := 133) (loc := Try.Y.loc 10) 100 [3, 4, 5, 7, 14, 44, 45] (by kernel_rfl) ?_
  refine Eq.mpr (f10_1 ..) ?_
  refine if_lt (fun hlt => ?_) (fun hge => ?_)
  · obtain ⟨g1, g2, g3⟩ := tickN_ok hm hy i (by omega)
    have ba := b.tickN i
    have g0 := (maySd_parts g1).2.2.1
    have hnext : tickS (tickN i s) = tickN (i + 1) s := rfl
    have hshort : shortS (tickS (shortS (tickN i s) l)) l = shortS (tickN (i + 1) s) l := short_tick g2 (by omega) g0
    have bn := b.tickN (i + 1)
    have q1 := openL_con (tickN i s) cap l ba hb
    have q2 := openL_con (shortS (tickN i s) l) cap l (ba.short l) hb
    rw [short_openL g1] at q2
    have q3 := pressesL_con (tickN i s) cap l ba hb
    have q4 := pressesL_con (shortS (tickN i s) l) cap l (ba.short l) hb
    rw [short_presses g1] at q4
    have q5 := laterL_con (tickN i s) cap l ba hb
    have q6 := laterL_con (shortS (tickN i s) l) cap l (ba.short l) hb
    rw [short_later g1] at q6
    have q7 := do_con (tickN i s) cap l (IntKind.i64.wrap (y.tmod 9)) ba
    have q8 := do_con (shortS (tickN i s) l) cap l (IntKind.i64.wrap (y.tmod 9)) (ba.short l)
    rw [short_do g1] at q8
    have q9 := rtick_con (tickN i s) (by have := ba.ag; omega)
    rw [hnext] at q9
    have q10 := rtick_con (shortS (tickN i s) l) (by have := ba.ag; show (tickN i s).ages.length < 2 ^ 29; omega)
    have q11 := short_con (tickS (shortS (tickN i s) l)) cap l hb30
    rw [hshort] at q11
    have q12 := short_con (tickN (i + 1) s) cap l hb30
    have hL : (openL (tickN i s) cap l).length < 2 ^ 30 := by
      have h1 := openFrom_le (tickN i s) cap (edgesS (tickN i s) cap l) 0
      have h2 := edgesS_len (tickN i s) cap hb
      unfold openL
      omega
    have bd : (doS (tickN i s) cap l (IntKind.i64.wrap (y.tmod 9))).1.lines.length < 2 ^ 30 ∧ (doS (tickN i s) cap l (IntKind.i64.wrap (y.tmod 9))).1.ages.length < 2 ^ 30 := by
      have e1 := ba.ag
      have e2 := ba.ln
      have z : side00.lines.length < 2 ^ 30 ∧ side00.ages.length < 2 ^ 30 := ⟨by decide, by decide⟩
      unfold doS
      split
      · exact z
      · split
        · exact z
        · split
          · exact z
          · rename_i e he
            split
            · unfold doneS
              split
              · have hw : (writeS (tickN i s) cap e.text).1.lines = (tickN i s).lines ∧ (writeS (tickN i s) cap e.text).1.ages.length ≤ (tickN i s).ages.length + e.text.length := by
                  unfold writeS
                  split
                  · exact ⟨rfl, by simp⟩
                  · exact ⟨rfl, by simp⟩
                have ht : e.text.length ≤ 16 ∨ True := .inr trivial
                rename_i k1
                have hr := peer_edges (maySd_peer g1) (List.mem_of_getElem? he)
                obtain ⟨c1, c2⟩ := peer_cap (maySd_peer g1)
                unfold edgeS at hr
                rw [if_pos k1] at hr
                simp only [Bool.and_eq_true, leI, decide_eq_true_eq] at hr
                have h16 := hr.2
                refine ⟨by show (writeS (tickN i s) cap e.text).1.lines.length < 2 ^ 30; rw [hw.1]; omega, by show (writeS (tickN i s) cap e.text).1.ages.length < 2 ^ 30; have := hw.2; omega⟩
              · split
                · unfold nextLn
                  split
                  · exact z
                  · rename_i a r hln
                    have : r.length + 1 = (tickN i s).lines.length := by rw [hln]; rfl
                    exact ⟨by show r.length < 2 ^ 30; omega, by show (tickN i s).ages.length < 2 ^ 30; omega⟩
                · split
                  · exact ⟨by show ([] : List (List UInt8)).length < 2 ^ 30; decide, by show (tickN i s).ages.length < 2 ^ 30; omega⟩
                  · exact ⟨by show (tickN i s).lines.length < 2 ^ 30; omega, by show (tickN i s).ages.length < 2 ^ 30; omega⟩
            · exact z
    have bs := bn.short l
    have bs1 := bs.ag
    have bs2 := bs.ln
    generalize hu2 : tickS (shortS (tickN i s) l) = u2 at q10 q11
    generalize ha2 : tickN (i + 1) s = a2 at q9 q11 q12 bn bs bs1 bs2
    have nextI : ∀ (v : V) (h : Heap), (∃ m', m' < (most21 x).toNat - i ∧ ShortO s cap l x y m' [.lb (sideC a2), .lb (peerC cap l), .lb [.i .u8 x, .i .u8 y], .lb (sideC (shortS a2 l)), v, .i .i64 (most21 x), .i .i64 (IntKind.i64.wrap ((i : Nat) + 1))] h) := by
      intro v h
      refine ⟨(most21 x).toNat - (i + 1), by omega, i + 1, v, ?_, by omega, rfl⟩
      rw [wrap_succ (by omega), ha2]
    generalize tickN i s = a at *
    generalize shortS a l = u at *
    generalize openL a cap l = L at *
    generalize pressesS a cap l = pr at *
    generalize laterS a cap l = la at *
    generalize doS a cap l (IntKind.i64.wrap (y.tmod 9)) = d at *
    generalize shortS a2 l = w at *
    refine ⟨rfl, block2 (n := 133) [3, 4, 5, 6, 7, 14, 44, 45] (by kernel_rfl) ?_⟩
    refine pre_rule Try.Yok (n := 133) (loc := Try.Y.loc 10) 100 [3, 4, 5, 6, 7, 8, 9, 44, 45, 77, 78] (by kernel_rfl) ?_
    refine Eq.mpr (f10_2 ..) ?_
    refine ⟨row encI L, L.length, none, q1, row encI L, L.length, none, q2, ifN' (by simp) ⟨pr, q3, pr, q4, ifN' (by simp) ⟨la, q5, la, q6, ifN' (by simp) ?_⟩⟩⟩
    refine ⟨rfl, loop2 [3, 4, 5, 7, 8, 9, 44, 45, 77, 78] [3, 4, 5, 6, 7, 8, 9, 44, 45, 77, 78] rfl (by kernel_rfl) (ShortN a u cap l x y i L) L.length mk_len ⟨0, rfl, by omega, by omega⟩ ?_⟩
    rintro m vs h2 ⟨j, rfl, hj, rfl⟩
    refine all_rule Try.Yok (loc := Try.Y.loc 10) 100 [3, 4, 5, 6, 7, 8, 9, 44, 45, 77, 78] ?_
    refine Eq.mpr (f10_3 ..) ?_
    refine if_lt_nat (fun hjl => ?_) (fun hjg => ?_)
    · have hget : takeX 1 (List.drop (((j : Nat) : Int).toNat * 1) (row encI L)) = some (encI L[j]) := by rw [Int.toNat_natCast]; exact row_get (f := encI) (k := 1) encI_len hjl
      exact ⟨bnd_nat hjl, L[j], hget, bnd_nat hjl, L[j], hget, ifN' (by simp) ⟨rfl, L.length - (j + 1), by omega, j + 1, by rw [wrap_succ (by omega)]; rfl, by omega, rfl⟩⟩
    refine roundW_exit [3, 4, 5, 7, 44, 45] (by kernel_rfl) rfl rfl ?_
    refine all_rule Try.Yok (loc := Try.Y.loc 10) 100 [3, 4, 5, 6, 7, 14, 44, 45] ?_
    refine Eq.mpr (f10_4 ..) ?_
    refine ⟨⟨by decide, by decide⟩, by decide, d.1.on, d.1.shut, d.1.eof, d.1.place, d.1.clock, d.1.typed, row encT d.1.lines, d.1.lines.length, none, d.1.fly, row encI d.1.ages, d.1.ages.length, none, d.1.ready, d.1.buffer, d.2, q7,
      ⟨by decide, by decide⟩, by decide, d.1.on, d.1.shut, d.1.eof, d.1.place, d.1.clock, d.1.typed, row encT d.1.lines, d.1.lines.length, none, d.1.fly, row encI d.1.ages, d.1.ages.length, none, d.1.ready, d.1.buffer, d.2, q8,
      ifN' (by simp) ⟨_, rsideSame_con d.1 d.1 bd.1 bd.2, ifN' (by simp) ?_⟩⟩
    refine ⟨a2.on, a2.shut, a2.eof, a2.place, a2.clock, a2.typed, row encT a2.lines, a2.lines.length, none, a2.fly, row encI a2.ages, a2.ages.length, none, a2.ready, a2.buffer, q9,
      u2.on, u2.shut, u2.eof, u2.place, u2.clock, u2.typed, row encT u2.lines, u2.lines.length, none, u2.fly, row encI u2.ages, u2.ages.length, none, u2.ready, u2.buffer, q10,
      w.on, w.shut, w.eof, w.place, w.clock, w.typed, row encT w.lines, w.lines.length, none, w.fly, row encI w.ages, w.ages.length, none, w.ready, w.buffer, q11,
      w.on, w.shut, w.eof, w.place, w.clock, w.typed, row encT w.lines, w.lines.length, none, w.fly, row encI w.ages, w.ages.length, none, w.ready, w.buffer, q12,
      _, rsideSame_con w w (by omega) (by omega), ifN' (by simp) ?_⟩
    refine ⟨rfl, [3, 4, 5, 7, 14, 44, 45], rfl, ?_⟩
    refine all_two Try.Yok (loc := Try.Y.loc 10) 100 [3, 4, 5, 7, 14, 44, 45] ?_
    refine Eq.mpr (f10_5 ..) ?_
    intro vs2 ht
    obtain ⟨m', hm', hI⟩ := nextI (.i .i64 d.2) h2
    exact roundW_normal ht rfl rfl rfl m' hm' hI
  · refine at_two fun vs2 ht => roundW_exit2 [] ht (by kernel_rfl) rfl rfl rfl ?_
    refine end_rule Try.Yok (loc := Try.Y.loc 10) 100 [6] ?_
    refine Eq.mpr (f10_6 ..) ?_
    exact finV1 (.inr rfl) rfl (.b _) rfl
end Go.Y

/- Shapes of what comes in to the laws. -/
namespace Go.Proofs.Ytpddiafjmkjpmaa
open Go.Y Go.RowKit
open Go.Proofs
set_option maxRecDepth 100000

theorem own : ownKnob Try.prog.godebug = none := by kernel_rfl
theorem laidOut : laidOutB Try.prog = true := by kernel_rfl
theorem shp9 {n : Nat} {vs : List V} (h : Shp Try.Y n 9 vs) : ∃ s : List UInt8, vs = [.s s] := by
  obtain ⟨s, h, _⟩ := shp_str (by kernel_rfl) h
  exact ⟨s, h⟩
theorem served9 : ∀ n, servedB Try.Y n 9 = true
  | 0 => by kernel_rfl
  | n + 1 => by kernel_rfl
theorem shp82 {n : Nat} {vs : List V} (h : Shp Try.Y n 82 vs) : ∃ x : Span, vs = encS x := by
  obtain ⟨m, rfl, h⟩ := shp_struct (show Try.Y.kd 82 = some (.struct [(0, 5), (1, 5)]) by kernel_rfl) h
  obtain ⟨a, b, rfl, ha, c, d, rfl, hc, rfl⟩ := h
  obtain ⟨k, rfl, _⟩ := shp_int (show Try.Y.kd 5 = some (.int .u8) by kernel_rfl) ha
  obtain ⟨p, rfl, _⟩ := shp_int (show Try.Y.kd 5 = some (.int .u8) by kernel_rfl) hc
  exact ⟨⟨k, p⟩, rfl⟩
theorem shp75 {n : Nat} {vs : List V} (h : Shp Try.Y n 75 vs) : ∃ l : List Span, vs = [lst encS l] := by
  obtain ⟨m, es, rfl, rfl, h, _⟩ := shp_slice (show Try.Y.kd 75 = some (.slice 82) by kernel_rfl) h
  obtain ⟨l, hl⟩ := list_of (f := encS) fun x hx => shp82 (h x hx)
  simp at hl
  subst hl
  exact ⟨l, by simp [lst, row]⟩
theorem shp77 {n : Nat} {vs : List V} (h : Shp Try.Y n 77 vs) : ∃ x : Glob, vs = encG x := by
  obtain ⟨m, rfl, h⟩ := shp_struct (show Try.Y.kd 77 = some (.struct [(0, 3), (1, 5), (2, 75)]) by kernel_rfl) h
  obtain ⟨a, b, rfl, ha, c, d, rfl, hc, e, f, rfl, he, rfl⟩ := h
  obtain ⟨k, rfl, _⟩ := shp_int (show Try.Y.kd 3 = some (.int .i64) by kernel_rfl) ha
  obtain ⟨p, rfl, _⟩ := shp_int (show Try.Y.kd 5 = some (.int .u8) by kernel_rfl) hc
  obtain ⟨l, rfl⟩ := shp75 he
  exact ⟨⟨k, p, l⟩, rfl⟩
theorem shp23 {n : Nat} {vs : List V} (h : Shp Try.Y n 23 vs) : ∃ l : List Glob, vs = [lst encG l] := by
  obtain ⟨m, es, rfl, rfl, h, _⟩ := shp_slice (show Try.Y.kd 23 = some (.slice 77) by kernel_rfl) h
  obtain ⟨l, hl⟩ := list_of (f := encG) fun x hx => shp77 (h x hx)
  simp at hl
  subst hl
  exact ⟨l, by simp [lst, row]⟩
theorem shp5 {n : Nat} {vs : List V} (h : Shp Try.Y n 5 vs) : ∃ x : Int, vs = [.i .u8 x] ∧ 0 ≤ x ∧ x ≤ 255 := by
  obtain ⟨x, rfl, hw⟩ := shp_int (show Try.Y.kd 5 = some (.int .u8) by kernel_rfl) h
  refine ⟨x, rfl, ?_⟩
  have h1 : IntKind.u8.min = 0 := by decide
  have h2 : IntKind.u8.max = 255 := by decide
  simp [Lit.wf, h1, h2] at hw
  omega
theorem served5 : ∀ n, servedB Try.Y n 5 = true
  | 0 => by kernel_rfl
  | n + 1 => by kernel_rfl
theorem served23 : ∀ n, servedB Try.Y n 23 = true
  | 0 => by kernel_rfl
  | 1 => by kernel_rfl
  | 2 => by kernel_rfl
  | 3 => by kernel_rfl
  | 4 => by kernel_rfl
  | n + 5 => by kernel_rfl
end Go.Proofs.Ytpddiafjmkjpmaa

/- Shapes of sides and peers that come in to the laws. -/
namespace Go.Proofs.Ytpddiafjmkjpmaa
open Go.Y Go.RowKit
open Go.Proofs
set_option maxRecDepth 100000

theorem okWide_array {P : Program} {w : World} {r : Reach} {base : Nat} {t : TypeId} {v : Value} {n e} (ht : P.underlying t = some (.array n e)) (h : Value.okWide P w r base t v) : ∃ cs, v = .agg cs ∧ cs.size = P.cellsOf t := by
  simp only [Value.okWide, ht] at h
  obtain ⟨cs, h1, h2, _⟩ := h
  exact ⟨cs, h1, h2⟩
theorem shp3 {n : Nat} {vs : List V} (h : Shp Try.Y n 3 vs) : ∃ x : Int, vs = encI x := by
  obtain ⟨x, rfl, _⟩ := shp_int (show Try.Y.kd 3 = some (.int .i64) by kernel_rfl) h
  exact ⟨x, rfl⟩
theorem shp4 {n : Nat} {vs : List V} (h : Shp Try.Y n 4 vs) : ∃ x : Bool, vs = [.b x] := shp_bool (show Try.Y.kd 4 = some .bool by kernel_rfl) h
theorem shp9s {n : Nat} {vs : List V} (h : Shp Try.Y n 9 vs) : ∃ s : List UInt8, vs = encT s := by
  obtain ⟨s, h⟩ := shp9 h
  exact ⟨s, h⟩
theorem shp34 {n : Nat} {vs : List V} (h : Shp Try.Y n 34 vs) : ∃ l : List (List UInt8), vs = [lst encT l] := by
  obtain ⟨m, es, rfl, rfl, h, _⟩ := shp_slice (show Try.Y.kd 34 = some (.slice 9) by kernel_rfl) h
  obtain ⟨l, hl⟩ := list_of (f := encT) fun x hx => shp9s (h x hx)
  simp at hl
  subst hl
  exact ⟨l, by simp [lst, row]⟩
theorem shp41 {n : Nat} {vs : List V} (h : Shp Try.Y n 41 vs) : ∃ l : List Int, vs = [lst encI l] := by
  obtain ⟨m, es, rfl, rfl, h, _⟩ := shp_slice (show Try.Y.kd 41 = some (.slice 3) by kernel_rfl) h
  obtain ⟨l, hl⟩ := list_of (f := encI) fun x hx => shp3 (h x hx)
  simp at hl
  subst hl
  exact ⟨l, by simp [lst, row]⟩
theorem shp43 {n : Nat} {vs : List V} (h : Shp Try.Y n 43 vs) : ∃ x : Side, vs = sideC x := by
  obtain ⟨m, rfl, h⟩ := shp_struct (show Try.Y.kd 43 = some (.struct [(0, 4), (1, 4), (2, 4), (3, 3), (4, 3), (5, 9), (6, 34), (7, 9), (8, 41), (9, 9), (10, 9)]) by kernel_rfl) h
  obtain ⟨a0, r0, rfl, h0, a1, r1, rfl, h1, a2, r2, rfl, h2, a3, r3, rfl, h3, a4, r4, rfl, h4, a5, r5, rfl, h5, a6, r6, rfl, h6, a7, r7, rfl, h7, a8, r8, rfl, h8, a9, r9, rfl, h9, a10, r10, rfl, h10, rfl⟩ := h
  obtain ⟨b0, rfl⟩ := shp4 h0
  obtain ⟨b1, rfl⟩ := shp4 h1
  obtain ⟨b2, rfl⟩ := shp4 h2
  obtain ⟨b3, rfl⟩ := shp3 h3
  obtain ⟨b4, rfl⟩ := shp3 h4
  obtain ⟨b5, rfl⟩ := shp9s h5
  obtain ⟨b6, rfl⟩ := shp34 h6
  obtain ⟨b7, rfl⟩ := shp9s h7
  obtain ⟨b8, rfl⟩ := shp41 h8
  obtain ⟨b9, rfl⟩ := shp9s h9
  obtain ⟨b10, rfl⟩ := shp9s h10
  exact ⟨⟨b0, b1, b2, b3, b4, b5, b6, b7, b8, b9, b10⟩, rfl⟩
theorem shp108 {n : Nat} {vs : List V} (h : Shp Try.Y n 108 vs) : ∃ x : Y.Edge, vs = encE x := by
  obtain ⟨m, rfl, h⟩ := shp_struct (show Try.Y.kd 108 = some (.struct [(0, 3), (1, 9), (2, 3), (3, 3), (4, 3)]) by kernel_rfl) h
  obtain ⟨a0, r0, rfl, h0, a1, r1, rfl, h1, a2, r2, rfl, h2, a3, r3, rfl, h3, a4, r4, rfl, h4, rfl⟩ := h
  obtain ⟨b0, rfl⟩ := shp3 h0
  obtain ⟨b1, rfl⟩ := shp9s h1
  obtain ⟨b2, rfl⟩ := shp3 h2
  obtain ⟨b3, rfl⟩ := shp3 h3
  obtain ⟨b4, rfl⟩ := shp3 h4
  exact ⟨⟨b0, b1, b2, b3, b4⟩, rfl⟩
theorem shp35 {n : Nat} {vs : List V} (h : Shp Try.Y n 35 vs) : ∃ l : List Y.Edge, vs = [lst encE l] := by
  obtain ⟨m, es, rfl, rfl, h, _⟩ := shp_slice (show Try.Y.kd 35 = some (.slice 108) by kernel_rfl) h
  obtain ⟨l, hl⟩ := list_of (f := encE) fun x hx => shp108 (h x hx)
  simp at hl
  subst hl
  exact ⟨l, by simp [lst, row]⟩
theorem shp37 {n : Nat} {vs : List V} (h : Shp Try.Y n 37 vs) : ∃ x : Plc, vs = encPl x := by
  obtain ⟨m, rfl, h⟩ := shp_struct (show Try.Y.kd 37 = some (.struct [(0, 9), (1, 4), (2, 35)]) by kernel_rfl) h
  obtain ⟨a0, r0, rfl, h0, a1, r1, rfl, h1, a2, r2, rfl, h2, rfl⟩ := h
  obtain ⟨b0, rfl⟩ := shp9s h0
  obtain ⟨b1, rfl⟩ := shp4 h1
  obtain ⟨b2, rfl⟩ := shp35 h2
  exact ⟨⟨b0, b1, b2⟩, rfl⟩
theorem shp38 {n : Nat} {vs : List V} (h : Shp Try.Y n 38 vs) : ∃ l : List Plc, vs = [lst encPl l] := by
  obtain ⟨m, es, rfl, rfl, h, _⟩ := shp_slice (show Try.Y.kd 38 = some (.slice 37) by kernel_rfl) h
  obtain ⟨l, hl⟩ := list_of (f := encPl) fun x hx => shp37 (h x hx)
  simp at hl
  subst hl
  exact ⟨l, by simp [lst, row]⟩
theorem shp40 {n : Nat} {vs : List V} (h : Shp Try.Y n 40 vs) : ∃ x : Int × List Plc, vs = peerC x.1 x.2 := by
  obtain ⟨m, rfl, h⟩ := shp_struct (show Try.Y.kd 40 = some (.struct [(0, 3), (1, 38)]) by kernel_rfl) h
  obtain ⟨a0, r0, rfl, h0, a1, r1, rfl, h1, rfl⟩ := h
  obtain ⟨b0, rfl⟩ := shp3 h0
  obtain ⟨b1, rfl⟩ := shp38 h1
  exact ⟨⟨b0, b1⟩, rfl⟩
theorem shp_arr2 {n : Nat} {t e : TypeId} {vs : List V} (hk : Try.Y.kd t = some (.arr 2 e)) (h : Shp Try.Y n t vs) : ∃ m a b, vs = a ++ b ∧ Shp Try.Y m e a ∧ Shp Try.Y m e b := by
  cases n with
  | zero => exact h.elim
  | succ n =>
    obtain ⟨es, rfl, h1, h2⟩ := (by simpa [Shp, hk] using h : ∃ es : List (List V), vs = es.flatten ∧ es.length = 2 ∧ ∀ x ∈ es, Shp Try.Y n e x)
    match es, h1, h2 with
    | [a, b], _, h2 => exact ⟨n, a, b, by simp, h2 a (by simp), h2 b (by simp)⟩
theorem shp65 {n : Nat} {vs : List V} (h : Shp Try.Y n 65 vs) : ∃ x : List UInt8 × List UInt8, vs = [.s x.1, .s x.2] := by
  obtain ⟨m, a, b, rfl, h1, h2⟩ := shp_arr2 (show Try.Y.kd 65 = some (.arr 2 9) by kernel_rfl) h
  obtain ⟨a, rfl⟩ := shp9s h1
  obtain ⟨b, rfl⟩ := shp9s h2
  exact ⟨⟨a, b⟩, rfl⟩
theorem shp67 {n : Nat} {vs : List V} (h : Shp Try.Y n 67 vs) : ∃ x : Int × Int, vs = [.i .u8 x.1, .i .u8 x.2] ∧ (0 ≤ x.1 ∧ x.1 ≤ 255) ∧ 0 ≤ x.2 ∧ x.2 ≤ 255 := by
  obtain ⟨m, a, b, rfl, h1, h2⟩ := shp_arr2 (show Try.Y.kd 67 = some (.arr 2 5) by kernel_rfl) h
  obtain ⟨a, rfl, ha⟩ := shp5 h1
  obtain ⟨b, rfl, hb⟩ := shp5 h2
  exact ⟨⟨a, b⟩, rfl, ha, hb⟩
theorem served43 : ∀ n, servedB Try.Y n 43 = true
  | 0 => by kernel_rfl
  | 1 => by kernel_rfl
  | 2 => by kernel_rfl
  | n + 3 => by kernel_rfl
theorem served40 : ∀ n, servedB Try.Y n 40 = true
  | 0 => by kernel_rfl
  | 1 => by kernel_rfl
  | 2 => by kernel_rfl
  | 3 => by kernel_rfl
  | 4 => by kernel_rfl
  | 5 => by kernel_rfl
  | n + 6 => by kernel_rfl
theorem served65 : ∀ n, servedB Try.Y n 65 = true
  | 0 => by kernel_rfl
  | 1 => by kernel_rfl
  | n + 2 => by kernel_rfl
theorem served67 : ∀ n, servedB Try.Y n 67 = true
  | 0 => by kernel_rfl
  | 1 => by kernel_rfl
  | n + 2 => by kernel_rfl
end Go.Proofs.Ytpddiafjmkjpmaa
