/- LineTypes, as a call of the abstract machine. -/
import Derived.Test.YtpddiafjmkjpmaaGNext
import Derived.Test.YtpddiafjmkjpmaaYTryP
import Derived.Test.YtpddiafjmkjpmaaYRow
import Derived.Test.YtpddiafjmkjpmaaGClone
import Derived.Test.YtpddiafjmkjpmaaGPipe5
namespace Go.Y
open Go.Proofs
set_option maxRecDepth 100000
set_option maxHeartbeats 1000000

theorem lineTypes_con (s : Side) (cap : Int) (l : List Plc) (t : List UInt8) : PCon Try.Y 8 [.agg (sideC s), .agg (peerC cap l), .s t] (· = .b true) := by
  refine tree_con Try.Yok (fn := Try.f8) (by kernel_rfl) (by kernel_rfl) rfl (fun K => f8_0 s.on s.shut s.eof s.place s.clock s.typed (row encT s.lines) s.lines.length s.fly (row encI s.ages) s.ages.length s.ready s.buffer cap (row encPl l) l.length t .empty K) rfl ?_
  have yes : ∀ (x : Bool) (h : Heap), x = true → Fin Try.Y Try.f8 [6] (fun v h => ∃ r, Frz h v r ∧ r = .b true) .ret 115 [.b x] h := fun x h e => finV1 (.inr rfl) rfl (.b _) (by rw [e])
  generalize Fin Try.Y Try.f8 [6] (fun v h => ∃ r, Frz h v r ∧ r = .b true) = K at yes ⊢
  refine ⟨true, awake17, ifN' rfl ⟨_, smallSd_con s, if_mk (fun _ => yes _ _ rfl) (fun hs => ⟨_, smallP_con cap l, if_mk (fun _ => yes _ _ rfl) (fun hp => if_lt (fun _ => yes _ _ rfl) (fun h60 => ?_))⟩)⟩⟩
  have hs : smallSd s = true := by simpa using hs
  have hp : smallP l = true := by simpa using hp
  obtain ⟨k1, k2, k3, k4, k5, k6⟩ := smallSd_ok hs
  have q1 := type_con s cap l t (by omega) (by omega) (by omega) (by omega) (by omega)
  have q2 := rtype_con s cap l t (smallP_ok hp) k6 (by omega) (by omega) (by omega) (by omega) (by omega) (by omega)
  obtain ⟨m1, m2, m3, m4, m5, m6⟩ := typeS_small (s := s) (cap := cap) (l := l) (t := t) (by omega) (by omega)
  have q3 := nextLn_con s (by omega)
  have q4 := rnextLn_con s (by omega)
  have q5 := waits_con s
  have hn : (nextLn s).1.lines.length < 2 ^ 30 ∧ (nextLn s).1.ages.length < 2 ^ 30 := by
    unfold nextLn
    split
    · exact ⟨by decide, by decide⟩
    · rename_i a r hln
      rw [hln] at k4
      simp only [List.length_cons] at k4
      exact ⟨by simp only; omega, by simp only; omega⟩
  have hmay : (typeS s cap l t).2 = 0 → maySd (typeS s cap l t).1 l.length cap (peerS cap l) = true := by
    intro h
    obtain ⟨g, hp, s', h1, h2, g'⟩ := typeS_ok (s := s) (cap := cap) (l := l) (t := t) (by omega) (by omega) h
    obtain ⟨c1, c2⟩ := peer_cap hp
    rw [h2]
    exact g'.maySd hp c1 c2
  generalize typeS s cap l t = w at q1 q2 m1 m2 m3 m4 m5 m6 hmay
  generalize nextLn s = x at q3 q4 hn
  have last : ∀ h, If (w.2 != 0) (K .ret 115 [.b true] h) (∃ b : Bool, (PCon Try.Y 24 [.agg (sideC w.1), .agg (peerC cap l)] fun v => v = .b b) ∧ K .ret 115 [.b b] h) := fun h =>
    if_mk (fun _ => yes _ _ rfl) (fun he => ⟨_, rmaySd_con w.1 cap l (smallP_ok hp) (by omega) (by omega) (by omega) (fun x hx => by have := m6 x hx; omega), yes _ _ (hmay (by simpa using he))⟩)
  refine ⟨w.1.on, w.1.shut, w.1.eof, w.1.place, w.1.clock, w.1.typed, row encT w.1.lines, w.1.lines.length, none, w.1.fly, row encI w.1.ages, w.1.ages.length, none, w.1.ready, w.1.buffer, w.2, q1,
    w.1.on, w.1.shut, w.1.eof, w.1.place, w.1.clock, w.1.typed, row encT w.1.lines, w.1.lines.length, none, w.1.fly, row encI w.1.ages, w.1.ages.length, none, w.1.ready, w.1.buffer, w.2, q2,
    x.1.on, x.1.shut, x.1.eof, x.1.place, x.1.clock, x.1.typed, row encT x.1.lines, x.1.lines.length, none, x.1.fly, row encI x.1.ages, x.1.ages.length, none, x.1.ready, x.1.buffer, x.2, q3,
    x.1.on, x.1.shut, x.1.eof, x.1.place, x.1.clock, x.1.typed, row encT x.1.lines, x.1.lines.length, none, x.1.fly, row encI x.1.ages, x.1.ages.length, none, x.1.ready, x.1.buffer, x.2, q4,
    (waitsS s).1, (waitsS s).2, q5, _, rsideSame_con w.1 w.1 (by omega) (by omega), ifY' (by simp) (ifY' (by simp) ⟨_, rsideSame_con x.1 x.1 hn.1 hn.2, ifY' (by simp) (ifY' (by simp) ?_)⟩)⟩
  cases hln : s.lines with
  | nil =>
    have e : waitsS s = ([], false) := by unfold waitsS; rw [hln]
    rw [e]
    exact ifY' rfl (ifY' rfl (ifY' rfl (last _)))
  | cons a r =>
    have e : waitsS s = (a, true) := by unfold waitsS; rw [hln]
    rw [e]
    exact ifY' (by simp [ltI]; try omega) (ifN' rfl (ifY' rfl ⟨⟨by omega, by simp; try omega⟩, a, rfl, ifY' (by simp) (last _)⟩))
end Go.Y

/- Shapes of what comes in to the laws. -/
namespace Go.Proofs.Ytpddiafjmkjpmaa
open Go.Y Go.RowKit
open Go.Proofs
set_option maxRecDepth 100000

theorem own : ownKnob Try.prog.godebug = none := by kernel_rfl
theorem laidOut : laidOutB Try.prog = true := by kernel_rfl
theorem shp9 {n : Nat} {vs : List V} (h : Shp Try.Y n 9 vs) : ∃ s : List UInt8, vs = [.s s] := by
  obtain ⟨s, h, _⟩ := shp_str (by kernel_rfl) h
  exact ⟨s, h⟩
theorem served9 : ∀ n, servedB Try.Y n 9 = true
  | 0 => by kernel_rfl
  | n + 1 => by kernel_rfl
theorem shp82 {n : Nat} {vs : List V} (h : Shp Try.Y n 82 vs) : ∃ x : Span, vs = encS x := by
  obtain ⟨m, rfl, h⟩ := shp_struct (show Try.Y.kd 82 = some (.struct [(0, 5), (1, 5)]) by kernel_rfl) h
  obtain ⟨a, b, rfl, ha, c, d, rfl, hc, rfl⟩ := h
  obtain ⟨k, rfl, _⟩ := shp_int (show Try.Y.kd 5 = some (.int .u8) by kernel_rfl) ha
  obtain ⟨p, rfl, _⟩ := shp_int (show Try.Y.kd 5 = some (.int .u8) by kernel_rfl) hc
  exact ⟨⟨k, p⟩, rfl⟩
theorem shp75 {n : Nat} {vs : List V} (h : Shp Try.Y n 75 vs) : ∃ l : List Span, vs = [lst encS l] := by
  obtain ⟨m, es, rfl, rfl, h, _⟩ := shp_slice (show Try.Y.kd 75 = some (.slice 82) by kernel_rfl) h
  obtain ⟨l, hl⟩ := list_of (f := encS) fun x hx => shp82 (h x hx)
  simp at hl
  subst hl
  exact ⟨l, by simp [lst, row]⟩
theorem shp77 {n : Nat} {vs : List V} (h : Shp Try.Y n 77 vs) : ∃ x : Glob, vs = encG x := by
  obtain ⟨m, rfl, h⟩ := shp_struct (show Try.Y.kd 77 = some (.struct [(0, 3), (1, 5), (2, 75)]) by kernel_rfl) h
  obtain ⟨a, b, rfl, ha, c, d, rfl, hc, e, f, rfl, he, rfl⟩ := h
  obtain ⟨k, rfl, _⟩ := shp_int (show Try.Y.kd 3 = some (.int .i64) by kernel_rfl) ha
  obtain ⟨p, rfl, _⟩ := shp_int (show Try.Y.kd 5 = some (.int .u8) by kernel_rfl) hc
  obtain ⟨l, rfl⟩ := shp75 he
  exact ⟨⟨k, p, l⟩, rfl⟩
theorem shp23 {n : Nat} {vs : List V} (h : Shp Try.Y n 23 vs) : ∃ l : List Glob, vs = [lst encG l] := by
  obtain ⟨m, es, rfl, rfl, h, _⟩ := shp_slice (show Try.Y.kd 23 = some (.slice 77) by kernel_rfl) h
  obtain ⟨l, hl⟩ := list_of (f := encG) fun x hx => shp77 (h x hx)
  simp at hl
  subst hl
  exact ⟨l, by simp [lst, row]⟩
theorem shp5 {n : Nat} {vs : List V} (h : Shp Try.Y n 5 vs) : ∃ x : Int, vs = [.i .u8 x] ∧ 0 ≤ x ∧ x ≤ 255 := by
  obtain ⟨x, rfl, hw⟩ := shp_int (show Try.Y.kd 5 = some (.int .u8) by kernel_rfl) h
  refine ⟨x, rfl, ?_⟩
  have h1 : IntKind.u8.min = 0 := by decide
  have h2 : IntKind.u8.max = 255 := by decide
  simp [Lit.wf, h1, h2] at hw
  omega
theorem served5 : ∀ n, servedB Try.Y n 5 = true
  | 0 => by kernel_rfl
  | n + 1 => by kernel_rfl
theorem served23 : ∀ n, servedB Try.Y n 23 = true
  | 0 => by kernel_rfl
  | 1 => by kernel_rfl
  | 2 => by kernel_rfl
  | 3 => by kernel_rfl
  | 4 => by kernel_rfl
  | n + 5 => by kernel_rfl
end Go.Proofs.Ytpddiafjmkjpmaa

/- Shapes of sides and peers that come in to the laws. -/
namespace Go.Proofs.Ytpddiafjmkjpmaa
open Go.Y Go.RowKit
open Go.Proofs
set_option maxRecDepth 100000

theorem okWide_array {P : Program} {w : World} {r : Reach} {base : Nat} {t : TypeId} {v : Value} {n e} (ht : P.underlying t = some (.array n e)) (h : Value.okWide P w r base t v) : ∃ cs, v = .agg cs ∧ cs.size = P.cellsOf t := by
  simp only [Value.okWide, ht] at h
  obtain ⟨cs, h1, h2, _⟩ := h
  exact ⟨cs, h1, h2⟩
theorem shp3 {n : Nat} {vs : List V} (h : Shp Try.Y n 3 vs) : ∃ x : Int, vs = encI x := by
  obtain ⟨x, rfl, _⟩ := shp_int (show Try.Y.kd 3 = some (.int .i64) by kernel_rfl) h
  exact ⟨x, rfl⟩
theorem shp4 {n : Nat} {vs : List V} (h : Shp Try.Y n 4 vs) : ∃ x : Bool, vs = [.b x] := shp_bool (show Try.Y.kd 4 = some .bool by kernel_rfl) h
theorem shp9s {n : Nat} {vs : List V} (h : Shp Try.Y n 9 vs) : ∃ s : List UInt8, vs = encT s := by
  obtain ⟨s, h⟩ := shp9 h
  exact ⟨s, h⟩
theorem shp34 {n : Nat} {vs : List V} (h : Shp Try.Y n 34 vs) : ∃ l : List (List UInt8), vs = [lst encT l] := by
  obtain ⟨m, es, rfl, rfl, h, _⟩ := shp_slice (show Try.Y.kd 34 = some (.slice 9) by kernel_rfl) h
  obtain ⟨l, hl⟩ := list_of (f := encT) fun x hx => shp9s (h x hx)
  simp at hl
  subst hl
  exact ⟨l, by simp [lst, row]⟩
theorem shp41 {n : Nat} {vs : List V} (h : Shp Try.Y n 41 vs) : ∃ l : List Int, vs = [lst encI l] := by
  obtain ⟨m, es, rfl, rfl, h, _⟩ := shp_slice (show Try.Y.kd 41 = some (.slice 3) by kernel_rfl) h
  obtain ⟨l, hl⟩ := list_of (f := encI) fun x hx => shp3 (h x hx)
  simp at hl
  subst hl
  exact ⟨l, by simp [lst, row]⟩
theorem shp43 {n : Nat} {vs : List V} (h : Shp Try.Y n 43 vs) : ∃ x : Side, vs = sideC x := by
  obtain ⟨m, rfl, h⟩ := shp_struct (show Try.Y.kd 43 = some (.struct [(0, 4), (1, 4), (2, 4), (3, 3), (4, 3), (5, 9), (6, 34), (7, 9), (8, 41), (9, 9), (10, 9)]) by kernel_rfl) h
  obtain ⟨a0, r0, rfl, h0, a1, r1, rfl, h1, a2, r2, rfl, h2, a3, r3, rfl, h3, a4, r4, rfl, h4, a5, r5, rfl, h5, a6, r6, rfl, h6, a7, r7, rfl, h7, a8, r8, rfl, h8, a9, r9, rfl, h9, a10, r10, rfl, h10, rfl⟩ := h
  obtain ⟨b0, rfl⟩ := shp4 h0
  obtain ⟨b1, rfl⟩ := shp4 h1
  obtain ⟨b2, rfl⟩ := shp4 h2
  obtain ⟨b3, rfl⟩ := shp3 h3
  obtain ⟨b4, rfl⟩ := shp3 h4
  obtain ⟨b5, rfl⟩ := shp9s h5
  obtain ⟨b6, rfl⟩ := shp34 h6
  obtain ⟨b7, rfl⟩ := shp9s h7
  obtain ⟨b8, rfl⟩ := shp41 h8
  obtain ⟨b9, rfl⟩ := shp9s h9
  obtain ⟨b10, rfl⟩ := shp9s h10
  exact ⟨⟨b0, b1, b2, b3, b4, b5, b6, b7, b8, b9, b10⟩, rfl⟩
theorem shp108 {n : Nat} {vs : List V} (h : Shp Try.Y n 108 vs) : ∃ x : Y.Edge, vs = encE x := by
  obtain ⟨m, rfl, h⟩ := shp_struct (show Try.Y.kd 108 = some (.struct [(0, 3), (1, 9), (2, 3), (3, 3), (4, 3)]) by kernel_rfl) h
  obtain ⟨a0, r0, rfl, h0, a1, r1, rfl, h1, a2, r2, rfl, h2, a3, r3, rfl, h3, a4, r4, rfl, h4, rfl⟩ := h
  obtain ⟨b0, rfl⟩ := shp3 h0
  obtain ⟨b1, rfl⟩ := shp9s h1
  obtain ⟨b2, rfl⟩ := shp3 h2
  obtain ⟨b3, rfl⟩ := shp3 h3
  obtain ⟨b4, rfl⟩ := shp3 h4
  exact ⟨⟨b0, b1, b2, b3, b4⟩, rfl⟩
theorem shp35 {n : Nat} {vs : List V} (h : Shp Try.Y n 35 vs) : ∃ l : List Y.Edge, vs = [lst encE l] := by
  obtain ⟨m, es, rfl, rfl, h, _⟩ := shp_slice (show Try.Y.kd 35 = some (.slice 108) by kernel_rfl) h
  obtain ⟨l, hl⟩ := list_of (f := encE) fun x hx => shp108 (h x hx)
  simp at hl
  subst hl
  exact ⟨l, by simp [lst, row]⟩
theorem shp37 {n : Nat} {vs : List V} (h : Shp Try.Y n 37 vs) : ∃ x : Plc, vs = encPl x := by
  obtain ⟨m, rfl, h⟩ := shp_struct (show Try.Y.kd 37 = some (.struct [(0, 9), (1, 4), (2, 35)]) by kernel_rfl) h
  obtain ⟨a0, r0, rfl, h0, a1, r1, rfl, h1, a2, r2, rfl, h2, rfl⟩ := h
  obtain ⟨b0, rfl⟩ := shp9s h0
  obtain ⟨b1, rfl⟩ := shp4 h1
  obtain ⟨b2, rfl⟩ := shp35 h2
  exact ⟨⟨b0, b1, b2⟩, rfl⟩
theorem shp38 {n : Nat} {vs : List V} (h : Shp Try.Y n 38 vs) : ∃ l : List Plc, vs = [lst encPl l] := by
  obtain ⟨m, es, rfl, rfl, h, _⟩ := shp_slice (show Try.Y.kd 38 = some (.slice 37) by kernel_rfl) h
  obtain ⟨l, hl⟩ := list_of (f := encPl) fun x hx => shp37 (h x hx)
  simp at hl
  subst hl
  exact ⟨l, by simp [lst, row]⟩
theorem shp40 {n : Nat} {vs : List V} (h : Shp Try.Y n 40 vs) : ∃ x : Int × List Plc, vs = peerC x.1 x.2 := by
  obtain ⟨m, rfl, h⟩ := shp_struct (show Try.Y.kd 40 = some (.struct [(0, 3), (1, 38)]) by kernel_rfl) h
  obtain ⟨a0, r0, rfl, h0, a1, r1, rfl, h1, rfl⟩ := h
  obtain ⟨b0, rfl⟩ := shp3 h0
  obtain ⟨b1, rfl⟩ := shp38 h1
  exact ⟨⟨b0, b1⟩, rfl⟩
theorem shp_arr2 {n : Nat} {t e : TypeId} {vs : List V} (hk : Try.Y.kd t = some (.arr 2 e)) (h : Shp Try.Y n t vs) : ∃ m a b, vs = a ++ b ∧ Shp Try.Y m e a ∧ Shp Try.Y m e b := by
  cases n with
  | zero => exact h.elim
  | succ n =>
    obtain ⟨es, rfl, h1, h2⟩ := (by simpa [Shp, hk] using h : ∃ es : List (List V), vs = es.flatten ∧ es.length = 2 ∧ ∀ x ∈ es, Shp Try.Y n e x)
    match es, h1, h2 with
    | [a, b], _, h2 => exact ⟨n, a, b, by simp, h2 a (by simp), h2 b (by simp)⟩
theorem shp65 {n : Nat} {vs : List V} (h : Shp Try.Y n 65 vs) : ∃ x : List UInt8 × List UInt8, vs = [.s x.1, .s x.2] := by
  obtain ⟨m, a, b, rfl, h1, h2⟩ := shp_arr2 (show Try.Y.kd 65 = some (.arr 2 9) by kernel_rfl) h
  obtain ⟨a, rfl⟩ := shp9s h1
  obtain ⟨b, rfl⟩ := shp9s h2
  exact ⟨⟨a, b⟩, rfl⟩
theorem shp67 {n : Nat} {vs : List V} (h : Shp Try.Y n 67 vs) : ∃ x : Int × Int, vs = [.i .u8 x.1, .i .u8 x.2] ∧ (0 ≤ x.1 ∧ x.1 ≤ 255) ∧ 0 ≤ x.2 ∧ x.2 ≤ 255 := by
  obtain ⟨m, a, b, rfl, h1, h2⟩ := shp_arr2 (show Try.Y.kd 67 = some (.arr 2 5) by kernel_rfl) h
  obtain ⟨a, rfl, ha⟩ := shp5 h1
  obtain ⟨b, rfl, hb⟩ := shp5 h2
  exact ⟨⟨a, b⟩, rfl, ha, hb⟩
theorem served43 : ∀ n, servedB Try.Y n 43 = true
  | 0 => by kernel_rfl
  | 1 => by kernel_rfl
  | 2 => by kernel_rfl
  | n + 3 => by kernel_rfl
theorem served40 : ∀ n, servedB Try.Y n 40 = true
  | 0 => by kernel_rfl
  | 1 => by kernel_rfl
  | 2 => by kernel_rfl
  | 3 => by kernel_rfl
  | 4 => by kernel_rfl
  | 5 => by kernel_rfl
  | n + 6 => by kernel_rfl
theorem served65 : ∀ n, servedB Try.Y n 65 = true
  | 0 => by kernel_rfl
  | 1 => by kernel_rfl
  | n + 2 => by kernel_rfl
theorem served67 : ∀ n, servedB Try.Y n 67 = true
  | 0 => by kernel_rfl
  | 1 => by kernel_rfl
  | n + 2 => by kernel_rfl
end Go.Proofs.Ytpddiafjmkjpmaa
