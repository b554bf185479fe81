/- Groups of texts that are expressions, one behind the other, or one or the other. Plain. -/
import Derived.Test.YteennilbmmlikaaGreatDoorGReD
import Derived.Test.YteennilbmmlikaaGreatDoorGGlush6
import Derived.Test.YteennilbmmlikaaGreatDoorGRise
import Derived.Test.YteennilbmmlikaaGreatDoorGPart4
import Derived.Test.YteennilbmmlikaaGreatDoorGSpot
import Derived.Test.YteennilbmmlikaaGreatDoorGJudge
namespace Go.Y
open Gl

mutual
theorem ReL_un (has : S4 → UInt8 → Bool) : ∀ (r : Re) (w : List UInt8), ReL has r.un w ↔ ReL has r w
  | .mk kind set kids lo hi n, w => by
    unfold Re.un ReL
    simp only [catL_un has kids, altL_un has kids, powL_un has kids]
theorem catL_un (has : S4 → UInt8 → Bool) : ∀ (l : List Re) (w : List UInt8), ReL.catL has (Re.un.uns l) w ↔ ReL.catL has l w
  | [], _ => Iff.rfl
  | r :: l, w => by
    unfold Re.un.uns ReL.catL
    simp only [ReL_un has r, catL_un has l]
theorem altL_un (has : S4 → UInt8 → Bool) : ∀ (l : List Re) (w : List UInt8), ReL.altL has (Re.un.uns l) w ↔ ReL.altL has l w
  | [], _ => Iff.rfl
  | r :: l, w => by
    unfold Re.un.uns ReL.altL
    simp only [ReL_un has r, altL_un has l]
theorem powL_un (has : S4 → UInt8 → Bool) : ∀ (l : List Re) (m : Nat) (w : List UInt8), ReL.powL has (Re.un.uns l) m w ↔ ReL.powL has l m w
  | [], _, _ => Iff.rfl
  | r :: _, m, w => by
    unfold Re.un.uns ReL.powL
    exact pow_congr (ReL_un has r) m w
end

theorem parse_inv {a : List UInt8} {ra : Re} (hl : a.length < 64) (h : parseE a = .ok ra) : ∃ g, altE (6 * a.length + 10) 0 a 0 0 = .ok (ra, a.length, g) := by
  unfold parseE at h
  split at h
  · cases h
  · split at h
    · cases h
    · next r i g h1 =>
      split at h
      · cases h
      · next h2 =>
        injection h with h; subst h
        obtain ⟨_, _, _, _, h3, _⟩ := (loc_all a [] [] _ _ (Nat.le_refl _) 0 0 0 0 0 (by omega) (by omega)).1 _ _ _ h1
        have : i = a.length := by omega
        subst this
        exact ⟨g, h1⟩

theorem atom_grp {a : List UInt8} {ra : Re} (hl : a.length < 60) (h : parseE a = .ok ra) (pre post : List UInt8) (n g : Nat) (hn : 6 * a.length + 10 ≤ n) :
    ∃ r' N g', atomE (n + 1) 0 (pre ++ 40 :: (a ++ 41 :: post)) pre.length g = .ok (.mk 7 (0, 0, 0, 0) [r'] 0 0 N, pre.length + a.length + 2, g') ∧ r'.un = ra.un := by
  obtain ⟨g0, h1⟩ := parse_inv (by omega) h
  have e : pre ++ 40 :: (a ++ 41 :: post) = big a (pre ++ [40]) post := by simp
  have el : (pre ++ [40]).length = pre.length + 1 := by simp
  obtain ⟨r', g1, h2, h3, _, _⟩ := (loc_all a (pre ++ [40]) post _ n hn 0 1 0 0 (g + 1) (by omega) (by omega)).1 _ _ _ h1
  have c0 : (pre ++ 40 :: (a ++ 41 :: post))[pre.length]? = some 40 := by simp
  have c1 : (pre ++ 40 :: (a ++ 41 :: post))[pre.length + 1 + a.length]? = some 41 := by rw [e, ← el, big_get a _ post (Nat.le_refl _)]; simp
  unfold atomE
  rw [el, Nat.add_zero] at h2
  rw [e] at c0 c1 ⊢
  simp only [c0, show isRep 40 = false by decide, Bool.false_eq_true, if_false, if_true, show ¬ 64 ≤ 0 by omega, Nat.zero_add, h2, c1]
  exact ⟨r', _, g1, by rw [show pre.length + 1 + a.length + 1 = pre.length + a.length + 2 by omega], h3⟩

theorem piece_grp {a : List UInt8} {ra : Re} (hl : a.length < 60) (h : parseE a = .ok ra) (pre post : List UInt8) (n g : Nat) (hn : 6 * a.length + 10 ≤ n) (hp : ∀ c, post[0]? = some c → isRep c = false) :
    ∃ r' N g', pieceE (n + 2) 0 (pre ++ 40 :: (a ++ 41 :: post)) pre.length g = .ok (.mk 7 (0, 0, 0, 0) [r'] 0 0 N, pre.length + a.length + 2, g') ∧ r'.un = ra.un := by
  obtain ⟨r', N, g', h1, h2⟩ := atom_grp hl h pre post n g hn
  have c1 : (pre ++ 40 :: (a ++ 41 :: post))[pre.length + a.length + 2]? = post[0]? := by
    rw [show pre ++ 40 :: (a ++ 41 :: post) = (pre ++ 40 :: (a ++ [41])) ++ post by simp, List.getElem?_append_right (by simp; omega)]
    congr 1; simp; omega
  unfold pieceE
  simp only [h1, c1]
  cases hq : post[0]? with
  | none => exact ⟨r', N, g', rfl, h2⟩
  | some c => simp only [hp c hq, Bool.false_eq_true, if_false]; exact ⟨r', N, g', rfl, h2⟩

theorem row_grp {a : List UInt8} {ra : Re} (hl : a.length < 60) (h : parseE a = .ok ra) (pre post : List UInt8) (n g : Nat) (l : List Re) (hn : 6 * a.length + 10 ≤ n) (hp : ∀ c, post[0]? = some c → isRep c = false) :
    ∃ r' N g', rowE (n + 3) 0 (pre ++ 40 :: (a ++ 41 :: post)) pre.length g l = rowE (n + 2) 0 (pre ++ 40 :: (a ++ 41 :: post)) (pre.length + a.length + 2) g' (l ++ [.mk 7 (0, 0, 0, 0) [r'] 0 0 N]) ∧ r'.un = ra.un := by
  obtain ⟨r', N, g', h1, h2⟩ := piece_grp hl h pre post n g hn hp
  have c0 : (pre ++ 40 :: (a ++ 41 :: post))[pre.length]? = some 40 := by simp
  refine ⟨r', N, g', ?_, h2⟩
  rw [rowE]
  simp only [c0, h1, show ¬ ((40 : UInt8) = 124 ∨ (40 : UInt8) = 41) by decide, if_false]

theorem row_end {s : List UInt8} {i n d g : Nat} {l : List Re} (h : ∀ c, s[i]? = some c → c = 124 ∨ c = 41) : rowE (n + 1) d s i g l = .ok (sevS 4 l, i, g) := by
  rw [rowE]
  cases hc : s[i]? with
  | none => rfl
  | some c => simp only [if_pos (h c hc)]

theorem parse_one {a : List UInt8} {ra : Re} (hl : a.length ≤ 30) (h : parseE a = .ok ra) : ∃ r' N, parseE (40 :: (a ++ [41])) = .ok (.mk 7 (0, 0, 0, 0) [r'] 0 0 N) ∧ r'.un = ra.un := by
  obtain ⟨r', N, g', h1, h2⟩ := row_grp (by omega) h [] [] (6 * a.length + 18) 0 [] (by omega) (by simp)
  simp only [List.nil_append, List.length_nil, Nat.zero_add] at h1
  refine ⟨r', N, ?_, h2⟩
  have el : (40 :: (a ++ [41]) : List UInt8).length = a.length + 2 := by simp
  have c1 : (40 :: (a ++ [41]) : List UInt8)[a.length + 2]? = none := List.getElem?_eq_none (by omega)
  unfold parseE
  rw [if_neg (by omega), el, show 6 * (a.length + 2) + 10 = 6 * a.length + 18 + 4 by omega, altE, h1, row_end (by simp [c1])]
  simp only
  rw [altsE]
  simp only [c1, show ¬ ((none : Option UInt8) = some 124) by simp, if_false]
  rw [if_neg (by omega)]
  simp [sevS]

theorem parse_two {a b : List UInt8} {ra rb : Re} (hl : a.length ≤ 30) (hm : b.length ≤ 30) (h : parseE a = .ok ra) (g : parseE b = .ok rb) : ∃ r N q M, parseE (40 :: (a ++ 41 :: 40 :: (b ++ [41]))) = .ok (.mk 4 (0, 0, 0, 0) [.mk 7 (0, 0, 0, 0) [r] 0 0 N, .mk 7 (0, 0, 0, 0) [q] 0 0 M] 0 0 0) ∧ r.un = ra.un ∧ q.un = rb.un := by
  obtain ⟨r, N, g1, h1, h2⟩ := row_grp (by omega) h [] (40 :: (b ++ [41])) (6 * a.length + 6 * b.length + 30) 0 [] (by omega) (by simp; decide)
  obtain ⟨q, M, g2, h3, h4⟩ := row_grp (by omega) g (40 :: (a ++ [41])) [] (6 * a.length + 6 * b.length + 29) g1 [.mk 7 (0, 0, 0, 0) [r] 0 0 N] (by omega) (by simp)
  have e : 40 :: (a ++ [41]) ++ 40 :: (b ++ [41]) = 40 :: (a ++ 41 :: 40 :: (b ++ [41])) := by simp
  have e2 : (40 :: (a ++ [41]) : List UInt8).length = a.length + 2 := by simp
  rw [e, e2] at h3
  simp only [List.nil_append, List.length_nil, Nat.zero_add] at h1
  refine ⟨r, N, q, M, ?_, h2, h4⟩
  have el : (40 :: (a ++ 41 :: 40 :: (b ++ [41])) : List UInt8).length = a.length + b.length + 4 := by simp; omega
  have c1 : (40 :: (a ++ 41 :: 40 :: (b ++ [41])) : List UInt8)[a.length + 2 + b.length + 2]? = none := List.getElem?_eq_none (by omega)
  unfold parseE
  rw [if_neg (by omega), el, show 6 * (a.length + b.length + 4) + 10 = 6 * a.length + 6 * b.length + 30 + 4 by omega, altE, h1, h3, row_end (by simp [c1])]
  simp only
  rw [altsE]
  simp only [c1, show ¬ ((none : Option UInt8) = some 124) by simp, if_false]
  rw [if_neg (by omega)]
  simp [sevS]

theorem parse_or {a b : List UInt8} {ra rb : Re} (hl : a.length ≤ 30) (hm : b.length ≤ 30) (h : parseE a = .ok ra) (g : parseE b = .ok rb) : ∃ r N q M, parseE (40 :: (a ++ 41 :: 124 :: 40 :: (b ++ [41]))) = .ok (.mk 5 (0, 0, 0, 0) [.mk 7 (0, 0, 0, 0) [r] 0 0 N, .mk 7 (0, 0, 0, 0) [q] 0 0 M] 0 0 0) ∧ r.un = ra.un ∧ q.un = rb.un := by
  obtain ⟨r, N, g1, h1, h2⟩ := row_grp (by omega) h [] (124 :: 40 :: (b ++ [41])) (6 * a.length + 6 * b.length + 36) 0 [] (by omega) (by simp; decide)
  obtain ⟨q, M, g2, h3, h4⟩ := row_grp (by omega) g (40 :: (a ++ [41, 124])) [] (6 * a.length + 6 * b.length + 35) g1 [] (by omega) (by simp)
  have e : 40 :: (a ++ [41, 124]) ++ 40 :: (b ++ [41]) = 40 :: (a ++ 41 :: 124 :: 40 :: (b ++ [41])) := by simp
  have e2 : (40 :: (a ++ [41, 124]) : List UInt8).length = a.length + 3 := by simp
  rw [e, e2] at h3
  simp only [List.nil_append, List.length_nil, Nat.zero_add] at h1 h3
  refine ⟨r, N, q, M, ?_, h2, h4⟩
  have el : (40 :: (a ++ 41 :: 124 :: 40 :: (b ++ [41])) : List UInt8).length = a.length + b.length + 5 := by simp; omega
  have c0 : (40 :: (a ++ 41 :: 124 :: 40 :: (b ++ [41])) : List UInt8)[a.length + 2]? = some 124 := by
    rw [show (40 :: (a ++ 41 :: 124 :: 40 :: (b ++ [41])) : List UInt8) = (40 :: (a ++ [41])) ++ 124 :: 40 :: (b ++ [41]) by simp, List.getElem?_append_right (by simp)]
    simp
  have c1 : (40 :: (a ++ 41 :: 124 :: 40 :: (b ++ [41])) : List UInt8)[a.length + 3 + b.length + 2]? = none := List.getElem?_eq_none (by omega)
  unfold parseE
  rw [if_neg (by omega), el, show 6 * (a.length + b.length + 5) + 10 = 6 * a.length + 6 * b.length + 36 + 4 by omega, altE, h1, row_end (by simp [c0])]
  simp only
  rw [altsE, if_pos c0, show 6 * a.length + 6 * b.length + 36 + 2 = 6 * a.length + 6 * b.length + 35 + 3 by omega, h3, row_end (by simp [c1])]
  simp only
  rw [altsE]
  simp only [c1, show ¬ ((none : Option UInt8) = some 124) by simp, if_false]
  rw [if_neg (by omega)]
  simp [sevS]
end Go.Y

/- Automata of groups joined: the law, plain. -/
namespace Go.Y
open Gl

theorem grpL {has : S4 → UInt8 → Bool} {r : Re} {N : Int} (w : List UInt8) : ReL has (.mk 7 (0, 0, 0, 0) [r] 0 0 N) w ↔ ReL has r w := by
  rw [ReL]
  simp only [show ¬ ((7 : Int) = 0) by decide, show ¬ ((7 : Int) = 1) by decide, if_false, or_true, if_true, ReL.catL]
  constructor
  · rintro ⟨w1, w2, rfl, h, rfl⟩; simpa using h
  · intro h; exact ⟨w, [], by simp, h, rfl⟩
theorem un_L {has : S4 → UInt8 → Bool} {r q : Re} (h : r.un = q.un) (w : List UInt8) : ReL has r w ↔ ReL has q w := by
  rw [← ReL_un has r, h, ReL_un]

section
variable {bo : List Nat → List Nat → List Nat} (hbo : ∀ a b x, x ∈ bo a b ↔ x ∈ a ∨ x ∈ b)
include hbo
theorem joins_plain {a b s : List UInt8} {ra rb x y z t : Re} (hl : a.length ≤ 30) (hm : b.length ≤ 30) (h : parseE a = .ok ra) (g : parseE b = .ok rb)
    (hx : parseE (40 :: (a ++ [41])) = .ok x) (hy : parseE (40 :: (b ++ [41])) = .ok y) (hz : parseE (40 :: (a ++ 41 :: 40 :: (b ++ [41]))) = .ok z) (ht : parseE (40 :: (a ++ 41 :: 124 :: 40 :: (b ++ [41]))) = .ok t)
    (ox : okRe x) (oy : okRe y) (oz : okRe z) (ot : okRe t) :
    ((List.range (s.length + 1)).any fun i => runA (makeA bo x) (s.take i) && runA (makeA bo y) (s.drop i)) = runA (makeA bo z) s
    ∧ runA (makeA bo t) s = (runA (makeA bo x) s || runA (makeA bo y) s) := by
  obtain ⟨x', _, ex, ux⟩ := parse_one hl h
  obtain ⟨y', _, ey, uy⟩ := parse_one hm g
  obtain ⟨z1, _, z2, _, ez, uz1, uz2⟩ := parse_two hl hm h g
  obtain ⟨t1, _, t2, _, et, ut1, ut2⟩ := parse_or hl hm h g
  rw [ex] at hx; rw [ey] at hy; rw [ez] at hz; rw [et] at ht
  injection hx with hx; injection hy with hy; injection hz with hz; injection ht with ht
  subst hx hy hz ht
  have Lx : ∀ w, runA (makeA bo (.mk 7 (0, 0, 0, 0) [x'] 0 0 _)) w = true ↔ ReL hasC ra w := fun w => by rw [makeA_runs hbo ox, grpL, un_L ux]
  have Ly : ∀ w, runA (makeA bo (.mk 7 (0, 0, 0, 0) [y'] 0 0 _)) w = true ↔ ReL hasC rb w := fun w => by rw [makeA_runs hbo oy, grpL, un_L uy]
  constructor
  · rw [Bool.eq_iff_iff, List.any_eq_true, makeA_runs hbo oz]
    rw [ReL]
    simp only [show ¬ ((4 : Int) = 0) by decide, show ¬ ((4 : Int) = 1) by decide, if_false, true_or, if_true, ReL.catL, Bool.and_eq_true, Lx, Ly]
    constructor
    · rintro ⟨i, _, h1, h2⟩
      exact ⟨s.take i, s.drop i, (List.take_append_drop i s).symm, (grpL _).2 ((un_L uz1 _).2 h1), s.drop i, [], by simp, (grpL _).2 ((un_L uz2 _).2 h2), rfl⟩
    · rintro ⟨w1, w2, rfl, h1, w3, w4, rfl, h2, rfl⟩
      have k1 := (un_L uz1 _).1 ((grpL _).1 h1)
      have k2 := (un_L uz2 _).1 ((grpL _).1 h2)
      refine ⟨w1.length, List.mem_range.2 (by simp; omega), by simpa using k1, by simpa using k2⟩
  · rw [Bool.eq_iff_iff, Bool.or_eq_true, makeA_runs hbo ot, Lx, Ly]
    rw [ReL]
    simp only [show ¬ ((5 : Int) = 0) by decide, show ¬ ((5 : Int) = 1) by decide, show ¬ ((5 : Int) = 4 ∨ (5 : Int) = 7) by decide, if_false, if_true, ReL.altL, or_false, grpL, un_L ut1, un_L ut2]
end
end Go.Y

/- nfa.Make, by its contract. -/
namespace Go.Y
open Go.Proofs Go.Sort
set_option maxRecDepth 100000
set_option maxHeartbeats 2000000

theorem lst_frz (l : List Int) (h : Heap) (c : Option Nat) : Frz h (.ts (row encI l) l.length c) (lst encI l) := .ts _ _ _ none (fun x hx => by cases hx)
theorem clone33 (l : List Int) (hl : l.length < 2 ^ 29) : PCon Tryz.Y 33 [lst encI l] (· = lst encI l) := by
  refine tree_con Tryz.Yok (fn := Tryz.f33) (by kernel_rfl) (by kernel_rfl) rfl (fun K => f33_0 (row encI l) l.length .empty K) rfl ?_
  by_cases h0 : l = []
  · subst h0
    refine ⟨fun _ => finV1 (.inr rfl) rfl (frz_nil encI _ _ _) rfl, .inr ⟨by kernel_rfl, finV1 (.inr rfl) rfl (lst_frz [] _ _) rfl⟩⟩
  · have hpos : 0 < l.length := List.length_pos_iff.2 h0
    refine ⟨fun e => absurd e (by omega), .inl ?_⟩
    obtain ⟨m, hm⟩ : ∃ m, l.length = m + 1 := ⟨l.length - 1, by omega⟩
    have hap := clone_app (Y := Tryz.Y) (st := 32) (e := 3) (te := ⟨1, 8, .int .i64, [.i .i64 0]⟩) (by kernel_rfl) (by kernel_rfl) (by decide) (by decide) (cs := row encI l) (c := row encI l) (n := m) (cap := none) (by rw [← hm]; exact takeX_len (by rw [rowI_len]; exact Nat.mul_one _)) (rowI_all l) (by omega) .empty
    rw [← hm] at hap
    refine ⟨_, _, _, _, _, hap, finV1 (.inr rfl) rfl (.sl _ _ _ _ _ (row encI l) true (row encI l) (row encI l) none (by simp [Heap.get_push]) (by rw [List.drop_zero]; exact takeX_len (by rw [rowI_len]; exact Nat.mul_one _)) (fun x hx => by cases hx) (by decide) (rowI_frz _ _)) rfl⟩

theorem LX.frzD {α : Type} {f : α → List V} {k : Nat} {h : Heap} {a : Option (Nat × Nat)} {l : Nat} {c : Option Nat} {kk : Nat} {out : List α} {D : List Nat} (hk : k ≠ 0) (hfl : ∀ x, (f x).length = k) (hcold : ∀ x, colds1 (f x) = true) (hl : LX f k h a l c kk out) (hD : ∀ j o, a = some (j, o) → j ∈ D) :
    Frz (takeD h D) (.sl a l c kk) (lst f out) := by
  have hlen := hl.len
  by_cases hne : out = []
  · have ha := hl.nil hne
    subst hne ha hlen
    exact .sln _ _ _ (fun x hx => by cases hx)
  · obtain ⟨id, rfl, rfl, hid, hg, _⟩ := hl.cells hne
    subst hlen
    exact .sl _ _ _ _ _ (row f out) true (row f out) _ _ (by rw [takeD_get, if_pos (hD _ _ rfl), hg]) (by rw [List.drop_zero]; exact takeX_len (row_length hfl out).symm) (fun x hx => by cases hx) hk (colds1_ok _ (row_cold hcold out))

theorem part_cool (hs : SortSays Tryz.Y.P 75) (hcm : CompactSays Tryz.Y.P 76) {B : Nat} (hB : B < 2 ^ 20) {r : Re} (hwf : wfRe B r) {h : Heap} {id : Nat} {A : Au0} (hA : AuB A) (hM : MkA h id A) (hn : A.sets.length + cntRe r ≤ 300) :
    Con Tryz.Y 32 [.p (some (id, 0)), .agg (encRe r)] h fun v h' => v = .agg (partC (partF boS r A).2) ∧ h'.get id = some (.arr [lst setC (partF boS r A).1.sets, .sl none 0 (some 0) 0, .sl none 0 (some 0) 0, lst encLN (partF boS r A).1.fol, .b false] true) := by
  obtain ⟨g, hc, hm⟩ := partX hs hcm hB hwf hA hM hn
  generalize partF boS r A = S at hc hm
  obtain ⟨hl0, a1, l1, c1, k1, a2, l2, c2, k2, hg, hL1, hL2, hn1, hn2, hn3⟩ := hm
  refine Con.coolR (hc.mono fun v h' ⟨hv, hh⟩ => ?_)
  subst hv hh
  have hD1 : ∀ j o, a1 = some (j, o) → j ∈ (a1.toList.map (·.1) ++ a2.toList.map (·.1)) := fun j o e => by rw [e]; simp
  have hD2 : ∀ j o, a2 = some (j, o) → j ∈ (a1.toList.map (·.1) ++ a2.toList.map (·.1)) := fun j o e => by rw [e]; simp
  refine ⟨a1.toList.map (·.1) ++ a2.toList.map (·.1), id, _, _, true, hg, fun hmem => ?_, .cons _ _ _ _ (.frz _ _ (hL1.frzD (by decide) setC_len setC_cold hD1)) (.cons _ _ _ _ (.same _) (.cons _ _ _ _ (.same _) (.cons _ _ _ _ (.frz _ _ (hL2.frzD (by decide) encLN_len encLN_cold hD2)) (.cons _ _ _ _ (.same _) .nil)))), _, .same _, rfl, by rw [Heap.get_set, if_pos rfl]⟩
  rcases List.mem_append.1 hmem with hm | hm
  · obtain ⟨⟨j, o⟩, h1, h2⟩ := List.mem_map.1 hm
    simp only [Option.mem_toList] at h1
    exact hn1 j o h1 h2
  · obtain ⟨⟨j, o⟩, h1, h2⟩ := List.mem_map.1 hm
    simp only [Option.mem_toList] at h1
    exact hn2 j o h1 h2

abbrev encLI (l : List Int) : List V := [lst encI l]
abbrev auC (a : Au) : List V := [lst setC a.sets, lst encI a.first, lst encI a.last, lst encLI a.follow, .b a.empty]
def auZ : Au := ⟨[], [], [], [], false⟩
theorem fol_row (fol : List (List Nat)) : lst encLN fol = lst encLI (fol.map ints) := by
  have : row encLN fol = row encLI (fol.map ints) := by
    induction fol with
    | nil => rfl
    | cons l fol ih =>
      have h1 : row encLN (l :: fol) = encLN l ++ row encLN fol := rfl
      have h2 : row encLI ((l :: fol).map ints) = encLI (ints l) ++ row encLI (fol.map ints) := rfl
      rw [h1, h2, ih]
  simp only [lst, this, List.length_map]

def makeR (b : Bool) (r : Re) : V := if b = false ∨ anchB r = true then .tup [.agg (auC auZ), .i .i64 5] else if 300 < spotN r then .tup [.agg (auC auZ), .i .i64 2] else .tup [.agg (auC (makeA boS r)), .i .i64 0]

theorem frz_auZ (h : Heap) : Frz h (.agg [.sl none 0 (some 0) 0, .sl none 0 (some 0) 0, .sl none 0 (some 0) 0, .sl none 0 (some 0) 0, .b false]) (.agg (auC auZ)) :=
  .agg _ _ (.cons _ _ _ _ (frz_nil _ _ _ _) (.cons _ _ _ _ (frz_nil _ _ _ _) (.cons _ _ _ _ (frz_nil _ _ _ _) (.cons _ _ _ _ (frz_nil _ _ _ _) (.cons _ _ _ _ (.b _) .nil)))))
theorem frz_au (h : Heap) (a : Au) : Frz h (.agg (auC a)) (.agg (auC a)) :=
  .agg _ _ (.cons _ _ _ _ (.ts _ _ _ none (fun _ hx => hx)) (.cons _ _ _ _ (.ts _ _ _ none (fun _ hx => hx)) (.cons _ _ _ _ (.ts _ _ _ none (fun _ hx => hx)) (.cons _ _ _ _ (.ts _ _ _ none (fun _ hx => hx)) (.cons _ _ _ _ (.b _) .nil)))))

theorem make_con (hs : SortSays Tryz.Y.P 75) (hcm : CompactSays Tryz.Y.P 76) {B : Nat} (hB : B < 2 ^ 20) {r : Re} (hwf : wfRe B r) {b : Bool} (hmay : PCon Tryz.Y 29 [.agg (encRe r)] (· = .b b)) : PCon Tryz.Y 10 [.agg (encRe r)] (· = makeR b r) := by
  have han := (anchAX hB r hwf).c
  have hsp := (spotSX hB r hwf).c
  have hfew : ¬ 300 < spotN r → cntRe r ≤ 300 := fun h => spots_few hwf (by omega)
  have hpc : ¬ 300 < spotN r → ∀ {h : Heap} {id : Nat}, MkA h id ⟨[], []⟩ → Con Tryz.Y 32 [.p (some (id, 0)), .agg (encRe r)] h fun v h' => v = .agg (partC (partF boS r ⟨[], []⟩).2) ∧ h'.get id = some (.arr [lst setC (partF boS r ⟨[], []⟩).1.sets, .sl none 0 (some 0) 0, .sl none 0 (some 0) 0, lst encLN (partF boS r ⟨[], []⟩).1.fol, .b false] true) := fun h _ _ hM =>
    part_cool hs hcm hB hwf ⟨rfl, fun l hl => by cases hl⟩ hM (by have := hfew h; simpa using this)
  have hbd : ¬ 300 < spotN r → PaB 300 (partF boS r ⟨[], []⟩).2 := fun h => by
    obtain ⟨b1, b2, b3⟩ := part_B r hwf ⟨[], []⟩ ⟨rfl, fun l hl => by cases hl⟩
    exact b2.mono (by have := hfew h; simp at b3; omega)
  unfold makeR
  obtain ⟨k, s, kids, lo, hi, n⟩ := r
  generalize hmk : makeA boS (.mk k s kids lo hi n) = M
  have hM' : M = auF (partF boS (.mk k s kids lo hi n) ⟨[], []⟩).1 (partF boS (.mk k s kids lo hi n) ⟨[], []⟩).2 := hmk.symm
  generalize anchB (.mk k s kids lo hi n) = an at han
  generalize spotN (.mk k s kids lo hi n) = sp at hsp hpc hbd hfew
  generalize partF boS (.mk k s kids lo hi n) ⟨[], []⟩ = S at hpc hbd hM'
  rw [encRe_mk] at han hsp hmay hpc ⊢
  refine tree_con Tryz.Yok (fn := Tryz.f10) (by kernel_rfl) (by kernel_rfl) rfl (fun K => f10_0 k s.1 s.2.1 s.2.2.1 s.2.2.2 (row encRe kids) kids.length lo hi n .empty K) rfl ?_
  refine ⟨_, hmay, if_mk (fun hb => ?_) (fun hb => ⟨_, han, if_mk (fun ha => ?_) (fun ha => ⟨_, hsp, if_lt (fun h3 => ?_) (fun h3 => ?_)⟩)⟩)⟩
  · have hb : b = false := by simpa using hb
    rw [if_pos (.inl hb)]
    exact finV2 (.inr rfl) rfl (frz_auZ _) (.i _ _) rfl
  · rw [if_pos (.inr ha)]
    exact finV2 (.inr rfl) rfl (frz_auZ _) (.i _ _) rfl
  · have hb : b = true := by simpa using hb
    rw [if_neg (by rw [hb, ha]; simp), if_pos (by omega)]
    exact finV2 (.inr rfl) rfl (frz_auZ _) (.i _ _) rfl
  · have hb : b = true := by simpa using hb
    have h3 : ¬ 300 < sp := by omega
    rw [if_neg (by rw [hb, ha]; simp), if_neg h3]
    have hM0 : MkA (Heap.empty.push (.arr [.sl none 0 (some 0) 0, .sl none 0 (some 0) 0, .sl none 0 (some 0) 0, .sl none 0 (some 0) 0, .b false] true)) Heap.empty.nx ⟨[], []⟩ :=
      ⟨by simp, none, 0, some 0, 0, none, 0, some 0, 0, by rw [Heap.get_push, if_pos rfl], LX.start _ _ _ _ _, LX.start _ _ _ _ _, fun j o e => (by cases e), fun j o e => (by cases e), fun j o o' e => (by cases e)⟩
    have hbd := hbd h3
    refine (hpc h3 hM0).mono fun v h' ⟨hv, hg⟩ => ?_
    subst hv
    have l1 := hbd.fi.len; have l2 := hbd.la.len
    refine ⟨_, _, _, _, _, _, _, rfl, _, _, _, clone33 _ (by rw [ints_len]; omega), _, _, _, clone33 _ (by rw [ints_len]; omega), ?_⟩
    obtain ⟨g1, hg1⟩ : ∃ g, g = h'.set Heap.empty.nx (some (.arr [lst setC S.1.sets, lst encI (ints S.2.first), .sl none 0 (some 0) 0, lst encLN S.1.fol, .b false] true)) := ⟨_, rfl⟩
    have e1 : hstore h' Heap.empty.nx 1 [lst encI (ints S.2.first)] = some g1 := by rw [hg1]; simp [hstore, hg, splice]
    have e1g : g1.get Heap.empty.nx = some (.arr [lst setC S.1.sets, lst encI (ints S.2.first), .sl none 0 (some 0) 0, lst encLN S.1.fol, .b false] true) := by rw [hg1, Heap.get_set, if_pos rfl]
    obtain ⟨g2, hg2⟩ : ∃ g, g = g1.set Heap.empty.nx (some (.arr [lst setC S.1.sets, lst encI (ints S.2.first), lst encI (ints S.2.last), lst encLN S.1.fol, .b false] true)) := ⟨_, rfl⟩
    have e2 : hstore g1 Heap.empty.nx 2 [lst encI (ints S.2.last)] = some g2 := by rw [hg2]; simp [hstore, e1g, splice]
    have e2g : g2.get Heap.empty.nx = some (.arr [lst setC S.1.sets, lst encI (ints S.2.first), lst encI (ints S.2.last), lst encLN S.1.fol, .b false] true) := by rw [hg2, Heap.get_set, if_pos rfl]
    obtain ⟨g3, hg3⟩ : ∃ g, g = g2.set Heap.empty.nx (some (.arr [lst setC S.1.sets, lst encI (ints S.2.first), lst encI (ints S.2.last), lst encLN S.1.fol, .b S.2.empty] true)) := ⟨_, rfl⟩
    have e3 : hstore g2 Heap.empty.nx 4 [.b S.2.empty] = some g3 := by rw [hg3]; simp [hstore, e2g, splice]
    have e3g : g3.get Heap.empty.nx = some (.arr [lst setC S.1.sets, lst encI (ints S.2.first), lst encI (ints S.2.last), lst encLN S.1.fol, .b S.2.empty] true) := by rw [hg3, Heap.get_set, if_pos rfl]
    have hv : V.agg (auC M) = .agg [lst setC S.1.sets, lst encI (ints S.2.first), lst encI (ints S.2.last), lst encLN S.1.fol, .b S.2.empty] := by rw [hM', fol_row S.1.fol]; rfl
    exact ⟨g1, e1, g2, e2, g3, e3, _, _, _, _, _, _, _, _, _, _, _, _, _, (hcells_of e3g 0 5).trans rfl, finV2 (.inr rfl) rfl (r1 := .agg (auC M)) (by rw [hv]; exact .agg _ _ (.cons _ _ _ _ (.ts _ _ _ none (fun _ hx => hx)) (.cons _ _ _ _ (.ts _ _ _ none (fun _ hx => hx)) (.cons _ _ _ _ (.ts _ _ _ none (fun _ hx => hx)) (.cons _ _ _ _ (.ts _ _ _ none (fun _ hx => hx)) (.cons _ _ _ _ (.b _) .nil)))))) (.i _ _) rfl⟩
end Go.Y

/- Automata as values; small laws. -/
namespace Go.Y
set_option maxRecDepth 100000

theorem all_no {α : Type} {p : α → Bool} {l : List α} {i : Nat} (hi : i < l.length) (h : p l[i] = false) : l.all p = false :=
  List.all_eq_false.2 ⟨l[i], List.getElem_mem hi, by simp [h]⟩
theorem any_neg {α : Type} (p : α → Bool) (k : List α) : (k.any fun x => !p x) = !k.all p := by
  induction k with
  | nil => rfl
  | cons x k ih => rw [List.any_cons, List.all_cons, ih]; cases p x <;> simp

theorem encLI_len (x : List Int) : (encLI x).length = 1 := rfl
theorem getI (l : List Int) {i : Nat} (h : i < l.length) : takeX 1 (List.drop (((i : Nat) : Int).toNat * 1) (row encI l)) = some [.i .i64 l[i]] := by
  rw [Int.toNat_natCast]; exact row_get (f := encI) (k := 1) encI_len h
theorem getL (l : List (List Int)) {i : Nat} (h : i < l.length) : takeX 1 (List.drop (((i : Nat) : Int).toNat * 1) (row encLI l)) = some [lst encI l[i]] := by
  rw [Int.toNat_natCast]; exact row_get (f := encLI) (k := 1) encLI_len h

def risB (l : List Int) (n : Int) : Bool := (List.range l.length).all (okAt l n)
theorem risB_no {l : List Int} {n : Int} {i : Nat} (hi : i < l.length) (h : okAt l n i = false) : risB l n = false :=
  List.all_eq_false.2 ⟨i, List.mem_range.2 hi, by simp [h]⟩
theorem getD_at {l : List Int} {i : Nat} (hi : i < l.length) : l.getD i 0 = l[i] := by simp [hi]

def mayA (a : Au) : Bool := decide (a.sets.length ≤ 300) && decide (a.follow.length = a.sets.length) && risB a.first a.sets.length && risB a.last a.sets.length && a.follow.all fun l => risB l a.sets.length

theorem risB_mem {l : List Int} {n : Int} (h : risB l n = true) {x : Int} (hx : x ∈ l) : 0 ≤ x ∧ x < n := by
  obtain ⟨i, hi, rfl⟩ := List.getElem_of_mem hx
  have := List.all_eq_true.1 h i (List.mem_range.2 hi)
  simp only [okAt, getD_at hi, Bool.and_eq_true, Bool.not_eq_true', ltI, leI, decide_eq_false_iff_not] at this
  omega
end Go.Y

/- Automata: rising lists, May. -/
namespace Go.Y
open Go.Proofs
set_option maxRecDepth 100000
set_option maxHeartbeats 1000000

theorem okAt_eq (l : List Int) (n : Int) (i : Nat) : okAt l n i = (!ltI (l.getD i 0) 0 && !leI n (l.getD i 0) && !(decide (0 < i) && leI (l.getD i 0) (l.getD (i - 1) 0))) := rfl
theorem ris20 (l : List Int) (n : Int) (hl : l.length < 2 ^ 30) : PCon Tryz.Y 64 [lst encI l, .i .i64 n] (· = .b (risB l n)) := by
  refine pcon_of Tryz.Yok (fn := Tryz.f64) (by kernel_rfl) (by kernel_rfl) rfl ?_
  refine pre_rule Tryz.Yok (n := 35) (loc := Tryz.Y.loc 64) 100 [0, 1, 2, 7, 8, 9] (by kernel_rfl) ?_
  refine Eq.mpr (f64_0 (row encI l) l.length n .empty _) ?_
  refine ⟨rfl, loop2 [0, 1, 2, 7, 8, 9] [0, 1, 2, 4, 7, 8, 9] rfl (by kernel_rfl) (fun m vs _ => ∃ i : Nat, vs = [lst encI l, .i .i64 n, .undef, lst encI l, .i .i64 l.length, .i .i64 (i : Nat)] ∧ i ≤ l.length ∧ m = l.length - i ∧ (List.range i).all (okAt l n) = true) l.length mk_len ⟨0, rfl, by omega, by omega, by simp⟩ ?_⟩
  rintro m vs h ⟨i, rfl, hi, rfl, hp⟩
  refine all_rule Tryz.Yok (loc := Tryz.Y.loc 64) 100 [0, 1, 2, 4, 7, 8, 9] ?_
  refine Eq.mpr (f64_1 (row encI l) l.length n (i : Nat) h _) ?_
  refine if_lt_nat (fun hlt => ?_) (fun hge => ?_)
  · have no : okAt l n i = false → ∃ r, Frz h (.b false) r ∧ r = .b (risB l n) := fun e => ⟨_, .b _, by rw [risB_no hlt e]⟩
    have ok : okAt l n i = true → ∃ m', m' < l.length - i ∧ ∃ i' : Nat, [lst encI l, .i .i64 n, .undef, lst encI l, .i .i64 l.length, .i .i64 (IntKind.i64.wrap ((i : Nat) + 1))] = [lst encI l, .i .i64 n, .undef, lst encI l, .i .i64 l.length, .i .i64 (i' : Nat)] ∧ i' ≤ l.length ∧ m' = l.length - i' ∧ (List.range i').all (okAt l n) = true := fun e =>
      ⟨l.length - (i + 1), by omega, i + 1, by rw [wrap_succ (by omega)], by omega, rfl, range_snoc hp e⟩
    refine ⟨bnd_nat hlt, _, getI l hlt, if_mk (fun h1 => fin_at (.inr rfl) rfl (no (by simp only [okAt_eq, getD_at hlt, h1]; rfl))) (fun h1 => if_mk (fun h2 => fin_at (.inr rfl) rfl (no (by simp only [okAt_eq, getD_at hlt, h1, h2]; rfl))) (fun h2 => if_mk (fun h3 => ?_) (fun h3 => ?_)))⟩
    · have h3 : 0 < i := by simpa [ltI] using h3
      have hw : IntKind.i64.wrap (((i : Nat) : Int) - 1) = ((i - 1 : Nat) : Int) := by rw [wrap_ok (by omega) (by omega)]; omega
      rw [hw]
      refine ⟨bnd_nat (by omega), _, getI l (by omega), if_mk (fun h4 => fin_at (.inr rfl) rfl (no ?_)) (fun h4 => ⟨rfl, ok ?_⟩)⟩
      · simp only [okAt_eq, getD_at hlt, getD_at (show i - 1 < l.length by omega), h1, h2, h3, h4]; rfl
      · simp only [okAt_eq, getD_at hlt, getD_at (show i - 1 < l.length by omega), h1, h2, h3, h4]; rfl
    · have h3 : ¬ 0 < i := by simpa [ltI] using h3
      exact ⟨rfl, ok (by simp only [okAt_eq, getD_at hlt, h1, h2, h3]; rfl)⟩
  · refine roundW_exit [] (by kernel_rfl) rfl rfl ?_
    refine end_rule Tryz.Yok (loc := Tryz.Y.loc 64) 100 [4] ?_
    refine Eq.mpr (f64_2 ..) ?_
    have : i = l.length := by omega
    subst this
    exact finV1 (.inr rfl) rfl (.b _) (by rw [risB, hp])

def smallA (a : Au) : Bool := decide (a.sets.length ≤ 300) && decide (a.first.length ≤ 300) && decide (a.last.length ≤ 300) && decide (a.follow.length ≤ 300) && a.follow.all fun l => decide (l.length ≤ 300)
theorem small_of {a : Au} (h : smallA a = true) : a.sets.length ≤ 300 ∧ a.first.length ≤ 300 ∧ a.last.length ≤ 300 ∧ a.follow.length ≤ 300 ∧ ∀ l ∈ a.follow, l.length ≤ 300 := by
  simp only [smallA, Bool.and_eq_true, decide_eq_true_eq, List.all_eq_true] at h
  exact ⟨h.1.1.1.1, h.1.1.1.2, h.1.1.2, h.1.2, fun l hl => by simpa using h.2 l hl⟩

end Go.Y
