/- glob.Parse, by its contract. -/
import Derived.Test.YtlnpmefmmiacaaaGreatGRead
import Derived.Test.YtlnpmefmmiacaaaGreatGA2
import Derived.Test.YtlnpmefmmiacaaaGreatGName
import Derived.Test.YtlnpmefmmiacaaaGreatGD3
namespace Go.Y
open Go.Proofs
set_option maxRecDepth 100000

def pieceQ (r : Except Nat (Glob × Nat)) (h : Heap) (id : Nat) (s : List UInt8) (v : V) (h' : Heap) : Prop := match r with
  | .error e => ∃ x : Glob, v = .agg (encG x) ∧ Rd h' id s e true ∧ FrO h id h'
  | .ok (x, j) => v = .agg (encG x) ∧ Rd h' id s j false ∧ FrO h id h'

theorem piece_fin {h : Heap} {k b : Int} {Q : V → Heap → Prop} (hq : Q (.agg (encG ⟨k, b, []⟩)) h) : AfterZ Q (.agg [.i .i64 k, .i .u8 b, .sl none 0 (some 0) 0]) h :=
  ⟨[], _, .inl (.agg _ _ (.cons _ _ _ _ (.same _) (.cons _ _ _ _ (.same _) (.cons _ _ _ _ (.frz _ _ (.sln _ _ none (fun x hx => by cases hx))) .nil)))), hq⟩

theorem u8_lit (c d : UInt8) : (((c.toNat : Nat) : Int) == ((d.toNat : Nat) : Int)) = decide (c = d) := by rw [u8_eq]; rfl

theorem piece_con {h : Heap} {id : Nat} {s : List UInt8} {i : Nat} (r : Rd h id s i false) (hs : s.length < 2 ^ 28) (hi : i < s.length) :
    Con Tryz.Y 110 [.p (some (id, 0))] h (pieceQ (pieceS s i) h id s) := by
  refine conz_of Tryz.Yok (fn := Tryz.f110) (by kernel_rfl) (by kernel_rfl) (end_rule Tryz.Yok (loc := Tryz.Y.loc 110) 100 [2] ?_)
  rw [show (⟨[.p (some (id, 0))] ++ List.replicate (Tryz.f110.ntmps - [V.p (some (id, 0))].length) .undef, [], h⟩ : St) = ⟨.p (some (id, 0)) :: List.replicate 24 .undef, [], h⟩ by rfl, f110_0]
  refine (next_con r (by omega) (by omega)).mono fun v h1 ⟨hv, g1, g2⟩ => ⟨_, hv, ?_⟩
  have hsi : s[i]? = some s[i] := by simp [hi]
  simp only [nextS, hsi] at g1 ⊢
  rw [show (42 : Int) = (((42 : UInt8).toNat : Nat) : Int) by decide, show (63 : Int) = (((63 : UInt8).toNat : Nat) : Int) by decide, show (91 : Int) = (((91 : UInt8).toNat : Nat) : Int) by decide, show (92 : Int) = (((92 : UInt8).toNat : Nat) : Int) by decide, u8_lit, u8_lit, u8_lit, u8_lit]
  refine if_dec (fun c1 => finC (.inr rfl) rfl (piece_fin ?_)) (fun c1 => ?_)
  · simp only [pieceS, hsi, c1, if_true]; exact ⟨rfl, g1, g2⟩
  refine if_dec (fun c2 => finC (.inr rfl) rfl (piece_fin ?_)) (fun c2 => ?_)
  · unfold pieceS; rw [hsi]; simp only []; rw [if_neg c1, if_pos c2]; exact ⟨rfl, g1, g2⟩
  refine if_dec (fun c3 => ?_) (fun c3 => ?_)
  · refine (set_con g1 hs (by omega)).mono fun v h2 hq => ?_
    cases he : setS (s.length + 1) s (i + 1) [] with
    | error e =>
      have hp : pieceS s i = .error e := by unfold pieceS; rw [hsi]; simp only []; rw [if_neg c1, if_neg c2, if_pos c3, he]
      rw [he] at hq
      obtain ⟨rfl, q1, q2⟩ := hq
      refine ⟨_, _, _, rfl, finC (.inr rfl) rfl (.now ?_)⟩
      rw [hp]
      exact ⟨⟨3, 0, []⟩, rfl, q1, g2.trans q2⟩
    | ok y =>
      obtain ⟨l, j⟩ := y
      have hp : pieceS s i = .ok (⟨3, 0, l⟩, j) := by unfold pieceS; rw [hsi]; simp only []; rw [if_neg c1, if_neg c2, if_pos c3, he]
      rw [he] at hq
      obtain ⟨rfl, q1, q2⟩ := hq
      refine ⟨_, _, _, rfl, finC (.inr rfl) rfl (.now ?_)⟩
      rw [hp]
      exact ⟨rfl, q1, g2.trans q2⟩
  refine if_dec (fun c4 => ?_) (fun c4 => finC (.inr rfl) rfl (piece_fin ?_))
  · refine (next_con g1 (by omega) (by omega)).mono fun v h2 ⟨hv, q1, q2⟩ => ⟨_, hv, finC (.inr rfl) rfl (piece_fin ?_)⟩
    cases hs2 : s[i + 1]? with
    | none =>
      have hp : pieceS s i = .error (i + 1) := by unfold pieceS; rw [hsi]; simp only []; rw [if_neg c1, if_neg c2, if_neg c3, if_pos c4, hs2]
      simp only [nextS, hs2] at q1 ⊢
      rw [hp]
      exact ⟨_, rfl, q1, g2.trans q2⟩
    | some d =>
      have hp : pieceS s i = .ok (⟨0, d.toNat, []⟩, i + 2) := by unfold pieceS; rw [hsi]; simp only []; rw [if_neg c1, if_neg c2, if_neg c3, if_pos c4, hs2]
      simp only [nextS, hs2] at q1 ⊢
      rw [hp]
      exact ⟨rfl, q1, g2.trans q2⟩
  · simp only [pieceS, hsi, c1, c2, c3, c4, if_false]; exact ⟨rfl, g1, g2⟩

/-- What Parse hands back. -/
def parseR (s : List UInt8) : V :=
  if 200 < s.length then .tup [lst encG [], .i .i64 200, .i .i64 2] else match parseS (s.length + 1) s 0 [] with
    | .error e => .tup [lst encG [], .i .i64 (e : Nat), .i .i64 1]
    | .ok l => .tup [lst encG l, .i .i64 0, .i .i64 0]

def ParseI (s : List UInt8) (R : Except Nat (List Glob)) (m : Nat) (vs : List V) (h : Heap) : Prop :=
  ∃ (id i : Nat) (out : List Glob) (a : Option (Nat × Nat)) (l : Nat) (c : Option Nat) (k : Nat), vs = [.s s, .p (some (id, 0)), .sl a l c k] ∧ Lst encG 3 h a l c k out ∧ (∀ j, a = some (j, 0) → id < j) ∧
    Rd h id s i false ∧ i ≤ s.length ∧ out.length ≤ i ∧ s.length - i < m ∧ parseS m s i out = R

theorem glob_app {h : Heap} {a : Option (Nat × Nat)} {l : Nat} {c : Option Nat} {kk : Nat} {out : List Glob} (x : Glob) {new : List V} (hn : new.length = 3) (hc : allCells new = true) (hcold : colds1 new = true) (hf : FrzL .empty new (encG x)) (hl : Lst encG 3 h a l c kk out) (hb : out.length < 2 ^ 29) :
    ∃ a' l' c' k' h', appendH Tryz.Y h 121 121 (.sl a l c kk) (.ts new 1 (some 1)) = some (.sl a' l' c' k', h') ∧ Lst encG 3 h' a' l' c' k' (out ++ [x]) ∧ Fr h a h' ∧ ∃ j, a' = some (j, 0) ∧ h.nx ≤ j :=
  Lst.app1 (Y := Tryz.Y) (e := 144) (te := ⟨3, 40, .struct [(0, 3), (1, 5), (2, 142)], [.i .i64 0, .i .u8 0, .sl none 0 (some 0) 0]⟩) x (by kernel_rfl) (by kernel_rfl) rfl (by decide) hl hf hcold hn hc (by decide) hb

theorem fin3Z {Y : YP} {fn : Func} {slots : List Nat} {o : Out} {n : Nat} {vs : List V} {h : Heap} {v1 v2 v3 r1 r2 r3 R : V} (ho : o = .normal ∨ o = .ret) (hv : resV Y fn (slots.zip vs) = some (.tup [v1, v2, v3])) (h1 : Frz h v1 r1) (h2 : Frz h v2 r2) (h3 : Frz h v3 r3) (hr : .tup [r1, r2, r3] = R) :
    Fin Y fn slots (fun v h => ∃ r, Frz h v r ∧ r = R) o n vs h := ⟨ho, _, hv, _, .tup _ _ (.cons _ _ _ _ h1 (.cons _ _ _ _ h2 (.cons _ _ _ _ h3 .nil))), hr⟩

theorem parse_con (s : List UInt8) : PCon Tryz.Y 104 [.s s] (· = parseR s) := by
  refine pcon_of Tryz.Yok (fn := Tryz.f104) (by kernel_rfl) (by kernel_rfl) rfl ?_
  refine pre_rule Tryz.Yok (n := 34) (loc := Tryz.Y.loc 104) 100 [0, 2, 3, 4, 5, 6] (by kernel_rfl) ?_
  rw [show (⟨[.s s] ++ List.replicate (Tryz.f104.ntmps - [V.s s].length) .undef, [], .empty⟩ : St) = ⟨.s s :: List.replicate 33 .undef, [], .empty⟩ by rfl, f104_0]
  unfold parseR
  refine if_lt (fun hlt => ?_) (fun hge => ?_)
  · rw [if_pos (by omega)]
    exact fin3 (.inr rfl) rfl (frz_nil encG _ _ _) (.i _ _) (.i _ _) rfl
  have hs : s.length ≤ 200 := by omega
  rw [if_neg (by omega)]
  generalize hR : parseS (s.length + 1) s 0 [] = R
  refine ⟨rfl, loop2 [0, 5, 6] [0, 2, 3, 4, 5, 6] rfl (by kernel_rfl) (ParseI s R) (s.length + 1) mk_len
    ⟨_, 0, [], none, 0, some 0, 0, rfl, Lst.nil _ _ _ _ _, by simp, ⟨by simp [Heap.get_push], by simp⟩, by omega, by simp, by omega, hR⟩ ?_⟩
  rintro m vs h ⟨id, i, out, a, l, c, k, rfl, hL, hnew, hr, hi, hol, hm, hg⟩
  refine all_rule Tryz.Yok (loc := Tryz.Y.loc 104) 100 [0, 2, 3, 4, 5, 6] ?_
  rw [f104_1]
  obtain ⟨m, rfl⟩ : ∃ m', m = m' + 1 := ⟨m - 1, by omega⟩
  have hll := hL.len
  refine ⟨_, hr.c1, if_lt_nat (fun hlt => ?_) (fun hge => ?_)⟩
  · refine (piece_con hr (by omega) hlt).mono fun v h2 hq => ?_
    simp only [parseS, hlt, if_true] at hg
    have hkeep : FrO h id h2 → ∀ j, a = some (j, 0) → j < h.nx → h2.get j = h.get j := fun f j hj hl => f.2 j hl (fun e => by have := hnew j hj; omega)
    have hne : ∀ o, a ≠ some (id, o) := by
      intro o ho
      have h0 := hL.off ho
      subst h0
      have := hnew id ho
      omega
    cases he : pieceS s i with
    | error e =>
      rw [he] at hq hg
      obtain ⟨x, rfl, g1, g2⟩ := hq
      obtain ⟨a', l', c', k', h3, q1, q2, q3, j, q4, q5⟩ := glob_app x rfl rfl rfl (colds1_ok _ rfl) (hL.fr g2.1 (hkeep g2)) (by omega)
      have g1' : Rd h3 id s e true := ⟨by rw [q3.2 id g1.lt hne]; exact g1.get, Nat.lt_of_lt_of_le g1.lt q3.1⟩
      refine ⟨_, _, _, _, _, rfl, a', l', c', k', h3, q1, true, g1'.c2, ?_⟩
      refine ⟨_, g1'.c1, ?_⟩
      subst hg
      exact fin3 (.inr rfl) rfl (frz_nil encG _ _ _) (.i _ _) (.i _ _) rfl
    | ok y =>
      obtain ⟨x, j⟩ := y
      rw [he] at hq hg
      have hj := pieceS_ok he
      obtain ⟨rfl, g1, g2⟩ := hq
      obtain ⟨a', l', c', k', h3, q1, q2, q3, jj, q4, q5⟩ := glob_app x rfl rfl rfl (colds1_ok _ rfl) (hL.fr g2.1 (hkeep g2)) (by omega)
      have g1' : Rd h3 id s j false := ⟨by rw [q3.2 id g1.lt hne]; exact g1.get, Nat.lt_of_lt_of_le g1.lt q3.1⟩
      refine ⟨_, _, _, _, _, rfl, a', l', c', k', h3, q1, false, g1'.c2, rfl, m, by omega, id, j, out ++ [x], a', l', c', k', rfl, q2, ?_, g1', hj.2, by simp; omega, by omega, hg⟩
      intro j' hj'; rw [q4] at hj'; cases hj'
      have := hr.lt
      have := g2.1
      omega
  · refine roundW_exit [6] (by kernel_rfl) rfl rfl ?_
    refine end_rule Tryz.Yok (loc := Tryz.Y.loc 104) 100 [2, 3, 4] ?_
    rw [show pick [0, 2, 3, 4, 5, 6] [6] [V.s s, V.undef, V.undef, V.undef, V.p (some (id, 0)), V.sl a l c k] = [V.sl a l c k] by rfl, f104_2]
    simp only [parseS, Nat.not_lt.2 hge, if_false] at hg
    subst hg
    exact fin3Z (.inr rfl) rfl (hL.frz (by decide) encG_len) (.i _ _) (.i _ _) rfl
end Go.Y

/- What an edge of a peer must be, by contracts. -/
namespace Go.Y
open Go.Proofs
set_option maxRecDepth 100000

structure Edge where
  kind : Int
  text : List UInt8
  lo : Int
  hi : Int
  to : Int
  deriving DecidableEq, Inhabited
structure Plc where
  name : List UInt8
  echo : Bool
  edges : List Edge
  deriving DecidableEq, Inhabited
abbrev encE (e : Edge) : List V := [.i .i64 e.kind, .s e.text, .i .i64 e.lo, .i .i64 e.hi, .i .i64 e.to]
abbrev encPl (x : Plc) : List V := [.s x.name, .b x.echo, lst encE x.edges]
theorem encE_len (e : Edge) : (encE e).length = 5 := rfl
theorem encPl_len (x : Plc) : (encPl x).length = 3 := rfl

def timesS (e : Edge) : Bool := leI 0 e.lo && leI e.lo 9 && (e.hi == -1 || leI e.lo e.hi && leI e.hi 9)
theorem times_con (e : Edge) : PCon Tryz.Y 103 [.agg (encE e)] (· = .b (timesS e)) := by
  refine tree_con Tryz.Yok (fn := Tryz.f103) (by kernel_rfl) (by kernel_rfl) rfl (fun K => f103_0 e.kind e.text e.lo e.hi e.to .empty K) rfl ?_
  refine if_mk (fun h1 => if_mk (fun h2 => if_mk (fun h3 => ?_) (fun h3 => if_mk (fun h4 => ?_) (fun h4 => ?_))) (fun h2 => ?_)) (fun h1 => ?_)
  all_goals refine finV1 (.inr rfl) rfl (.b _) ?_
  all_goals simp_all [timesS]

/-- Does glob.Parse take it? -/
def globS (s : List UInt8) : Bool := if 200 < s.length then false else match parseS (s.length + 1) s 0 [] with
  | .error _ => false
  | .ok _ => true
theorem parseR_cases (s : List UInt8) : ∃ (l : List Glob) (a e : Int), parseR s = .tup [lst encG l, .i .i64 a, .i .i64 e] ∧ (e == 0) = globS s := by
  unfold parseR globS
  split
  · exact ⟨[], _, _, rfl, rfl⟩
  · cases hp : parseS (s.length + 1) s 0 [] with
    | error e => exact ⟨[], _, _, rfl, rfl⟩
    | ok l => exact ⟨_, _, _, rfl, rfl⟩

def toS (e : Edge) (np : Nat) : Bool := leI 0 e.to && ltI e.to np
def edgeS (e : Edge) (cap : Int) (np : Nat) : Bool :=
  if e.kind = 1 then toS e np && timesS e && !(e.text == []) && leI e.text.length cap
  else if e.kind = 2 then toS e np && (e.lo == 0) && (e.hi == 0) && globS e.text
  else if e.kind = 3 then (e.to == 0) && (e.text == []) && timesS e
  else false

theorem right_con (e : Edge) (cap : Int) (cs : List V) (np : Nat) : PCon Tryz.Y 84 [.agg (encE e), .agg [.i .i64 cap, .ts cs np none]] (· = .b (edgeS e cap np)) := by
  refine pcon_of Tryz.Yok (fn := Tryz.f84) (by kernel_rfl) (by kernel_rfl) rfl (end_rule Tryz.Yok (loc := Tryz.Y.loc 84) 100 [4] ?_)
  refine Eq.mpr (f84_0 e.kind e.text e.lo e.hi e.to cap cs np .empty _) ?_
  obtain ⟨l, a, er, hp, he⟩ := parseR_cases e.text
  have hpc : PCon Tryz.Y 104 [.s e.text] fun v => v = .tup [.ts (row encG l) l.length none, .i .i64 a, .i .i64 er] := (parse_con e.text).mono fun r hr => by rw [hr, hp]
  have fin : ∀ (b : Bool) (h : Heap), b = edgeS e cap np → Fin Tryz.Y Tryz.f84 [4] (fun v h => ∃ r, Frz h v r ∧ r = .b (edgeS e cap np)) .ret 80 [.b b] h := fun b h e2 => finV1 (.inr rfl) rfl (.b _) (by rw [e2])
  generalize Fin Tryz.Y Tryz.f84 [4] (fun v h => ∃ r, Frz h v r ∧ r = .b (edgeS e cap np)) = K at fin ⊢
  have k3 : (e.kind == 1) = false → (e.kind == 2) = false → If (e.kind == 3) (If (e.to == 0) (If (e.text == []) (∃ b : Bool, (PCon Tryz.Y 103 [.agg (encE e)] fun v => v = .b b) ∧ K .ret 80 [.b b] .empty) (K .ret 80 [.b false] .empty)) (K .ret 80 [.b false] .empty)) (K .ret 80 [.b false] .empty) := by
    intro n1 n2
    have n1 : e.kind ≠ 1 := by simpa using n1
    have n2 : e.kind ≠ 2 := by simpa using n2
    refine if_mk (fun h1 => if_mk (fun h2 => if_mk (fun h3 => ⟨_, times_con e, fin _ _ ?_⟩) (fun h3 => fin _ _ ?_)) (fun h2 => fin _ _ ?_)) (fun h1 => fin _ _ ?_)
    all_goals simp only [edgeS, n1, n2, if_false]
    · have h1 : e.kind = 3 := by simpa using h1
      rw [if_pos h1, h2, h3]; simp
    · have h1 : e.kind = 3 := by simpa using h1
      rw [if_pos h1, h3]; simp
    · have h1 : e.kind = 3 := by simpa using h1
      rw [if_pos h1, h2]; simp
    · have h1 : e.kind ≠ 3 := by simpa using h1
      rw [if_neg h1]
  refine if_mk (fun t0 => if_mk (fun k1 => ?_) (fun k1 => if_mk (fun k2 => ⟨_, _, _, _, _, hpc, ?_⟩) (fun k2 => k3 k1 k2))) (fun t0 => if_mk (fun k1 => fin _ _ ?_) (fun k1 => if_mk (fun k2 => ⟨_, _, _, _, _, hpc, fin _ _ ?_⟩) (fun k2 => k3 k1 k2)))
  · have k1 : e.kind = 1 := by simpa using k1
    refine if_mk (fun t1 => ⟨_, times_con e, if_mk (fun h1 => if_mk (fun h2 => fin _ _ ?_) (fun h2 => fin _ _ ?_)) (fun h1 => fin _ _ ?_)⟩) (fun t1 => fin _ _ ?_)
    all_goals simp only [edgeS, k1, if_true, toS, t0, t1, Bool.true_and, Bool.false_and]
    · have h2 : (!e.text == []) = true := h2
      rw [h1, h2]; simp
    · have h2 : (!e.text == []) = false := h2
      rw [h1, h2]; simp
    · rw [h1]; simp
  · have k2 : e.kind = 2 := by simpa using k2
    have e21 : ¬ ((2 : Int) = 1) := by decide
    refine if_mk (fun t1 => if_mk (fun h1 => if_mk (fun h2 => fin _ _ ?_) (fun h2 => fin _ _ ?_)) (fun h1 => fin _ _ ?_)) (fun t1 => fin _ _ ?_)
    all_goals simp only [edgeS, k2, e21, if_true, if_false, toS, t0, t1, Bool.true_and, Bool.false_and]
    · rw [h1, h2, he]; simp
    · rw [h1, h2]; simp
    · rw [h1]; simp
  · have k1 : e.kind = 1 := by simpa using k1
    simp only [edgeS, k1, if_true, toS, t0, Bool.false_and]
  · have k2 : e.kind = 2 := by simpa using k2
    have e21 : ¬ ((2 : Int) = 1) := by decide
    simp only [edgeS, k2, e21, if_true, if_false, toS, t0, Bool.false_and]
end Go.Y
