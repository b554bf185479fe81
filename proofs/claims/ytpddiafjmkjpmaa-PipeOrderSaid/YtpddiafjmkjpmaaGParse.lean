/- glob.Parse, by its contract. -/
import Derived.Test.YtpddiafjmkjpmaaGRead
import Derived.Test.YtpddiafjmkjpmaaGA1
namespace Go.Y
open Go.Proofs
set_option maxRecDepth 100000

def pieceQ (r : Except Nat (Glob × Nat)) (h : Heap) (id : Nat) (s : List UInt8) (v : V) (h' : Heap) : Prop := match r with
  | .error e => ∃ x : Glob, v = .agg (encG x) ∧ Rd h' id s e true ∧ FrO h id h'
  | .ok (x, j) => v = .agg (encG x) ∧ Rd h' id s j false ∧ FrO h id h'

theorem piece_fin {h : Heap} {k b : Int} {Q : V → Heap → Prop} (hq : Q (.agg (encG ⟨k, b, []⟩)) h) : AfterZ Q (.agg [.i .i64 k, .i .u8 b, .sl none 0 (some 0) 0]) h :=
  ⟨[], _, .inl (.agg _ _ (.cons _ _ _ _ (.same _) (.cons _ _ _ _ (.same _) (.cons _ _ _ _ (.frz _ _ (.sln _ _ none (fun x hx => by cases hx))) .nil)))), hq⟩

theorem u8_lit (c d : UInt8) : (((c.toNat : Nat) : Int) == ((d.toNat : Nat) : Int)) = decide (c = d) := by rw [u8_eq]; rfl

theorem piece_con {h : Heap} {id : Nat} {s : List UInt8} {i : Nat} (r : Rd h id s i false) (hs : s.length < 2 ^ 28) (hi : i < s.length) :
    Con Try.Y 48 [.p (some (id, 0))] h (pieceQ (pieceS s i) h id s) := by
  refine conz_of Try.Yok (fn := Try.f48) (by kernel_rfl) (by kernel_rfl) (end_rule Try.Yok (loc := Try.Y.loc 48) 100 [2] ?_)
  rw [show (⟨[.p (some (id, 0))] ++ List.replicate (Try.f48.ntmps - [V.p (some (id, 0))].length) .undef, [], h⟩ : St) = ⟨.p (some (id, 0)) :: List.replicate 24 .undef, [], h⟩ by rfl, f48_0]
  refine (next_con r (by omega) (by omega)).mono fun v h1 ⟨hv, g1, g2⟩ => ⟨_, hv, ?_⟩
  have hsi : s[i]? = some s[i] := by simp [hi]
  simp only [nextS, hsi] at g1 ⊢
  rw [show (42 : Int) = (((42 : UInt8).toNat : Nat) : Int) by decide, show (63 : Int) = (((63 : UInt8).toNat : Nat) : Int) by decide, show (91 : Int) = (((91 : UInt8).toNat : Nat) : Int) by decide, show (92 : Int) = (((92 : UInt8).toNat : Nat) : Int) by decide, u8_lit, u8_lit, u8_lit, u8_lit]
  refine if_dec (fun c1 => finC (.inr rfl) rfl (piece_fin ?_)) (fun c1 => ?_)
  · simp only [pieceS, hsi, c1, if_true]; exact ⟨rfl, g1, g2⟩
  refine if_dec (fun c2 => finC (.inr rfl) rfl (piece_fin ?_)) (fun c2 => ?_)
  · unfold pieceS; rw [hsi]; simp only []; rw [if_neg c1, if_pos c2]; exact ⟨rfl, g1, g2⟩
  refine if_dec (fun c3 => ?_) (fun c3 => ?_)
  · refine (set_con g1 hs (by omega)).mono fun v h2 hq => ?_
    cases he : setS (s.length + 1) s (i + 1) [] with
    | error e =>
      have hp : pieceS s i = .error e := by unfold pieceS; rw [hsi]; simp only []; rw [if_neg c1, if_neg c2, if_pos c3, he]
      rw [he] at hq
      obtain ⟨rfl, q1, q2⟩ := hq
      refine ⟨_, _, _, rfl, finC (.inr rfl) rfl (.now ?_)⟩
      rw [hp]
      exact ⟨⟨3, 0, []⟩, rfl, q1, g2.trans q2⟩
    | ok y =>
      obtain ⟨l, j⟩ := y
      have hp : pieceS s i = .ok (⟨3, 0, l⟩, j) := by unfold pieceS; rw [hsi]; simp only []; rw [if_neg c1, if_neg c2, if_pos c3, he]
      rw [he] at hq
      obtain ⟨rfl, q1, q2⟩ := hq
      refine ⟨_, _, _, rfl, finC (.inr rfl) rfl (.now ?_)⟩
      rw [hp]
      exact ⟨rfl, q1, g2.trans q2⟩
  refine if_dec (fun c4 => ?_) (fun c4 => finC (.inr rfl) rfl (piece_fin ?_))
  · refine (next_con g1 (by omega) (by omega)).mono fun v h2 ⟨hv, q1, q2⟩ => ⟨_, hv, finC (.inr rfl) rfl (piece_fin ?_)⟩
    cases hs2 : s[i + 1]? with
    | none =>
      have hp : pieceS s i = .error (i + 1) := by unfold pieceS; rw [hsi]; simp only []; rw [if_neg c1, if_neg c2, if_neg c3, if_pos c4, hs2]
      simp only [nextS, hs2] at q1 ⊢
      rw [hp]
      exact ⟨_, rfl, q1, g2.trans q2⟩
    | some d =>
      have hp : pieceS s i = .ok (⟨0, d.toNat, []⟩, i + 2) := by unfold pieceS; rw [hsi]; simp only []; rw [if_neg c1, if_neg c2, if_neg c3, if_pos c4, hs2]
      simp only [nextS, hs2] at q1 ⊢
      rw [hp]
      exact ⟨rfl, q1, g2.trans q2⟩
  · simp only [pieceS, hsi, c1, c2, c3, c4, if_false]; exact ⟨rfl, g1, g2⟩

/-- What Parse hands back. -/
def parseR (s : List UInt8) : V :=
  if 200 < s.length then .tup [lst encG [], .i .i64 200, .i .i64 2] else match parseS (s.length + 1) s 0 [] with
    | .error e => .tup [lst encG [], .i .i64 (e : Nat), .i .i64 1]
    | .ok l => .tup [lst encG l, .i .i64 0, .i .i64 0]

def ParseI (s : List UInt8) (R : Except Nat (List Glob)) (m : Nat) (vs : List V) (h : Heap) : Prop :=
  ∃ (id i : Nat) (out : List Glob) (a : Option (Nat × Nat)) (l : Nat) (c : Option Nat) (k : Nat), vs = [.s s, .p (some (id, 0)), .sl a l c k] ∧ Lst encG 3 h a l c k out ∧ (∀ j, a = some (j, 0) → id < j) ∧
    Rd h id s i false ∧ i ≤ s.length ∧ out.length ≤ i ∧ s.length - i < m ∧ parseS m s i out = R

theorem glob_app {h : Heap} {a : Option (Nat × Nat)} {l : Nat} {c : Option Nat} {kk : Nat} {out : List Glob} (x : Glob) {new : List V} (hn : new.length = 3) (hc : allCells new = true) (hcold : colds1 new = true) (hf : FrzL .empty new (encG x)) (hl : Lst encG 3 h a l c kk out) (hb : out.length < 2 ^ 29) :
    ∃ a' l' c' k' h', appendH Try.Y h 23 23 (.sl a l c kk) (.ts new 1 (some 1)) = some (.sl a' l' c' k', h') ∧ Lst encG 3 h' a' l' c' k' (out ++ [x]) ∧ Fr h a h' ∧ ∃ j, a' = some (j, 0) ∧ h.nx ≤ j :=
  Lst.app1 (Y := Try.Y) (e := 77) (te := ⟨3, 40, .struct [(0, 3), (1, 5), (2, 75)], [.i .i64 0, .i .u8 0, .sl none 0 (some 0) 0]⟩) x (by kernel_rfl) (by kernel_rfl) rfl (by decide) hl hf hcold hn hc (by decide) hb

theorem fin3Z {Y : YP} {fn : Func} {slots : List Nat} {o : Out} {n : Nat} {vs : List V} {h : Heap} {v1 v2 v3 r1 r2 r3 R : V} (ho : o = .normal ∨ o = .ret) (hv : resV Y fn (slots.zip vs) = some (.tup [v1, v2, v3])) (h1 : Frz h v1 r1) (h2 : Frz h v2 r2) (h3 : Frz h v3 r3) (hr : .tup [r1, r2, r3] = R) :
    Fin Y fn slots (fun v h => ∃ r, Frz h v r ∧ r = R) o n vs h := ⟨ho, _, hv, _, .tup _ _ (.cons _ _ _ _ h1 (.cons _ _ _ _ h2 (.cons _ _ _ _ h3 .nil))), hr⟩

theorem parse_con (s : List UInt8) : PCon Try.Y 13 [.s s] (· = parseR s) := by
  refine pcon_of Try.Yok (fn := Try.f13) (by kernel_rfl) (by kernel_rfl) rfl ?_
  refine pre_rule Try.Yok (n := 34) (loc := Try.Y.loc 13) 100 [0, 2, 3, 4, 5, 6] (by kernel_rfl) ?_
  rw [show (⟨[.s s] ++ List.replicate (Try.f13.ntmps - [V.s s].length) .undef, [], .empty⟩ : St) = ⟨.s s :: List.replicate 33 .undef, [], .empty⟩ by rfl, f13_0]
  unfold parseR
  refine if_lt (fun hlt => ?_) (fun hge => ?_)
  · rw [if_pos (by omega)]
    exact fin3 (.inr rfl) rfl (frz_nil encG _ _ _) (.i _ _) (.i _ _) rfl
  have hs : s.length ≤ 200 := by omega
  rw [if_neg (by omega)]
  generalize hR : parseS (s.length + 1) s 0 [] = R
  refine ⟨rfl, loop2 [0, 5, 6] [0, 2, 3, 4, 5, 6] rfl (by kernel_rfl) (ParseI s R) (s.length + 1) mk_len
    ⟨_, 0, [], none, 0, some 0, 0, rfl, Lst.nil _ _ _ _ _, by simp, ⟨by simp [Heap.get_push], by simp⟩, by omega, by simp, by omega, hR⟩ ?_⟩
  rintro m vs h ⟨id, i, out, a, l, c, k, rfl, hL, hnew, hr, hi, hol, hm, hg⟩
  refine all_rule Try.Yok (loc := Try.Y.loc 13) 100 [0, 2, 3, 4, 5, 6] ?_
  rw [f13_1]
  obtain ⟨m, rfl⟩ : ∃ m', m = m' + 1 := ⟨m - 1, by omega⟩
  have hll := hL.len
  refine ⟨_, hr.c1, if_lt_nat (fun hlt => ?_) (fun hge => ?_)⟩
  · refine (piece_con hr (by omega) hlt).mono fun v h2 hq => ?_
    simp only [parseS, hlt, if_true] at hg
    have hkeep : FrO h id h2 → ∀ j, a = some (j, 0) → j < h.nx → h2.get j = h.get j := fun f j hj hl => f.2 j hl (fun e => by have := hnew j hj; omega)
    have hne : ∀ o, a ≠ some (id, o) := by
      intro o ho
      have h0 := hL.off ho
      subst h0
      have := hnew id ho
      omega
    cases he : pieceS s i with
    | error e =>
      rw [he] at hq hg
      obtain ⟨x, rfl, g1, g2⟩ := hq
      obtain ⟨a', l', c', k', h3, q1, q2, q3, j, q4, q5⟩ := glob_app x rfl rfl rfl (colds1_ok _ rfl) (hL.fr g2.1 (hkeep g2)) (by omega)
      have g1' : Rd h3 id s e true := ⟨by rw [q3.2 id g1.lt hne]; exact g1.get, Nat.lt_of_lt_of_le g1.lt q3.1⟩
      refine ⟨_, _, _, _, _, rfl, a', l', c', k', h3, q1, true, g1'.c2, ?_⟩
      refine ⟨_, g1'.c1, ?_⟩
      subst hg
      exact fin3 (.inr rfl) rfl (frz_nil encG _ _ _) (.i _ _) (.i _ _) rfl
    | ok y =>
      obtain ⟨x, j⟩ := y
      rw [he] at hq hg
      have hj := pieceS_ok he
      obtain ⟨rfl, g1, g2⟩ := hq
      obtain ⟨a', l', c', k', h3, q1, q2, q3, jj, q4, q5⟩ := glob_app x rfl rfl rfl (colds1_ok _ rfl) (hL.fr g2.1 (hkeep g2)) (by omega)
      have g1' : Rd h3 id s j false := ⟨by rw [q3.2 id g1.lt hne]; exact g1.get, Nat.lt_of_lt_of_le g1.lt q3.1⟩
      refine ⟨_, _, _, _, _, rfl, a', l', c', k', h3, q1, false, g1'.c2, rfl, m, by omega, id, j, out ++ [x], a', l', c', k', rfl, q2, ?_, g1', hj.2, by simp; omega, by omega, hg⟩
      intro j' hj'; rw [q4] at hj'; cases hj'
      have := hr.lt
      have := g2.1
      omega
  · refine roundW_exit [6] (by kernel_rfl) rfl rfl ?_
    refine end_rule Try.Yok (loc := Try.Y.loc 13) 100 [2, 3, 4] ?_
    rw [show pick [0, 2, 3, 4, 5, 6] [6] [V.s s, V.undef, V.undef, V.undef, V.p (some (id, 0)), V.sl a l c k] = [V.sl a l c k] by rfl, f13_2]
    simp only [parseS, Nat.not_lt.2 hge, if_false] at hg
    subst hg
    exact fin3Z (.inr rfl) rfl (hL.frz (by decide) encG_len) (.i _ _) (.i _ _) rfl
end Go.Y
