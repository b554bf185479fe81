/- Sides and pipes, by contracts. -/
import Derived.Test.YtpddiafjmkjpmaaGA1
import Derived.Test.YtpddiafjmkjpmaaGWk
import Derived.Test.YtpddiafjmkjpmaaGClone
import Derived.Test.YtpddiafjmkjpmaaGSpec
import Derived.Test.YtpddiafjmkjpmaaGSame
namespace Go.Y
open Go.Proofs
set_option maxRecDepth 100000

structure Side where
  on : Bool
  shut : Bool
  eof : Bool
  place : Int
  clock : Int
  typed : List UInt8
  lines : List (List UInt8)
  fly : List UInt8
  ages : List Int
  ready : List UInt8
  buffer : List UInt8

abbrev encI (n : Int) : List V := [.i .i64 n]
abbrev encT (s : List UInt8) : List V := [.s s]
theorem encI_len (n : Int) : (encI n).length = 1 := rfl
theorem encT_len (s : List UInt8) : (encT s).length = 1 := rfl
abbrev sideL (s : Side) (lines ages : V) : List V := [.b s.on, .b s.shut, .b s.eof, .i .i64 s.place, .i .i64 s.clock, .s s.typed, lines, .s s.fly, ages, .s s.ready, .s s.buffer]
abbrev sideC (s : Side) : List V := sideL s (lst encT s.lines) (lst encI s.ages)
abbrev side0 : List V := [.b false, .b false, .b false, .i .i64 0, .i .i64 0, .s [], .sl none 0 (some 0) 0, .s [], .sl none 0 (some 0) 0, .s [], .s []]

theorem row_one {α : Type} (f : α → V) (l : List α) : row (fun a => [f a]) l = l.map f := by
  induction l with
  | nil => rfl
  | cons a l ih => simp only [row, List.map_cons, List.flatten_cons] at ih ⊢; rw [ih]; rfl
theorem rowI (l : List Int) : row encI l = l.map (.i .i64) := row_one _ l
theorem rowI_len (l : List Int) : (row encI l).length = l.length := by rw [rowI]; simp
theorem rowI_all (l : List Int) : allCells (row encI l) = true := by
  rw [rowI]
  induction l with
  | nil => rfl
  | cons a l ih => simp only [List.map_cons, allCells, ih, Bool.and_true]; rfl
theorem rowI_frz (l : List Int) (h : Heap) : FrzL h (row encI l) (row encI l) := by
  rw [rowI]
  induction l with
  | nil => exact .nil
  | cons a l ih => exact .cons _ _ _ _ (.i _ _) ih

/-- Clone of nothing. -/
theorem clone54e (c : Option Nat) : PCon Try.Y 54 [.ts [] 0 c] (· = .ts [] 0 (some 0)) := by
  have h := clone54 (args := [.ts [] 0 c]) (h := .empty) (v := .ts [] 0 (some 0)) (h' := .empty) rfl
  refine ⟨h.body, PTr.of (coldAll_cold rfl) h.tr fun v h' hq => ⟨_, ?_, rfl⟩⟩
  rw [hq.1]; exact .ts _ _ _ _ (fun x hx => hx)

/-- Clone of some. -/
theorem clone54n (l : List Int) (c : Option Nat) (h : Heap) (h0 : l ≠ []) (hl : l.length < 2 ^ 30) : Con Try.Y 54 [.ts (row encI l) l.length c] h fun v h' => v = .sl (some (h.nx, 0)) l.length none 1 ∧ h' = h.push (.arr (row encI l) true) := by
  refine clone54 ?_
  cases l with
  | nil => exact absurd rfl h0
  | cons a l =>
    have := rowI_len (a :: l)
    have ha := rowI_all (a :: l)
    simp only [List.length_cons] at this hl ⊢
    have ht : takeX ((l.length + 1) * 1) (row encI (a :: l)) = some (row encI (a :: l)) := takeX_len (by omega)
    simp only [cloneV, ht, ha]
    rw [if_pos ⟨trivial, by omega⟩]

/-! ### Tick -/
theorem splice_map (A B : List Int) (a b : Int) : splice ((A ++ a :: B).map (V.i .i64)) A.length [.i .i64 b] = (A ++ b :: B).map (V.i .i64) := by
  induction A with
  | nil => simp [splice]
  | cons x A ih => simpa [splice] using ih

def bump (a : Int) : Int := IntKind.i64.wrap (a + 1)
def tickS (s : Side) : Side := { s with ages := s.ages.map bump, clock := if s.on && !s.shut then IntKind.i64.wrap (s.clock + 1) else s.clock }

def TickI (s : Side) (m : Nat) (vs : List V) (h : Heap) : Prop :=
  ∃ (id i : Nat), vs = [.lb (sideL s (lst encT s.lines) (.sl (some (id, 0)) s.ages.length none 1)), .lb side0, .i .i64 s.ages.length, .i .i64 (i : Nat)] ∧ i ≤ s.ages.length ∧
    h.get id = some (.arr (((s.ages.take i).map bump ++ s.ages.drop i).map (.i .i64)) true) ∧ m = s.ages.length - i

theorem frz_sideL {s : Side} {h : Heap} {ln ln' ag ag' : V} (h1 : Frz h ln ln') (h2 : Frz h ag ag') : Frz h (.agg (sideL s ln ag)) (.agg (sideL s ln' ag')) :=
  .agg _ _ (.cons _ _ _ _ (.b _) (.cons _ _ _ _ (.b _) (.cons _ _ _ _ (.b _) (.cons _ _ _ _ (.i _ _) (.cons _ _ _ _ (.i _ _) (.cons _ _ _ _ (.s _) (.cons _ _ _ _ h1 (.cons _ _ _ _ (.s _) (.cons _ _ _ _ h2 (.cons _ _ _ _ (.s _) (.cons _ _ _ _ (.s _) .nil)))))))))))
theorem frz_ts (h : Heap) (cs : List V) (n : Nat) (c : Option Nat) : Frz h (.ts cs n c) (.ts cs n none) := .ts _ _ _ _ (fun x hx => by cases hx)
theorem frz_obj {h : Heap} {id : Nat} {l : List Int} {b : Bool} (hg : h.get id = some (.arr (row encI l) b)) : Frz h (.sl (some (id, 0)) l.length none 1) (lst encI l) :=
  .sl _ _ _ _ _ _ _ _ _ _ hg (by rw [List.drop_zero]; exact takeX_len (by rw [rowI_len]; omega)) (fun x hx => by cases hx) (by omega) (rowI_frz _ _)

theorem tick_con (s : Side) (hl : s.ages.length < 2 ^ 30) : PCon Try.Y 20 [.agg (sideC s)] (· = .agg (sideC (tickS s))) := by
  refine pcon_of Try.Yok (fn := Try.f20) (by kernel_rfl) (by kernel_rfl) rfl ?_
  refine pre_rule Try.Yok (n := 34) (loc := Try.Y.loc 20) 100 [1, 2, 10, 11] (by kernel_rfl) ?_
  refine Eq.mpr (f20_0 s.on s.shut s.eof s.place s.clock s.typed (row encT s.lines) s.lines.length s.fly (row encI s.ages) s.ages.length s.ready s.buffer .empty _) ?_
  by_cases h0 : s.ages = []
  · refine .inr ⟨[], 0, some 0, by rw [h0]; exact clone54e none, rfl, ?_⟩
    refine loop2 [1, 2, 10, 11] [1, 2, 10, 11] rfl (by kernel_rfl) (fun m vs _ => vs = [.lb (sideL s (lst encT s.lines) (.ts [] 0 (some 0))), .lb side0, .i .i64 0, .i .i64 0] ∧ m = 0) 0 mk_len ⟨rfl, rfl⟩ ?_
    rintro m vs h ⟨rfl, rfl⟩
    refine all_rule Try.Yok (loc := Try.Y.loc 20) 100 [1, 2, 10, 11] ?_
    refine Eq.mpr (f20e_1 s.on s.shut s.eof s.place s.clock s.typed (row encT s.lines) s.lines.length s.fly s.ready s.buffer h _) ?_
    refine roundW_exit [1, 2] (by kernel_rfl) rfl rfl ?_
    refine end_rule Try.Yok (loc := Try.Y.loc 20) 100 [2] ?_
    refine Eq.mpr (f20e_2 s.on s.shut s.eof s.place s.clock s.typed (row encT s.lines) s.lines.length s.fly s.ready s.buffer h _) ?_
    have hta : (tickS s).ages = [] := by simp [tickS, h0]
    have fin : ∀ x : Int, x = (tickS s).clock → Fin Try.Y Try.f20 [2] (fun v h => ∃ r, Frz h v r ∧ r = .agg (sideC (tickS s))) .ret 34 [.lb (sideL { s with clock := x } (lst encT s.lines) (.ts [] 0 (some 0)))] h := by
      rintro x rfl
      refine finV1 (.inr rfl) rfl (frz_sideL (frz_ts _ _ _ _) (frz_ts _ _ _ _)) ?_
      show V.agg (sideL _ (lst encT s.lines) (.ts [] 0 none)) = .agg (sideL _ (lst encT s.lines) (lst encI (tickS s).ages))
      rw [hta]; rfl
    exact if_mk (fun h1 => if_mk (fun h2 => fin (IntKind.i64.wrap (s.clock + 1)) (by simp [tickS, h1] at h2 ⊢; simp [h2])) (fun h2 => fin s.clock (by simp [tickS, h1] at h2 ⊢; simp [h2]))) (fun h1 => fin s.clock (by simp [tickS, h1]))
  · refine .inl ((clone54n s.ages none .empty h0 hl).mono fun v h' ⟨e1, e2⟩ => ⟨_, _, _, _, e1, rfl, ?_⟩)
    refine loop2 [1, 2, 10, 11] [1, 2, 10, 11] rfl (by kernel_rfl) (TickI s) s.ages.length mk_len ⟨_, 0, rfl, by omega, by rw [e2]; simp [rowI], by omega⟩ ?_
    rintro m vs h ⟨id, i, rfl, hi, hg, rfl⟩
    refine all_rule Try.Yok (loc := Try.Y.loc 20) 100 [1, 2, 10, 11] ?_
    refine Eq.mpr (f20_1 s.on s.shut s.eof s.place s.clock s.typed (row encT s.lines) s.lines.length s.fly s.ready s.buffer (s.ages.length : Nat) id s.ages.length (i : Nat) h _) ?_
    refine if_lt_nat (fun hlt => ?_) (fun hge => ?_)
    · have hlen : ((s.ages.take i).map bump).length = i := by simp; omega
      have hdr : s.ages.drop i = s.ages[i] :: s.ages.drop (i + 1) := List.drop_eq_getElem_cons hlt
      refine ⟨bnd_nat hlt, rfl, s.ages[i], ?_, bnd_nat hlt, rfl, h.set id (some (.arr (splice (((s.ages.take i).map bump ++ s.ages.drop i).map (V.i .i64)) i [.i .i64 (bump s.ages[i])]) true)), ?_, rfl, s.ages.length - (i + 1), by omega, id, i + 1, ?_, by omega, ?_, rfl⟩
      · simp only [hcells, hg]
        rw [Int.toNat_natCast, show 0 + i * 1 = i by omega, ← List.map_drop, List.drop_append_of_le_length (by omega), List.drop_of_length_le (by omega), List.nil_append, hdr]
        rfl
      · simp only [hstore, hg]
        rw [Int.toNat_natCast, show 0 + i * 1 = i by omega, if_pos (by simp; omega)]
        rfl
      · rw [wrap_succ (by omega)]; rfl
      · rw [Heap.get_set, if_pos rfl]
        have := splice_map ((s.ages.take i).map bump) (s.ages.drop (i + 1)) s.ages[i] (bump s.ages[i])
        rw [hlen] at this
        rw [hdr]
        refine congrArg (fun x => some (YObj.arr x true)) (this.trans ?_)
        rw [List.take_succ_eq_append_getElem hlt]; simp only [List.map_append, List.map_cons, List.map_nil, List.append_assoc, List.cons_append, List.nil_append]
    · refine roundW_exit [1, 2] (by kernel_rfl) rfl rfl ?_
      refine end_rule Try.Yok (loc := Try.Y.loc 20) 100 [2] ?_
      refine Eq.mpr (f20_2 s.on s.shut s.eof s.place s.clock s.typed (row encT s.lines) s.lines.length s.fly s.ready s.buffer id s.ages.length h _) ?_
      have hi' : i = s.ages.length := by omega
      subst hi'
      have hg2 : h.get id = some (.arr (row encI (tickS s).ages) true) := by
        rw [hg, rowI]; simp [tickS]
      have hta : (tickS s).ages.length = s.ages.length := by simp [tickS]
      have fin : ∀ x : Int, x = (tickS s).clock → Fin Try.Y Try.f20 [2] (fun v h => ∃ r, Frz h v r ∧ r = .agg (sideC (tickS s))) .ret 34 [.lb (sideL { s with clock := x } (lst encT s.lines) (.sl (some (id, 0)) s.ages.length none 1))] h := by
        rintro x rfl
        rw [← hta]
        exact finV1 (.inr rfl) rfl (frz_sideL (frz_ts _ _ _ _) (frz_obj hg2)) rfl
      exact if_mk (fun h1 => if_mk (fun h2 => fin (IntKind.i64.wrap (s.clock + 1)) (by simp [tickS, h1] at h2 ⊢; simp [h2])) (fun h2 => fin s.clock (by simp [tickS, h1] at h2 ⊢; simp [h2]))) (fun h1 => fin s.clock (by simp [tickS, h1]))
end Go.Y
