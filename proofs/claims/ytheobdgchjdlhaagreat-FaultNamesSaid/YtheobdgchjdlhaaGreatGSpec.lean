/- What patterns come to, over lists of bytes. -/
import Derived.Test.YtheobdgchjdlhaaGreatGLib
import Derived.Test.YtheobdgchjdlhaaGreatGWk
import Derived.Test.YtheobdgchjdlhaaGreatFA
import Derived.Test.YtheobdgchjdlhaaGreatFAw10
import Derived.Test.YtheobdgchjdlhaaGreatYTryzP
import Derived.Test.YtheobdgchjdlhaaGreatYRow
namespace Go.Y

structure Span where
  lo : Int
  hi : Int
  deriving DecidableEq, Inhabited
structure Glob where
  k : Int
  b : Int
  sp : List Span
  deriving DecidableEq, Inhabited

abbrev encS (x : Span) : List V := [.i .u8 x.lo, .i .u8 x.hi]
abbrev encG (x : Glob) : List V := [.i .i64 x.k, .i .u8 x.b, lst encS x.sp]
theorem encS_len (x : Span) : (encS x).length = 2 := rfl
theorem encG_len (x : Glob) : (encG x).length = 3 := rfl
theorem encS_cold (x : Span) : colds1 (encS x) = true := rfl
theorem encG_cold (x : Glob) : colds1 (encG x) = true := rfl

/-- The reader's next byte. -/
def nextS (s : List UInt8) (i : Nat) (b : Bool) : Int × Nat × Bool := match s[i]? with
  | some c => (c.toNat, i + 1, b)
  | none => (0, i, true)

/-- A byte of an item, and the place behind it; or the place where it can't go on. -/
def endS (s : List UInt8) (i : Nat) : Except Nat (Int × Nat) := match s[i]? with
  | none => .error i
  | some c => if c = 93 ∨ c = 45 then .error i else if c = 92 then match s[i + 1]? with
      | none => .error (i + 1)
      | some d => .ok (d.toNat, i + 2)
    else .ok (c.toNat, i + 1)

def itemS (s : List UInt8) (i : Nat) : Except Nat (Span × Nat) := match endS s i with
  | .error e => .error e
  | .ok (lo, j) => if s[j]? = some 45 then match endS s (j + 1) with
      | .error e => .error e
      | .ok (hi, k) => if hi < lo then .error (k - 1) else .ok (⟨lo, hi⟩, k)
    else .ok (⟨lo, lo⟩, j)

def setS : Nat → List UInt8 → Nat → List Span → Except Nat (List Span × Nat)
  | 0, _, i, _ => .error i
  | n + 1, s, i, out => if out ≠ [] ∧ s[i]? = some 93 then .ok (out, i + 1) else match itemS s i with
    | .error e => .error e
    | .ok (x, j) => setS n s j (out ++ [x])

def pieceS (s : List UInt8) (i : Nat) : Except Nat (Glob × Nat) := match s[i]? with
  | none => .error i
  | some c => if c = 42 then .ok (⟨2, 0, []⟩, i + 1) else if c = 63 then .ok (⟨1, 0, []⟩, i + 1) else
    if c = 91 then match setS (s.length + 1) s (i + 1) [] with
      | .error e => .error e
      | .ok (l, j) => .ok (⟨3, 0, l⟩, j)
    else if c = 92 then match s[i + 1]? with
      | none => .error (i + 1)
      | some d => .ok (⟨0, d.toNat, []⟩, i + 2)
    else .ok (⟨0, c.toNat, []⟩, i + 1)

def parseS : Nat → List UInt8 → Nat → List Glob → Except Nat (List Glob)
  | 0, _, i, _ => .error i
  | n + 1, s, i, out => if i < s.length then match pieceS s i with
      | .error e => .error e
      | .ok (x, j) => parseS n s j (out ++ [x])
    else .ok out

theorem endS_ok {s : List UInt8} {i : Nat} {c : Int} {j : Nat} (h : endS s i = .ok (c, j)) : i < j ∧ j ≤ s.length ∧ j ≤ i + 2 := by
  unfold endS at h
  split at h
  · cases h
  · rename_i c1 h1
    have hi := (List.getElem?_eq_some_iff.1 h1).1
    split at h
    · cases h
    · split at h
      · split at h
        · cases h
        · rename_i d h2
          have hi2 := (List.getElem?_eq_some_iff.1 h2).1
          cases h
          omega
      · cases h
        omega

theorem endS_err {s : List UInt8} {i e : Nat} (hi : i ≤ s.length) (h : endS s i = .error e) : e ≤ s.length := by
  unfold endS at h
  split at h
  · cases h; exact hi
  · rename_i c1 h1
    have hi := (List.getElem?_eq_some_iff.1 h1).1
    split at h
    · cases h; omega
    · split at h
      · split at h
        · cases h; omega
        · cases h
      · cases h

theorem itemS_ok {s : List UInt8} {i : Nat} {x : Span} {j : Nat} (h : itemS s i = .ok (x, j)) : i < j ∧ j ≤ s.length := by
  unfold itemS at h
  split at h
  · cases h
  · rename_i lo k h1
    have := endS_ok h1
    split at h
    · split at h
      · cases h
      · rename_i hi k2 h2
        have := endS_ok h2
        split at h
        · cases h
        · cases h; omega
    · cases h; omega

theorem setS_ok {s : List UInt8} : ∀ {n i : Nat} {out l : List Span} {j : Nat}, setS n s i out = .ok (l, j) → i < j ∧ j ≤ s.length
  | 0, _, _, _, _, h => by cases h
  | n + 1, i, out, l, j, h => by
    simp only [setS] at h
    split at h
    · rename_i hc
      have := (List.getElem?_eq_some_iff.1 hc.2).1
      cases h; omega
    · split at h
      · cases h
      · rename_i x k h1
        have g1 := itemS_ok h1
        have g2 := setS_ok h
        omega

theorem pieceS_ok {s : List UInt8} {i : Nat} {x : Glob} {j : Nat} (h : pieceS s i = .ok (x, j)) : i < j ∧ j ≤ s.length := by
  unfold pieceS at h
  split at h
  · cases h
  · rename_i c h0
    have hi := (List.getElem?_eq_some_iff.1 h0).1
    split at h
    · cases h; omega
    · split at h
      · cases h; omega
      · split at h
        · split at h
          · cases h
          · rename_i l k h1
            have := setS_ok h1
            cases h; omega
        · split at h
          · split at h
            · cases h
            · rename_i d h1
              have := (List.getElem?_eq_some_iff.1 h1).1
              cases h; omega
          · cases h; omega
end Go.Y

/- Sides as values, and small laws. -/
namespace Go.Y
set_option maxRecDepth 100000

structure Side where
  on : Bool
  shut : Bool
  eof : Bool
  place : Int
  clock : Int
  typed : List UInt8
  lines : List (List UInt8)
  fly : List UInt8
  ages : List Int
  ready : List UInt8
  buffer : List UInt8

abbrev encI (n : Int) : List V := [.i .i64 n]
abbrev encT (s : List UInt8) : List V := [.s s]
theorem encI_len (n : Int) : (encI n).length = 1 := rfl
theorem encT_len (s : List UInt8) : (encT s).length = 1 := rfl
abbrev sideL (s : Side) (lines ages : V) : List V := [.b s.on, .b s.shut, .b s.eof, .i .i64 s.place, .i .i64 s.clock, .s s.typed, lines, .s s.fly, ages, .s s.ready, .s s.buffer]
abbrev sideC (s : Side) : List V := sideL s (lst encT s.lines) (lst encI s.ages)
abbrev side0 : List V := [.b false, .b false, .b false, .i .i64 0, .i .i64 0, .s [], .sl none 0 (some 0) 0, .s [], .sl none 0 (some 0) 0, .s [], .s []]

theorem row_one {α : Type} (f : α → V) (l : List α) : row (fun a => [f a]) l = l.map f := by
  induction l with
  | nil => rfl
  | cons a l ih => simp only [row, List.map_cons, List.flatten_cons] at ih ⊢; rw [ih]; rfl
theorem rowI (l : List Int) : row encI l = l.map (.i .i64) := row_one _ l
theorem rowI_len (l : List Int) : (row encI l).length = l.length := by rw [rowI]; simp
theorem rowI_all (l : List Int) : allCells (row encI l) = true := by
  rw [rowI]
  induction l with
  | nil => rfl
  | cons a l ih => simp only [List.map_cons, allCells, ih, Bool.and_true]; rfl
theorem rowI_frz (l : List Int) (h : Heap) : FrzL h (row encI l) (row encI l) := by
  rw [rowI]
  induction l with
  | nil => exact .nil
  | cons a l ih => exact .cons _ _ _ _ (.i _ _) ih


theorem range_snoc {p : Nat → Bool} {i : Nat} (h : (List.range i).all p = true) (hp : p i = true) : (List.range (i + 1)).all p = true := by
  rw [List.range_succ, List.all_append, h]; simp [hp]

theorem bnd_nat {i n : Nat} (h : i < n) : (0 : Int) ≤ (i : Nat) ∧ ((i : Nat) : Int) < (n : Nat) := ⟨by omega, by omega⟩
end Go.Y

/- Names of faults: any kind. -/
namespace Go.Y
open Go.Proofs
set_option maxRecDepth 100000
set_option maxHeartbeats 1000000

theorem getI0 (l : List Int) {i : Nat} (h : i < l.length) : takeX 1 (List.drop (((i : Nat) : Int).toNat * 1) (row encI l)) = some [.i .i64 l[i]] := by
  rw [Int.toNat_natCast]; exact row_get (f := encI) (k := 1) encI_len h

/-- slices.Index of what isn't there. -/
theorem index33 (l : List Int) (x : Int) (hl : l.length < 2 ^ 30) (hx : x ∉ l) : PCon Tryz.Y 33 [lst encI l, .i .i64 x] (· = .i .i64 (-1)) := by
  refine pcon_of Tryz.Yok (fn := Tryz.f33) (by kernel_rfl) (by kernel_rfl) rfl ?_
  refine pre_rule Tryz.Yok (n := 19) (loc := Tryz.Y.loc 33) 100 [0, 1, 7, 8] (by kernel_rfl) ?_
  refine Eq.mpr (f33_0 (row encI l) l.length x .empty _) ?_
  refine ⟨rfl, loop2 [0, 1, 7, 8] [0, 1, 4, 7, 8] rfl (by kernel_rfl) (fun m vs _ => ∃ i : Nat, vs = [lst encI l, .i .i64 x, .i .i64 l.length, .i .i64 (i : Nat)] ∧ i ≤ l.length ∧ m = l.length - i) l.length mk_len ⟨0, rfl, by omega, by omega⟩ ?_⟩
  rintro m vs h ⟨i, rfl, hi, rfl⟩
  refine all_rule Tryz.Yok (loc := Tryz.Y.loc 33) 100 [0, 1, 4, 7, 8] ?_
  refine Eq.mpr (f33_1 (row encI l) l.length x (i : Nat) h _) ?_
  refine if_lt_nat (fun hlt => ?_) (fun hge => ?_)
  · refine ⟨bnd_nat hlt, _, getI0 l hlt, if_mk (fun hc => ?_) (fun _ => ⟨rfl, l.length - (i + 1), by omega, i + 1, ?_, by omega, rfl⟩)⟩
    · have : x = l[i] := by simpa using hc
      exact absurd (this ▸ List.getElem_mem hlt) hx
    · rw [wrap_succ (by omega)]; rfl
  · refine roundW_exit [] (by kernel_rfl) rfl rfl ?_
    refine end_rule Tryz.Yok (loc := Tryz.Y.loc 33) 100 [4] ?_
    refine Eq.mpr (f33_2 h _) ?_
    exact finV1 (.inr rfl) rfl (.i _ _) rfl

theorem contains11 (l : List Int) (x : Int) (hl : l.length < 2 ^ 30) (hx : x ∉ l) : PCon Tryz.Y 11 [lst encI l, .i .i64 x] (· = .b false) := by
  refine pcon_of Tryz.Yok (fn := Tryz.f11) (by kernel_rfl) (by kernel_rfl) rfl (end_rule Tryz.Yok (loc := Tryz.Y.loc 11) 100 [4] ?_)
  refine Eq.mpr (f11_0 (row encI l) l.length x .empty _) ?_
  exact ⟨-1, index33 l x hl hx, finV1 (.inr rfl) rfl (.b _) rfl⟩

abbrev noneT : List UInt8 := [110, 111, 110, 101]

theorem name5 (x : Int) (hx : x ∉ [1, 2, 3, 4]) : PCon Tryz.Y 5 [.i .i64 x] (· = .s noneT) := by
  refine pcon_of Tryz.Yok (fn := Tryz.f5) (by kernel_rfl) (by kernel_rfl) rfl (end_rule Tryz.Yok (loc := Tryz.Y.loc 5) 100 [2] ?_)
  refine Eq.mpr (f5_0 x .empty _) ?_
  refine ⟨false, PCon.wk (args' := [lst encI [1, 2, 3, 4], .i .i64 x]) (.one _ _ _ _ (.inr (.inr ⟨_, _, _, rfl, rfl⟩)) (.one _ _ _ _ (.inl rfl) .nil)) (contains11 [1, 2, 3, 4] x (by decide) hx), ?_⟩
  exact ⟨⟨by decide, by decide⟩, noneT, rfl, finV1 (.inr rfl) rfl (.s _) rfl⟩

theorem law3 (x : Int) : PCon Tryz.Y 3 [.i .i64 x] (· = .b true) := by
  by_cases hx : x ∈ [1, 2, 3, 4]
  · have key : ∀ r, callN Tryz.Y (knT [(4, [], .b true)] Tryz.kn) 50 3 [.i .i64 x] = some r → r = .b true → PCon Tryz.Y 3 [.i .i64 x] (· = .b true) := fun r h e => by
      subst e
      exact callN_ok Tryz.Yok (knT_ok (.cons _ _ _ _ awake22 .nil) Tryz.knok) h rfl
    simp only [List.mem_cons, List.not_mem_nil, or_false] at hx
    rcases hx with rfl | rfl | rfl | rfl
    · exact key (.b true) (by kernel_rfl) rfl
    · exact key (.b true) (by kernel_rfl) rfl
    · exact key (.b true) (by kernel_rfl) rfl
    · exact key (.b true) (by kernel_rfl) rfl
  · refine pcon_of Tryz.Yok (fn := Tryz.f3) (by kernel_rfl) (by kernel_rfl) rfl (end_rule Tryz.Yok (loc := Tryz.Y.loc 3) 100 [2] ?_)
    refine Eq.mpr (f3_0 x .empty _) ?_
    refine ⟨true, awake22, if_le (fun h1 => if_le (fun h2 => ?_) (fun _ => ?_)) (fun _ => ?_)⟩
    · exact absurd (by simp; omega) hx
    · exact ⟨noneT, name5 x hx, finV1 (.inr rfl) rfl (.b _) rfl⟩
    · exact ⟨noneT, name5 x hx, finV1 (.inr rfl) rfl (.b _) rfl⟩
end Go.Y

/- Shapes of what comes in to the law. -/
namespace Go.Proofs.YtheobdgchjdlhaaGreat
open Go.Y Go.RowKit
open Go.Proofs
set_option maxRecDepth 100000

theorem own : ownKnob Tryz.prog.godebug = none := by kernel_rfl
theorem laidOut : laidOutB Tryz.prog = true := by kernel_rfl
theorem shp3 {n : Nat} {vs : List V} (h : Shp Tryz.Y n 3 vs) : ∃ x : Int, vs = encI x := by
  obtain ⟨x, rfl, _⟩ := shp_int (show Tryz.Y.kd 3 = some (.int .i64) by kernel_rfl) h
  exact ⟨x, rfl⟩
theorem served3 : ∀ n, servedB Tryz.Y n 3 = true
  | 0 => by kernel_rfl
  | n + 1 => by kernel_rfl
end Go.Proofs.YtheobdgchjdlhaaGreat
