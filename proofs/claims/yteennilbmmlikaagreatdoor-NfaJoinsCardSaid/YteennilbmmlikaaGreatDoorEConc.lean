/- Trees of slices.Concat: printed by program. -/
import Derived.Test.YteennilbmmlikaaGreatDoorYTryzP
import Derived.Test.YteennilbmmlikaaGreatDoorYLoop
import Derived.Test.YteennilbmmlikaaGreatDoorGRule
import Derived.Test.YteennilbmmlikaaGreatDoorYRow
namespace Go.Y
open Go.Proofs
set_option maxRecDepth 100000
set_option maxHeartbeats 1000000
theorem f118_0 (cs0 : List V) (n0 : Nat) (h : Heap) (K : KT) : (codeP Tryz.Y (Tryz.Y.loc 118) 100 (pre (flat (bodyOf Tryz.f118))) ⟨(V.ts cs0 n0 none :: List.replicate 35 .undef), [], h⟩ (VQ [0, 3, 9, 10, 11] K)) =
  (K Out.normal 36
  [V.ts cs0 n0 none, V.i IntKind.i64 (0 : Int), V.ts cs0 n0 none, V.i IntKind.i64 (↑n0 : Int),
 V.i IntKind.i64 (0 : Int)]
  h) := by kernel_rfl
theorem f118_1 (cs0 : List V) (n0 : Nat) (x3 : Int) (x11 : Int) (h : Heap) (K : KT) : (codeP Tryz.Y (Tryz.Y.loc 118) 100 ((flat (loopB (post (flat (bodyOf Tryz.f118)))))) ⟨mk 36 (([0, 3, 9, 10, 11] : List Nat).zip [V.ts cs0 n0 none, V.i IntKind.i64 x3, V.ts cs0 n0 none, V.i IntKind.i64 (↑n0 : Int), V.i IntKind.i64 x11]), [], h⟩ (VQ [0, 3, 9, 10, 11] K)) =
  (If (ltI x11 (↑n0 : Int))
  (((0 : Int) ≤ x11 ∧ x11 < (↑n0 : Int)) ∧
 ∃ (cs : List V),
 ∃ (l : Nat),
 ∃ (c : Option Nat),
 takeX 1 (List.drop (x11.toNat * (1 : Nat)) cs0) = some [V.ts cs l c] ∧
 If (ltI (IntKind.i64.wrap (x3 + (↑l : Int))) (0 : Int)) False
 (K Out.normal 36
 [V.ts cs0 n0 none, V.i IntKind.i64 (IntKind.i64.wrap (x3 + (↑l : Int))), V.ts cs0 n0 none,
 V.i IntKind.i64 (↑n0 : Int), V.i IntKind.i64 (IntKind.i64.wrap (x11 + (1 : Int)))]
 h))
  (K (Out.exit 0) 36
 [V.ts cs0 n0 none, V.i IntKind.i64 x3, V.ts cs0 n0 none, V.i IntKind.i64 (↑n0 : Int), V.i IntKind.i64 x11] h)) := by kernel_rfl
theorem f118_2 (cs0 : List V) (n0 : Nat) (x3 : Int) (h : Heap) (K : KT) : (codeP Tryz.Y (Tryz.Y.loc 118) 100 (pre ((post (flat (bodyOf Tryz.f118))).drop 1)) ⟨mk 36 (([0, 3] : List Nat).zip [V.ts cs0 n0 none, V.i IntKind.i64 x3]), [], h⟩ (VQ [6, 25, 26, 27] K)) =
  (Con Tryz.Y (149 : Nat) [V.sl none 0 (some 0) 0, V.i IntKind.i64 x3] h
  fun (v : V) (h' : Heap) =>
  ∃ (a : Option (Nat × Nat)),
 ∃ (l : Nat),
 ∃ (c : Option Nat),
 ∃ (k : Nat),
 v = V.sl a l c k ∧
 K Out.normal 36
 [V.sl a l c k, V.ts cs0 n0 none, V.i IntKind.i64 (↑n0 : Int), V.i IntKind.i64 (0 : Int)] h') := by kernel_rfl
theorem f118_3 (cs0 : List V) (n0 : Nat) (a6 : Option (Nat × Nat)) (l6 : Nat) (c6 : Option Nat) (k6 : Nat) (x27 : Int) (h : Heap) (K : KT) : (codeP Tryz.Y (Tryz.Y.loc 118) 100 ((flat (loopB (post ((post (flat (bodyOf Tryz.f118))).drop 1))))) ⟨mk 36 (([6, 25, 26, 27] : List Nat).zip [V.sl a6 l6 c6 k6, V.ts cs0 n0 none, V.i IntKind.i64 (↑n0 : Int), V.i IntKind.i64 x27]), [], h⟩ (VQ [6, 25, 26, 27] K)) =
  (If (ltI x27 (↑n0 : Int))
  (((0 : Int) ≤ x27 ∧ x27 < (↑n0 : Int)) ∧
 ∃ (cs : List V),
 ∃ (l : Nat),
 ∃ (c : Option Nat),
 takeX 1 (List.drop (x27.toNat * (1 : Nat)) cs0) = some [V.ts cs l c] ∧
 ∃ (a : Option (Nat × Nat)),
 ∃ (l_1 : Nat),
 ∃ (c_1 : Option Nat),
 ∃ (k : Nat),
 ∃ (h_1 : Heap),
 appendH Tryz.Y h 32 32 (V.sl a6 l6 c6 k6) (V.ts cs l c) =
 some (V.sl a l_1 c_1 k, h_1) ∧
 K Out.normal 36
 [V.sl a l_1 c_1 k, V.ts cs0 n0 none, V.i IntKind.i64 (↑n0 : Int),
 V.i IntKind.i64 (IntKind.i64.wrap (x27 + (1 : Int)))]
 h_1)
  (K (Out.exit 2) 36
 [V.sl a6 l6 c6 k6, V.ts cs0 n0 none, V.i IntKind.i64 (↑n0 : Int), V.i IntKind.i64 x27] h)) := by kernel_rfl
theorem f118_4 (a6 : Option (Nat × Nat)) (l6 : Nat) (c6 : Option Nat) (k6 : Nat) (h : Heap) (K : KT) : (codeP Tryz.Y (Tryz.Y.loc 118) 100 (((post ((post (flat (bodyOf Tryz.f118))).drop 1)).drop 1)) ⟨mk 36 (([6] : List Nat).zip [V.sl a6 l6 c6 k6]), [], h⟩ (VQ [2] K)) =
  (K Out.ret 36 [V.sl a6 l6 c6 k6] h) := by kernel_rfl
theorem f149_0 (x1 : Int) (h : Heap) (K : KT) : (codeP Tryz.Y (Tryz.Y.loc 149) 100 ((flat (bodyOf Tryz.f149))) ⟨(V.sl none 0 (some 0) 0 :: V.i IntKind.i64 x1 :: List.replicate 25 .undef), [], h⟩ (VQ [4] K)) =
  (If (ltI x1 (0 : Int)) False
  (If (ltI (0 : Int) (IntKind.i64.wrap (x1 - IntKind.i64.wrap ((↑(0 : Nat) : Int) - (↑(0 : Nat) : Int)))))
 (∃ (a' : Option (Nat × Nat)),
 ∃ (n' : Nat),
 ∃ (c' : Option Nat),
 ∃ (k' : Nat),
 sliceY Tryz.Y 31 (V.sl none 0 (some 0) 0) none
 (some (V.i IntKind.i64 (↑(0 : Nat) : Int))) none =
 some (V.sl a' n' c' k') ∧
 ∃ (id : Nat),
 ∃ (o : Nat),
 ∃ (l : Nat),
 ∃ (c : Option Nat),
 ∃ (k : Nat),
 ∃ (h_1 : Heap),
 appendH Tryz.Y h 32 3 (V.sl a' n' c' k')
 (V.i IntKind.i64
 (IntKind.i64.wrap
 (x1 - IntKind.i64.wrap ((↑(0 : Nat) : Int) - (↑(0 : Nat) : Int))))) =
 some (V.sl (some (id, o)) l c k, h_1) ∧
 k = 1 ∧
 ((0 : Int) ≤ (↑(0 : Nat) : Int) ∧ (↑(0 : Nat) : Int) ≤ (↑(c.getD l) : Int)) ∧
 K Out.ret 27
 [V.sl (some (id, o + (0 : Nat) * k)) 0
 (Option.map (fun (x : Nat) => x - (0 : Nat)) c) k]
 h_1)
 (K Out.ret 27 [V.sl none 0 (some 0) 0] h))) := by kernel_rfl
end Go.Y

/- slices.Grow and slices.Concat at numbers, over memory. -/
namespace Go.Y
open Go.Proofs
set_option maxRecDepth 100000
set_option maxHeartbeats 1000000
theorem kd31s : Tryz.Y.kd 32 = some (.slice 3) := by kernel_rfl
theorem ty3 : Tryz.Y.ty 3 = some ⟨1, 8, .int .i64, [.i .i64 0]⟩ := by kernel_rfl
theorem rowI_drop (l : List Int) (i : Nat) : (row encI l).drop i = row encI (l.drop i) := by rw [rowI, rowI, List.map_drop]
theorem splice_at {α : Type} : ∀ (A B C : List α), splice (A ++ B) A.length C = A ++ C ++ B.drop C.length
  | [], B, C => by
    simp only [List.nil_append, List.length_nil]
    cases B <;> simp [splice]
  | a :: A, B, C => by
    simp only [List.cons_append, List.length_cons, splice]
    rw [splice_at A B C, List.append_assoc]
abbrev zerosI (n : Nat) : List Int := List.replicate n 0
theorem zeros_row (n : Nat) : (List.replicate n ([.i .i64 0] : List V)).flatten = row encI (zerosI n) := by
  induction n with
  | zero => rfl
  | succ n ih => rw [List.replicate_succ, List.flatten_cons, ih]; rfl
theorem src_num {h : Heap} (n : Nat) (hn : n < 2 ^ 29) : source Tryz.Y ⟨[], [], h⟩ ⟨1, 8, .int .i64, [.i .i64 0]⟩ 3 (.i .i64 (n : Int)) = some (n, row encI (zerosI n)) := by
  have hk : Tryz.Y.kd 3 = some (.int .i64) := by kernel_rfl
  have hm : most = 1099511627776 := by decide
  simp only [source, hk]
  rw [if_pos ⟨by omega, by rw [hm]; omega, by rw [hm, Int.toNat_natCast]; omega⟩, Int.toNat_natCast, zeros_row]

theorem grow_con (x : Nat) (hx : x < 2 ^ 29) (h : Heap) : Con Tryz.Y 149 [.sl none 0 (some 0) 0, .i .i64 (x : Int)] h fun v h' => (x = 0 ∧ v = .sl none 0 (some 0) 0) ∨ ∃ id, 0 < x ∧ v = .sl (some (id, 0)) 0 none 1 ∧ id < h'.nx ∧ h'.get id = some (.arr (row encI (zerosI x)) true) := by
  refine conz_of Tryz.Yok (fn := Tryz.f149) (by kernel_rfl) (by kernel_rfl) ?_
  refine end_tree Tryz.Yok (fun K => f149_0 (x : Nat) h K) rfl ?_
  refine if_lt (fun h0 => absurd h0 (by omega)) (fun _ => ?_)
  have e0 : IntKind.i64.wrap (((x : Nat) : Int) - IntKind.i64.wrap (((0 : Nat) : Int) - ((0 : Nat) : Int))) = (x : Int) := by
    rw [show IntKind.i64.wrap (((0 : Nat) : Int) - ((0 : Nat) : Int)) = 0 from by decide, Int.sub_zero]
    exact wrap_ok (by omega) (by omega)
  rw [e0]
  refine if_lt (fun h0 => ?_) (fun h0 => ?_)
  · have hm : most = 1099511627776 := by decide
    refine ⟨none, 0, some 0, 0, by kernel_rfl, h.nx, 0, x, none, 1, h.pushT (Tryz.Y.tag 3) (.arr (row encI (zerosI x)) true), ?_, rfl, ⟨by omega, by simp⟩, finC (.inr rfl) rfl (.now (.inr ⟨h.nx, by omega, rfl, by simp, by simp⟩))⟩
    simp only [appendH, appendY, kd31s, ty3, src_num x hx]
    rw [if_neg (by simp [rowI_all]), if_neg (by omega), if_pos ⟨by rw [hm]; omega, by rw [hm]; omega⟩]
  · exact finC (.inr rfl) rfl (.now (.inl ⟨by omega, rfl⟩))

abbrev encLs (l : List Int) : List V := [lst encI l]
theorem encLs_len (l : List Int) : (encLs l).length = 1 := rfl

def GrI (h : Heap) (a : Option (Nat × Nat)) (n : Nat) (c : Option Nat) (k : Nat) (pre : List Int) (total : Nat) : Prop :=
  (total = 0 ∧ a = none ∧ n = 0) ∨ ∃ id, 0 < total ∧ a = some (id, 0) ∧ n = pre.length ∧ c = none ∧ k = 1 ∧ id < h.nx ∧ h.get id = some (.arr (row encI (pre ++ zerosI (total - pre.length))) true)
theorem GrI.app {h : Heap} {a : Option (Nat × Nat)} {n : Nat} {c : Option Nat} {k : Nat} {pre : List Int} {total : Nat} (hG : GrI h a n c k pre total) (xs : List Int) (hx : pre.length + xs.length ≤ total) (ht : total < 2 ^ 29) :
    ∃ a' n' c' k' h', appendH Tryz.Y h 32 32 (.sl a n c k) (lst encI xs) = some (.sl a' n' c' k', h') ∧ GrI h' a' n' c' k' (pre ++ xs) total := by
  have hm : most = 1099511627776 := by decide
  have hs : source Tryz.Y ⟨[], [], h⟩ ⟨1, 8, .int .i64, [.i .i64 0]⟩ 32 (lst encI xs) = some (xs.length, row encI xs) := by
    simp only [lst, source, kd31s, elems, elemsS, Nat.mul_one, takeX_len (rowI_len xs).symm, Option.map_some]
  rcases hG with ⟨rfl, rfl, rfl⟩ | ⟨id, htp, rfl, rfl, rfl, rfl, hid, hg⟩
  · have hx0 : xs = [] := List.eq_nil_of_length_eq_zero (by omega)
    subst hx0
    refine ⟨none, 0, some 0, 1, h, ?_, .inl ⟨rfl, rfl, rfl⟩⟩
    simp only [appendH, appendY, kd31s, ty3, hs]
    rfl
  · by_cases hx0 : xs = []
    · subst hx0
      refine ⟨some (id, 0), pre.length, none, 1, h, ?_, .inr ⟨id, htp, rfl, by simp, rfl, rfl, hid, by simpa using hg⟩⟩
      simp only [appendH, appendY, kd31s, ty3, hs]
      rfl
    · have hpos : 0 < xs.length := List.length_pos_iff.2 hx0
      have h1 : ¬ ((pre.length + xs.length) * 8 > most ∨ pre.length + xs.length > most) := by rw [hm]; omega
      have h2 : 0 + (pre.length + xs.length) * 1 ≤ (row encI (pre ++ zerosI (total - pre.length))).length := by rw [rowI_len]; simp; omega
      have h3 : splice (row encI (pre ++ zerosI (total - pre.length))) (0 + pre.length * 1) (row encI xs) = row encI ((pre ++ xs) ++ zerosI (total - (pre ++ xs).length)) := by
        have e1 : 0 + pre.length * 1 = (row encI pre).length := by rw [rowI_len]; omega
        rw [row_append, e1, splice_at, rowI_len, rowI_drop, ← row_append, ← row_append]
        congr 2
        simp; omega
      refine ⟨some (id, 0), pre.length + xs.length, none, 1, h.set id (some (.arr (row encI ((pre ++ xs) ++ zerosI (total - (pre ++ xs).length))) true)), ?_, .inr ⟨id, htp, rfl, by simp, rfl, rfl, by simpa using hid, by rw [Heap.get_set, if_pos rfl]⟩⟩
      simp only [appendH, appendY, kd31s, ty3, hs, hg]
      rw [if_neg (by simp [rowI_all]), if_neg (by decide), if_neg (by omega), if_neg h1, if_pos h2, if_pos trivial, h3]

theorem concatH_con (ls : List (List Int)) (hl : ls.length < 2 ^ 20) (ht : ls.flatten.length < 2 ^ 29) (h : Heap) : Con Tryz.Y 118 [lst encLs ls] h fun v h' => ∃ a n c k, v = .sl a n c k ∧ GrI h' a n c k ls.flatten ls.flatten.length := by
  refine conz_of Tryz.Yok (fn := Tryz.f118) (by kernel_rfl) (by kernel_rfl) ?_
  refine pre_tree Tryz.Yok 36 (fun K => f118_0 (row encLs ls) ls.length h K) rfl (by kernel_rfl) ?_
  have part : ∀ i, (ls.take i).flatten.length ≤ ls.flatten.length := fun i => by
    conv => rhs; rw [← List.take_append_drop i ls]
    rw [List.flatten_append, List.length_append]; omega
  have step : ∀ {i : Nat} (hlt : i < ls.length), (ls.take (i + 1)).flatten = (ls.take i).flatten ++ ls[i] := fun hlt => by
    rw [List.take_succ_eq_append_getElem hlt, List.flatten_append]; simp
  refine ⟨rfl, loop2 [0, 3, 9, 10, 11] [0, 3, 9, 10, 11] rfl (by kernel_rfl) (fun m vs _ => ∃ i : Nat, vs = [lst encLs ls, .i .i64 ((ls.take i).flatten.length : Nat), lst encLs ls, .i .i64 ls.length, .i .i64 (i : Nat)] ∧ i ≤ ls.length ∧ m = ls.length - i) ls.length mk_len ⟨0, rfl, by omega, by omega⟩ ?_⟩
  rintro m vs h ⟨i, rfl, hi, rfl⟩
  refine all_tree Tryz.Yok (fun K => f118_1 (row encLs ls) ls.length ((ls.take i).flatten.length : Nat) (i : Nat) h K) rfl ?_
  refine if_lt_nat (fun hlt => ?_) (fun hge => ?_)
  · have e : IntKind.i64.wrap (((ls.take i).flatten.length : Int) + (ls[i].length : Nat)) = ((ls.take (i + 1)).flatten.length : Nat) := by
      have h1 := part (i + 1)
      rw [step hlt, List.length_append] at h1 ⊢
      rw [wrap_ok (by omega) (by omega)]; omega
    refine ⟨bnd_nat hlt, row encI ls[i], ls[i].length, none, by rw [Int.toNat_natCast]; exact row_get (f := encLs) (k := 1) encLs_len hlt, ?_⟩
    rw [e]
    refine if_lt (fun h0 => absurd h0 (by omega)) (fun _ => ?_)
    exact ⟨rfl, ls.length - (i + 1), by omega, i + 1, by rw [wrap_succ (by omega)]; rfl, by omega, rfl⟩
  · rw [List.take_of_length_le hge]
    refine roundW_exit [0, 3] (by kernel_rfl) rfl rfl ?_
    refine pre_tree Tryz.Yok 36 (fun K => f118_2 (row encLs ls) ls.length (ls.flatten.length : Nat) h K) rfl (by kernel_rfl) ?_
    refine (grow_con ls.flatten.length ht h).mono fun v h' hv => ?_
    have hv : ∃ a n c k, v = .sl a n c k ∧ GrI h' a n c k [] ls.flatten.length := by
      rcases hv with ⟨h1, h2⟩ | ⟨id, h0, h1, h2, h3⟩
      · exact ⟨none, 0, some 0, 0, h2, .inl ⟨h1, rfl, rfl⟩⟩
      · exact ⟨some (id, 0), 0, none, 1, h1, .inr ⟨id, h0, rfl, rfl, rfl, rfl, h2, h3⟩⟩
    obtain ⟨a, n, c, k, hv, hG⟩ := hv
    refine ⟨a, n, c, k, hv, rfl, loop2 [6, 25, 26, 27] [6, 25, 26, 27] rfl (by kernel_rfl) (fun m vs h => ∃ (j : Nat) (a : Option (Nat × Nat)) (n : Nat) (c : Option Nat) (k : Nat), vs = [.sl a n c k, lst encLs ls, .i .i64 ls.length, .i .i64 (j : Nat)] ∧ j ≤ ls.length ∧ m = ls.length - j ∧ GrI h a n c k (ls.take j).flatten ls.flatten.length) ls.length mk_len ⟨0, a, n, c, k, rfl, by omega, by omega, hG⟩ ?_⟩
    clear hG
    rintro m vs h2 ⟨j, a, n, c, k, rfl, hj, rfl, hG⟩
    refine all_tree Tryz.Yok (fun K => f118_3 (row encLs ls) ls.length a n c k (j : Nat) h2 K) rfl ?_
    refine if_lt_nat (fun hlt => ?_) (fun hge2 => ?_)
    · have h1 := part (j + 1)
      rw [step hlt, List.length_append] at h1
      obtain ⟨a', n', c', k', h3, q1, q2⟩ := hG.app ls[j] h1 ht
      exact ⟨bnd_nat hlt, row encI ls[j], ls[j].length, none, by rw [Int.toNat_natCast]; exact row_get (f := encLs) (k := 1) encLs_len hlt, a', n', c', k', h3, q1, rfl, ls.length - (j + 1), by omega, j + 1, a', n', c', k', by rw [wrap_succ (by omega)]; rfl, by omega, rfl, by rw [step hlt]; exact q2⟩
    · refine roundW_exit [6] (by kernel_rfl) rfl rfl ?_
      refine end_tree Tryz.Yok (fun K => f118_4 a n c k h2 K) rfl ?_
      rw [List.take_of_length_le hge2] at hG
      exact finC (.inr rfl) rfl (.now ⟨a, n, c, k, rfl, hG⟩)
end Go.Y

/- Lists that are built, cell by cell as they are. -/
namespace Go.Y

structure LX {α : Type} (f : α → List V) (k : Nat) (h : Heap) (a : Option (Nat × Nat)) (l : Nat) (c : Option Nat) (kk : Nat) (out : List α) : Prop where
  nil : out = [] → a = none
  cells : out ≠ [] → ∃ j, a = some (j, 0) ∧ kk = k ∧ j < h.nx ∧ h.get j = some (.arr (row f out) true) ∧ (c = none ∨ c = some l)
  len : l = out.length

section
variable {α : Type} {f : α → List V} {k : Nat} {h h' : Heap} {a : Option (Nat × Nat)} {l : Nat} {c : Option Nat} {kk : Nat} {out : List α}

theorem LX.start (f : α → List V) (k : Nat) (h : Heap) (c : Option Nat) (kk : Nat) : LX f k h none 0 c kk ([] : List α) := ⟨fun _ => rfl, fun h => absurd rfl h, rfl⟩
theorem LX.one (f : α → List V) (k : Nat) (h : Heap) (x : α) : LX f k (h.push (.arr (f x) true)) (some (h.nx, 0)) 1 (some 1) k [x] := ⟨fun e => (by cases e), fun _ => ⟨h.nx, rfl, rfl, by simp, by simp [row, Heap.get_push], .inr rfl⟩, rfl⟩
theorem LX.fr (hl : LX f k h a l c kk out) (hn : h.nx ≤ h'.nx) (hs : ∀ j, a = some (j, 0) → j < h.nx → h'.get j = h.get j) : LX f k h' a l c kk out :=
  ⟨hl.nil, fun hne => by obtain ⟨j, h1, h2, h3, h4, h5⟩ := hl.cells hne; exact ⟨j, h1, h2, by omega, by rw [hs j h1 h3, h4], h5⟩, hl.len⟩

theorem LX.app {Y : YP} {st e : TypeId} {te : TI} {new : List V} (x : α) (hnew : f x = new) (hfl : ∀ x, (f x).length = k) (hk : Y.kd st = some (.slice e)) (hte : Y.ty e = some te) (hs : te.size = k) (hk0 : k ≠ 0) (hc : allCells new = true)
    (hby : te.bytes ≤ 1024) (hl : LX f k h a l c kk out) (hb : out.length < 2 ^ 29) :
    ∃ a' l' c' k' h', appendH Y h st st (.sl a l c kk) (.ts new 1 (some 1)) = some (.sl a' l' c' k', h') ∧ LX f k h' a' l' c' k' (out ++ [x]) ∧ Fr h a h' ∧ ∃ j, a' = some (j, 0) ∧ h.nx ≤ j := by
  have hm : most = 1099511627776 := by decide
  have h1 : (out.length + 1) * te.bytes ≤ 2 ^ 29 * 1024 := Nat.mul_le_mul (by omega) hby
  have hnl : new.length = 1 * k := by rw [← hnew, hfl, Nat.one_mul]
  have hrow : row f (out ++ [x]) = row f out ++ new := by rw [row_append, ← hnew]; simp [row]
  have fin : ∀ {a l c kk}, IsL h k a l c kk (row f out) → l = out.length → ∃ a' l' c' k' h', appendH Y h st st (.sl a l c kk) (.ts new 1 (some 1)) = some (.sl a' l' c' k', h') ∧ LX f k h' a' l' c' k' (out ++ [x]) ∧ Fr h a h' ∧ ∃ j, a' = some (j, 0) ∧ h.nx ≤ j := by
    intro a l c kk hI hlen
    obtain ⟨a', l', c', k', h', q1, q2, q3, q4, j, q5, q6⟩ := append_ts (Y := Y) (new := new) (m := 1) (cap := some 1) hk hte hs hk0 hI (by decide) (takeX_len hnl.symm) hc (by rw [hlen]; omega) (by omega)
    refine ⟨a', l', c', k', h', q1, ⟨fun hn => by simp at hn, fun _ => ?_, by rw [q4, hlen]; simp⟩, q3, j, q5, q6⟩
    obtain ⟨_, (⟨e, _⟩ | ⟨id, e1, e2, e3, e4, e5⟩)⟩ := q2
    · rw [q5] at e; cases e
    · exact ⟨id, e1, e3, e4, by rw [e5, hrow], .inl e2⟩
  by_cases hne : out = []
  · have ha := hl.nil hne
    have hl0 := hl.len
    subst hne ha hl0
    exact fin (IsL.nil h k c kk) rfl
  · obtain ⟨id, rfl, rfl, hid, hg, hcap⟩ := hl.cells hne
    have hlen := hl.len
    have hrl : l * kk = (row f out).length := by rw [row_length hfl, hlen]
    rcases hcap with rfl | rfl
    · exact fin ⟨hrl, .inr ⟨id, rfl, rfl, rfl, hid, hg⟩⟩ hlen
    · refine ⟨some (h.nx, 0), l + 1, none, kk, h.push (.arr (row f out ++ new) true), ?_, ⟨fun hn => by simp at hn, fun _ => ⟨h.nx, rfl, rfl, by simp, by rw [Heap.get_push, if_pos rfl, hrow], .inl rfl⟩, by simp [hlen]⟩, ⟨by simp, fun j hj _ => by rw [Heap.get_push, if_neg (by omega)]⟩, h.nx, rfl, Nat.le_refl _⟩
      have hsrc : source Y ⟨[], [], h⟩ te st (.ts new 1 (some 1)) = some (1, new) := by
        have hn : takeX (1 * kk) new = some new := takeX_len hnl.symm
        simp only [source, hk, elems, elemsS, hs, hn]; rfl
      have hb1 : ¬ ((l + 1) * te.bytes > most ∨ l + 1 > most) := by rw [hlen]; omega
      have hne2 : ¬ (l + 1 ≤ l) := by omega
      have htk : takeX (l * kk) ((row f out).drop 0) = some (row f out) := by rw [List.drop_zero]; exact takeX_len hrl
      have h10 : ¬ ((1 : Nat) = 0) := by decide
      simp only [appendH, appendY, hk, hte, hsrc, if_false, hs, ne_eq, not_true_eq_false, h10, hb1, hne2, cellsAt, hg, htk]
      rw [if_neg (by simp [hc, hk0])]

theorem row_cold (hcold : ∀ x, colds1 (f x) = true) : ∀ l : List α, colds1 (row f l) = true
  | [] => rfl
  | x :: l => by
    have : row f (x :: l) = f x ++ row f l := rfl
    rw [this]; exact colds1_append (hcold x) (row_cold hcold l)

theorem LX.afterZ (hk : k ≠ 0) (hfl : ∀ x, (f x).length = k) (hcold : ∀ x, colds1 (f x) = true) (hl : LX f k h a l c kk out) :
    ∃ D : List Nat, Frz (takeD h D) (.sl a l c kk) (lst f out) ∧ (∀ j, j ∈ D → a = some (j, 0)) := by
  have hlen := hl.len
  by_cases hne : out = []
  · have ha := hl.nil hne
    subst hne ha hlen
    exact ⟨[], .sln _ _ _ (fun x hx => by cases hx), by simp⟩
  · obtain ⟨id, rfl, rfl, hid, hg, _⟩ := hl.cells hne
    subst hlen
    exact ⟨[id], .sl _ _ _ _ _ (row f out) true (row f out) _ _ (by rw [takeD_get, if_pos (by simp), hg]) (by rw [List.drop_zero]; exact takeX_len (row_length hfl out).symm) (fun x hx => by cases hx) hk (colds1_ok _ (row_cold hcold out)), by simp⟩
theorem FrO.kill {id : Nat} {D : List Nat} (f : FrO h id h') (hD : ∀ j, j ∈ D → h.nx ≤ j) : FrO h id (killD h' D) :=
  ⟨by rw [killD_nx]; exact f.1, fun j hj hn => by rw [killD_get, if_neg (fun hm => by have := hD j hm; omega)]; exact f.2 j hj hn⟩
theorem LX.keep {id : Nat} {h0 : Heap} (hl : LX f k h a l c kk out) (hnew : ∀ j, a = some (j, 0) → h0.nx ≤ j) (hid : id < h0.nx) (q : FrO h id h') : LX f k h' a l c kk out :=
  hl.fr q.1 fun j hj hlt => q.2 j hlt (by have := hnew j hj; omega)
theorem LX.ne {id o : Nat} {h0 : Heap} (hl : LX f k h a l c kk out) (hnew : ∀ j, a = some (j, 0) → h0.nx ≤ j) (hid : id < h0.nx) : a ≠ some (id, o) := by
  intro ha
  by_cases hne : out = []
  · rw [hl.nil hne] at ha; cases ha
  · obtain ⟨j, h1, _⟩ := hl.cells hne
    rw [h1] at ha; cases ha
    have := hnew id h1; omega
theorem LX.frO {id : Nat} {h0 : Heap} (hl : LX f k h a l c kk out) (hnew : ∀ j, a = some (j, 0) → h0.nx ≤ j) (g : FrO h0 id h) (q : Fr h a h') : FrO h0 id h' :=
  ⟨Nat.le_trans g.1 q.1, fun j hj hn => by
    rw [q.2 j (Nat.lt_of_lt_of_le hj g.1) (fun o ho => by
      by_cases hne : out = []
      · rw [hl.nil hne] at ho; cases ho
      · obtain ⟨j', h1, _⟩ := hl.cells hne
        rw [h1] at ho; cases ho
        have := hnew j h1; omega)]
    exact g.2 j hj hn⟩
end
end Go.Y

/- Automata of spots: what a part runs over, as parts are put together. Plain. -/
namespace Go.Y.Gl

def From (has : Nat → UInt8 → Bool) (f : Nat → Nat → Prop) (l : Nat → Prop) : Nat → List UInt8 → Prop
  | _, [] => False
  | x, c :: w => has x c = true ∧ ((w = [] ∧ l x) ∨ ∃ y, f x y ∧ From has f l y w)

def Acc (has : Nat → UInt8 → Bool) (f : Nat → Nat → Prop) (first last : Nat → Prop) (e : Prop) (w : List UInt8) : Prop :=
  (w = [] ∧ e) ∨ ∃ x, first x ∧ From has f last x w

theorem From.ne {has : Nat → UInt8 → Bool} {f : Nat → Nat → Prop} {l : Nat → Prop} {x : Nat} {w : List UInt8} (h : From has f l x w) : w ≠ [] := by
  cases w with
  | nil => exact h.elim
  | cons _ _ => simp

theorem From.congr {has has' : Nat → UInt8 → Bool} {f f' : Nat → Nat → Prop} {l l' : Nat → Prop} {R : Nat → Prop} (hh : ∀ x, R x → has x = has' x) (hf : ∀ x, R x → ∀ y, f x y ↔ f' x y) (hl : ∀ x, R x → (l x ↔ l' x)) (hc : ∀ x, R x → ∀ y, f x y → R y) :
    ∀ (w : List UInt8) (x : Nat), R x → (From has f l x w ↔ From has' f' l' x w)
  | [], _, _ => Iff.rfl
  | c :: w, x, hx => by
    simp only [From]
    rw [hh x hx, hl x hx]
    constructor
    · rintro ⟨h1, h2 | ⟨y, h2, h3⟩⟩
      · exact ⟨h1, .inl h2⟩
      · exact ⟨h1, .inr ⟨y, (hf x hx y).1 h2, (From.congr hh hf hl hc w y (hc x hx y h2)).1 h3⟩⟩
    · rintro ⟨h1, h2 | ⟨y, h2, h3⟩⟩
      · exact ⟨h1, .inl h2⟩
      · have h4 := (hf x hx y).2 h2
        exact ⟨h1, .inr ⟨y, h4, (From.congr hh hf hl hc w y (hc x hx y h4)).2 h3⟩⟩

section
variable {has : Nat → UInt8 → Bool} {fa fb f : Nat → Nat → Prop} {la lb l fst : Nat → Prop} {RA RB : Nat → Prop} {eb : Prop}

theorem from_cat (ha : ∀ x, RA x → ∀ y, fa x y → RA y) (hB : ∀ y, fst y → RB y) (hbc : ∀ x, RB x → ∀ y, fb x y → RB y)
    (hA : ∀ x, RA x → ∀ y, f x y ↔ fa x y ∨ (la x ∧ fst y)) (hfb : ∀ x, RB x → ∀ y, f x y ↔ fb x y)
    (hla : ∀ x, RA x → (l x ↔ la x ∧ eb)) (hlb : ∀ x, RB x → (l x ↔ lb x)) :
    ∀ (w : List UInt8) (x : Nat), RA x → (From has f l x w ↔ ∃ w1 w2, w = w1 ++ w2 ∧ From has fa la x w1 ∧ Acc has fb fst lb eb w2)
  | [], x, _ => by
    simp only [From, false_iff]
    rintro ⟨w1, w2, h, h1, _⟩
    have := List.append_eq_nil_iff.1 h.symm
    rw [this.1] at h1
    exact h1
  | c :: w, x, hx => by
    have inB : ∀ (w : List UInt8) (y : Nat), RB y → (From has f l y w ↔ From has fb lb y w) := From.congr (R := RB) (fun _ _ => rfl) hfb hlb (fun x hx y h => hbc x hx y ((hfb x hx y).1 h))
    simp only [From]
    constructor
    · rintro ⟨h1, ⟨h2, h3⟩ | ⟨y, h2, h3⟩⟩
      · obtain ⟨h4, h5⟩ := (hla x hx).1 h3
        exact ⟨[c], [], by simp [h2], ⟨h1, .inl ⟨rfl, h4⟩⟩, .inl ⟨rfl, h5⟩⟩
      · rcases (hA x hx y).1 h2 with h4 | ⟨h4, h5⟩
        · obtain ⟨w1, w2, e, g1, g2⟩ := (from_cat ha hB hbc hA hfb hla hlb w y (ha x hx y h4)).1 h3
          exact ⟨c :: w1, w2, by simp [e], ⟨h1, .inr ⟨y, h4, g1⟩⟩, g2⟩
        · exact ⟨[c], w, rfl, ⟨h1, .inl ⟨rfl, h4⟩⟩, .inr ⟨y, h5, (inB w y (hB y h5)).1 h3⟩⟩
    · rintro ⟨w1, w2, e, g1, g2⟩
      cases w1 with
      | nil => exact g1.elim
      | cons c' w1 =>
        simp only [List.cons_append, List.cons.injEq] at e
        obtain ⟨rfl, rfl⟩ := e
        obtain ⟨h1, ⟨h2, h3⟩ | ⟨y, h2, h3⟩⟩ := g1
        · subst h2
          rcases g2 with ⟨h4, h5⟩ | ⟨y, h4, h5⟩
          · exact ⟨h1, .inl ⟨by simp [h4], (hla x hx).2 ⟨h3, h5⟩⟩⟩
          · exact ⟨h1, .inr ⟨y, (hA x hx y).2 (.inr ⟨h3, h4⟩), by simpa using (inB w2 y (hB y h4)).2 h5⟩⟩
        · exact ⟨h1, .inr ⟨y, (hA x hx y).2 (.inl h2), (from_cat ha hB hbc hA hfb hla hlb (w1 ++ w2) y (ha x hx y h2)).2 ⟨w1, w2, rfl, h3, g2⟩⟩⟩
end

def Pow (L : List UInt8 → Prop) : Nat → List UInt8 → Prop
  | 0, w => w = []
  | n + 1, w => ∃ w1 w2, w = w1 ++ w2 ∧ L w1 ∧ Pow L n w2

section
variable {has : Nat → UInt8 → Bool} {fa f : Nat → Nat → Prop} {la fst : Nat → Prop} {RA : Nat → Prop}

theorem from_loop (ha : ∀ x, RA x → ∀ y, fa x y → RA y) (hB : ∀ y, fst y → RA y) (hA : ∀ x, RA x → ∀ y, f x y ↔ fa x y ∨ (la x ∧ fst y)) :
    ∀ (n : Nat) (w : List UInt8) (x : Nat), w.length ≤ n → RA x → (From has f la x w ↔ ∃ w1 w2 m, w = w1 ++ w2 ∧ From has fa la x w1 ∧ Pow (fun v => ∃ y, fst y ∧ From has fa la y v) m w2)
  | 0, w, x, hw, _ => by
    have : w = [] := List.eq_nil_of_length_eq_zero (Nat.le_zero.1 hw)
    subst this
    simp only [From, false_iff]
    rintro ⟨w1, w2, m, h, h1, _⟩
    have := List.append_eq_nil_iff.1 h.symm
    rw [this.1] at h1
    exact h1
  | n + 1, [], x, _, _ => by
    simp only [From, false_iff]
    rintro ⟨w1, w2, m, h, h1, _⟩
    have := List.append_eq_nil_iff.1 h.symm
    rw [this.1] at h1
    exact h1
  | n + 1, c :: w, x, hw, hx => by
    have hw' : w.length ≤ n := by simpa using hw
    simp only [From]
    constructor
    · rintro ⟨h1, ⟨h2, h3⟩ | ⟨y, h2, h3⟩⟩
      · exact ⟨[c], [], 0, by simp [h2], ⟨h1, .inl ⟨rfl, h3⟩⟩, rfl⟩
      · rcases (hA x hx y).1 h2 with h4 | ⟨h4, h5⟩
        · obtain ⟨w1, w2, m, e, g1, g2⟩ := (from_loop ha hB hA n w y hw' (ha x hx y h4)).1 h3
          exact ⟨c :: w1, w2, m, by simp [e], ⟨h1, .inr ⟨y, h4, g1⟩⟩, g2⟩
        · obtain ⟨w1, w2, m, e, g1, g2⟩ := (from_loop ha hB hA n w y hw' (hB y h5)).1 h3
          exact ⟨[c], w, m + 1, rfl, ⟨h1, .inl ⟨rfl, h4⟩⟩, w1, w2, e, ⟨y, h5, g1⟩, g2⟩
    · rintro ⟨w1, w2, m, e, g1, g2⟩
      cases w1 with
      | nil => exact g1.elim
      | cons c' w1 =>
        simp only [List.cons_append, List.cons.injEq] at e
        obtain ⟨rfl, rfl⟩ := e
        obtain ⟨h1, ⟨h2, h3⟩ | ⟨y, h2, h3⟩⟩ := g1
        · subst h2
          cases m with
          | zero => exact ⟨h1, .inl ⟨by simpa [Pow] using g2, h3⟩⟩
          | succ m =>
            obtain ⟨v1, v2, e2, ⟨y, k1, k2⟩, k3⟩ := g2
            exact ⟨h1, .inr ⟨y, (hA x hx y).2 (.inr ⟨h3, k1⟩), by
              rw [List.nil_append]
              exact (from_loop ha hB hA n w2 y (by simpa using hw') (hB y k1)).2 ⟨v1, v2, m, e2, k2, k3⟩⟩⟩
        · exact ⟨h1, .inr ⟨y, (hA x hx y).2 (.inl h2), (from_loop ha hB hA n (w1 ++ w2) y hw' (ha x hx y h2)).2 ⟨w1, w2, m, rfl, h3, g2⟩⟩⟩
end
end Go.Y.Gl

/- Expressions, what they stand for, and their automata of spots. Plain. -/
namespace Go.Y
open Gl

abbrev S4 := Int × Int × Int × Int
inductive Re where
  | mk (kind : Int) (set : S4) (kids : List Re) (lo hi n : Int)

def ReL (has : S4 → UInt8 → Bool) : Re → List UInt8 → Prop
  | .mk kind set kids lo hi _ => fun w =>
    if kind = 0 then w = []
    else if kind = 1 then ∃ c, w = [c] ∧ has set c = true
    else if kind = 4 ∨ kind = 7 then catL has kids w
    else if kind = 5 then altL has kids w
    else if kind = 6 then ∃ m : Nat, lo ≤ (m : Int) ∧ (hi < 0 ∨ (m : Int) ≤ hi) ∧ powL has kids m w
    else w = []
where
  catL (has : S4 → UInt8 → Bool) : List Re → List UInt8 → Prop
    | [] => fun w => w = []
    | r :: l => fun w => ∃ w1 w2, w = w1 ++ w2 ∧ ReL has r w1 ∧ catL has l w2
  altL (has : S4 → UInt8 → Bool) : List Re → List UInt8 → Prop
    | [] => fun _ => False
    | r :: l => fun w => ReL has r w ∨ altL has l w
  powL (has : S4 → UInt8 → Bool) : List Re → Nat → List UInt8 → Prop
    | [] => fun m w => m = 0 ∧ w = []
    | r :: _ => fun m w => Pow (ReL has r) m w
end Go.Y

/- What expressions of layer 4 are read as: over bytes, plain. -/
namespace Go.Y

def wordS (p : Nat → Bool) (k : Nat) : Int := ((List.range 64).foldl (fun (n : Nat) b => if p (64 * k + b) then n + 2 ^ b else n) 0 : Nat)
def setOf (p : Nat → Bool) : S4 := (wordS p 0, wordS p 1, wordS p 2, wordS p 3)
def inSpans (l : List Span) (c : Nat) : Bool := l.any fun x => decide (x.lo ≤ (c : Int)) && decide ((c : Int) ≤ x.hi)

def sevS (kind : Int) : List Re → Re
  | [] => .mk 0 (0, 0, 0, 0) [] 0 0 0
  | [r] => r
  | l => .mk kind (0, 0, 0, 0) l 0 0 0
def setRe (s : S4) : Re := .mk 1 s [] 0 0 0
def Re.kind : Re → Int
  | .mk k _ _ _ _ _ => k

abbrev PR (α : Type) := Except (Int × Nat) (α × Nat × Nat)

def digitS (s : List UInt8) (i : Nat) (least : Int) : Except Nat (Int × Nat) := match s[i]? with
  | some c => if 48 ≤ c.toNat ∧ c.toNat ≤ 56 ∧ least ≤ (c.toNat : Int) - 48 then .ok ((c.toNat : Int) - 48, i + 1) else .error i
  | none => .error i
def bracesS (s : List UInt8) (i : Nat) : Except Nat (Int × Int × Nat) := match digitS s i 0 with
  | .error e => .error e
  | .ok (lo, j) => if s[j]? = some 44 then
      (if s[j + 1]? = some 125 then .ok (lo, -1, j + 2) else match digitS s (j + 1) lo with
        | .error e => .error e
        | .ok (hi, k) => if s[k]? = some 125 then .ok (lo, hi, k + 1) else .error k)
    else if s[j]? = some 125 then .ok (lo, lo, j + 1) else .error j

def classS (s : List UInt8) (i : Nat) : Except Nat (S4 × Nat) :=
  let neg := s[i]? = some 94
  let i := if s[i]? = some 94 then i + 1 else i
  match setS (s.length + 1) s i [] with
  | .error e => .error e
  | .ok (l, j) => .ok (setOf (fun c => inSpans l c != decide neg), j)

def isRep (c : UInt8) : Bool := c == 42 || c == 43 || c == 63 || c == 123

mutual
def altE : Nat → Nat → List UInt8 → Nat → Nat → PR Re
  | 0, _, _, i, _ => .error (1, i)
  | n + 1, d, s, i, g => match rowE n d s i g [] with
    | .error e => .error e
    | .ok (r, i, g) => altsE n d s i g [r]
def altsE : Nat → Nat → List UInt8 → Nat → Nat → List Re → PR Re
  | 0, _, _, i, _, _ => .error (1, i)
  | n + 1, d, s, i, g, l => if s[i]? = some 124 then match rowE n d s (i + 1) g [] with
      | .error e => .error e
      | .ok (r, i, g) => altsE n d s i g (l ++ [r])
    else .ok (sevS 5 l, i, g)
def rowE : Nat → Nat → List UInt8 → Nat → Nat → List Re → PR Re
  | 0, _, _, i, _, _ => .error (1, i)
  | n + 1, d, s, i, g, l => match s[i]? with
    | none => .ok (sevS 4 l, i, g)
    | some c => if c = 124 ∨ c = 41 then .ok (sevS 4 l, i, g) else match pieceE n d s i g with
      | .error e => .error e
      | .ok (r, i, g) => rowE n d s i g (l ++ [r])
def pieceE : Nat → Nat → List UInt8 → Nat → Nat → PR Re
  | 0, _, _, i, _ => .error (1, i)
  | n + 1, d, s, i, g => match atomE n d s i g with
    | .error e => .error e
    | .ok (r, i, g) => match s[i]? with
      | none => .ok (r, i, g)
      | some c => if isRep c then
          (if r.kind = 2 ∨ r.kind = 3 then .error (1, i)
          else if c = 42 then .ok (.mk 6 (0, 0, 0, 0) [r] 0 (-1) 0, i + 1, g)
          else if c = 43 then .ok (.mk 6 (0, 0, 0, 0) [r] 1 (-1) 0, i + 1, g)
          else if c = 63 then .ok (.mk 6 (0, 0, 0, 0) [r] 0 1 0, i + 1, g)
          else match bracesS s (i + 1) with
            | .error e => .error (1, e)
            | .ok (lo, hi, j) => .ok (.mk 6 (0, 0, 0, 0) [r] lo hi 0, j, g))
        else .ok (r, i, g)
def atomE : Nat → Nat → List UInt8 → Nat → Nat → PR Re
  | 0, _, _, i, _ => .error (1, i)
  | n + 1, d, s, i, g => match s[i]? with
    | none => .error (1, i)
    | some c => if isRep c then .error (1, i)
      else if c = 40 then
        (if 64 ≤ d then .error (8, i) else match altE n (d + 1) s (i + 1) (g + 1) with
          | .error e => .error e
          | .ok (r, j, g') => if s[j]? = some 41 then .ok (.mk 7 (0, 0, 0, 0) [r] 0 0 (if g + 1 ≤ 9 then ((g + 1 : Nat) : Int) else 0), j + 1, g') else .error (1, j))
      else if c = 91 then match classS s (i + 1) with
        | .error e => .error (1, e)
        | .ok (x, j) => .ok (setRe x, j, g)
      else if c = 46 then .ok (setRe (setOf fun _ => true), i + 1, g)
      else if c = 94 then .ok (.mk 2 (0, 0, 0, 0) [] 0 0 0, i + 1, g)
      else if c = 36 then .ok (.mk 3 (0, 0, 0, 0) [] 0 0 0, i + 1, g)
      else if c = 92 then match s[i + 1]? with
        | none => .error (1, i + 1)
        | some d => .ok (setRe (setOf fun x => x == d.toNat), i + 2, g)
      else .ok (setRe (setOf fun x => x == c.toNat), i + 1, g)
end

def parseE (s : List UInt8) : Except (Int × Nat) Re :=
  if 200 < s.length then .error (2, 200) else match altE (6 * s.length + 10) 0 s 0 0 with
    | .error e => .error e
    | .ok (r, i, _) => if i < s.length then .error (1, i) else .ok r
end Go.Y
