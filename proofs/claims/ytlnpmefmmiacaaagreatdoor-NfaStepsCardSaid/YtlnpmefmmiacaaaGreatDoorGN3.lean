/- Automata: Put, all, step. -/
import Derived.Test.YtlnpmefmmiacaaaGreatDoorGN2
import Derived.Test.YtlnpmefmmiacaaaGreatDoorGSortK
import Derived.Test.YtlnpmefmmiacaaaGreatDoorGWk
namespace Go.Y
open Go.Proofs
set_option maxRecDepth 100000
set_option maxHeartbeats 1000000

theorem kd23 : Tryz.Y.kd 23 = some (.slice 3) := by kernel_rfl
theorem ty3 : Tryz.Y.ty 3 = some ⟨1, 8, .int .i64, [.i .i64 0]⟩ := by kernel_rfl

theorem frzI {h : Heap} : ∀ {l : List V} {zs : List Int}, FrzL h l (intsV zs) → l = intsV zs
  | _, [], f => by cases f; rfl
  | _, z :: zs, f => by
    cases f with
    | cons _ _ _ _ h1 h2 =>
      cases h1
      rw [frzI h2]
      rfl

theorem app0I {h : Heap} {a : Option (Nat × Nat)} {l : Nat} {c : Option Nat} {kk : Nat} {out : List Int} {cap : Option Nat} (hl : Lst encI 1 h a l c kk out) :
    ∃ a' l' c' k', appendH Tryz.Y h 23 23 (.sl a l c kk) (.ts (row encI ([] : List Int)) 0 cap) = some (.sl a' l' c' k', h) ∧ Lst encI 1 h a' l' c' k' out ∧ a' = a := by
  obtain ⟨⟨cells, h1, h2, h3⟩, h4⟩ := hl
  have hs : source Tryz.Y ⟨[], [], h⟩ ⟨1, 8, .int .i64, [.i .i64 0]⟩ 23 (.ts (row encI ([] : List Int)) 0 cap) = some (0, []) := by
    simp only [source, kd23, elems, elemsS, takeX, Option.map_some]
  rcases h1.2 with ⟨rfl, h0, h5⟩ | ⟨id, rfl, rfl, rfl, h5, h6⟩
  · refine ⟨none, 0, some 0, 1, ?_, ⟨⟨cells, ⟨by subst h5; rfl, .inl ⟨rfl, rfl, h5⟩⟩, h2, h3⟩, by omega⟩, rfl⟩
    simp only [appendH, appendY, kd23, ty3, hs]
    rfl
  · refine ⟨some (id, 0), l, none, 1, ?_, ⟨⟨cells, h1, h2, h3⟩, h4⟩, rfl⟩
    simp only [appendH, appendY, kd23, ty3, hs]
    rfl

theorem appLI {h : Heap} {a : Option (Nat × Nat)} {l : Nat} {c : Option Nat} {kk : Nat} {out : List Int} (xs : List Int) (hl : Lst encI 1 h a l c kk out) (hb : out.length + xs.length < 2 ^ 29) :
    ∃ a' l' c' k' h', appendH Tryz.Y h 23 23 (.sl a l c kk) (.ts (row encI xs) xs.length none) = some (.sl a' l' c' k', h') ∧ Lst encI 1 h' a' l' c' k' (out ++ xs) ∧ (out ++ xs = [] → a' = a) := by
  by_cases hx : xs = []
  · subst hx
    obtain ⟨a', l', c', k', q1, q2, q3⟩ := app0I (cap := none) hl
    exact ⟨a', l', c', k', h, q1, by rw [List.append_nil]; exact q2, fun _ => q3⟩
  · have hm : most = 1099511627776 := by decide
    obtain ⟨a', l', c', k', h', q1, q2, _, _⟩ := Lst.app (Y := Tryz.Y) (st := 23) (e := 3) (te := ⟨1, 8, .int .i64, [.i .i64 0]⟩) xs (cap := none) kd23 ty3 rfl (by decide) hl (rowI_frz xs _) (by
      rw [rowI]
      induction xs with
      | nil => rfl
      | cons x r ih =>
        by_cases hr : r = []
        · subst hr; rfl
        · have := ih (by simp at hb ⊢; omega) hr
          simp only [List.map_cons, colds1, this, Bool.and_true]
          rfl) hx (by rw [rowI_len]; exact (Nat.mul_one _).symm) (rowI_all xs) (by show (out.length + xs.length) * 8 ≤ most; rw [hm]; omega) (by rw [hm]; omega)
    exact ⟨a', l', c', k', h', q1, q2, fun e => absurd (List.append_eq_nil_iff.1 e).2 hx⟩

/-- From nothing: some, by a clone. -/
theorem cloneI (xs : List Int) (hx : xs ≠ []) (h : Heap) (hb : xs.length < 2 ^ 29) (cap : Option Nat) :
    appendH Tryz.Y h 23 23 (.ts [] 0 (some 0)) (.ts (row encI xs) xs.length cap) = some (.sl (some (h.nx, 0)) xs.length none 1, h.push (.arr (row encI xs) true)) ∧ Lst encI 1 (h.push (.arr (row encI xs) true)) (some (h.nx, 0)) xs.length none 1 xs := by
  obtain ⟨n, hn⟩ : ∃ n, xs.length = n + 1 := ⟨xs.length - 1, by have := List.length_pos_iff.2 hx; omega⟩
  have hcold : colds1 (row encI xs) = true := by
    rw [rowI]
    clear hn hb hx
    induction xs with
    | nil => rfl
    | cons x r ih => simp only [List.map_cons, colds1, ih, Bool.and_true]; rfl
  refine ⟨?_, ⟨⟨row encI xs, ⟨by rw [rowI_len]; omega, .inr ⟨h.nx, rfl, rfl, rfl, by simp [Heap.push], by simp⟩⟩, hcold, rowI_frz xs _⟩, rfl⟩⟩
  rw [hn]
  exact clone_app (Y := Tryz.Y) (te := ⟨1, 8, .int .i64, [.i .i64 0]⟩) kd23 ty3 (by decide) (by decide) (by
    have : takeX (row encI xs).length (row encI xs) = some (row encI xs) := takeX_all _
    rw [rowI_len, hn] at this
    simpa using this) (rowI_all xs) (by omega) h

/-! ### Put -/
theorem putS_take {l : List Int} {n : Int} {k : Nat} (h : ∀ x ∈ l.take k, x < n) : putS l n = l.take k ++ putS (l.drop k) n := by
  induction k generalizing l with
  | zero => simp
  | succ k ih =>
    cases l with
    | nil => simp
    | cons a l =>
      have ha : a < n := h a (by simp)
      rw [List.take_succ_cons, List.drop_succ_cons, List.cons_append, ← ih (fun x hx => h x (by rw [List.take_succ_cons]; exact List.mem_cons_of_mem _ hx))]
      conv => lhs; unfold putS
      rw [if_pos ha]

theorem put41 (l : List Int) (n : Int) (hl : l.length < 2 ^ 20) : PCon Tryz.Y 41 [lst encI l, .i .i64 n] (· = lst encI (putS l n)) := by
  refine pcon_of Tryz.Yok (fn := Tryz.f41) (by kernel_rfl) (by kernel_rfl) rfl ?_
  refine pre_rule Tryz.Yok (n := 48) (loc := Tryz.Y.loc 41) 100 [0, 1, 4, 5] (by kernel_rfl) ?_
  refine Eq.mpr (f41_0 (row encI l) l.length n .empty _) ?_
  refine ⟨rfl, loop2 [0, 1, 4, 5] [0, 1, 4, 5] rfl (by kernel_rfl) (fun m vs h => ∃ (i : Nat), vs = [lst encI l, .i .i64 n, .sl none 0 (some 0) 0, .i .i64 (i : Nat)] ∧ i ≤ l.length ∧ m = l.length - i ∧ ∀ x ∈ l.take i, x < n) l.length mk_len ⟨0, rfl, by omega, by omega, by simp⟩ ?_⟩
  rintro m vs h ⟨i, rfl, hi, rfl, hp⟩
  refine all_rule Tryz.Yok (loc := Tryz.Y.loc 41) 100 [0, 1, 4, 5] ?_
  refine Eq.mpr (f41_1 (row encI l) l.length n (i : Nat) h _) ?_
  have hw : ((((i : Nat) : Int).toNat - 0) * 1) = i := by rw [Int.toNat_natCast]; omega
  have hw2 : (((i : Nat) : Int).toNat - 0) = i := by rw [Int.toNat_natCast]; omega
  have r1 : List.take i (List.drop (0 * 1) (row encI l)) = row encI (l.take i) := by simp only [Nat.zero_mul, List.drop_zero, rowI, List.map_take]
  have r2 : List.take ((l.length - i) * 1) (List.drop (i * 1) (row encI l)) = row encI (l.drop i) := by
    simp only [Nat.mul_one, rowI, ← List.map_drop]
    exact List.take_of_length_le (by simp)
  have l1 : (l.take i).length = i := by simp; omega
  have l2 : (l.drop i).length = l.length - i := by simp
  -- what is built at a place where it is not yet
  have ins : ∀ (K : Out → Nat → List V → Heap → Prop), putS (l.drop i) n = n :: l.drop i → (∀ (a : Option (Nat × Nat)) (ln : Nat) (c : Option Nat) (k : Nat) (h' : Heap), Lst encI 1 h' a ln c k (putS l n) → K .ret 48 [.sl a ln c k] h') →
      (((0 : Int) ≤ (i : Nat) ∧ ((i : Nat) : Int) ≤ (l.length : Nat)) ∧
        ((∃ (a : Option (Nat × Nat)), ∃ (l_1 : Nat), ∃ (c : Option Nat), ∃ (k : Nat), ∃ (h_1 : Heap), appendH Tryz.Y h 23 23 (.ts [] 0 (some 0)) (.ts (row encI (l.take i)) i none) = some (.sl a l_1 c k, h_1) ∧
            ∃ (a_1 : Option (Nat × Nat)), ∃ (l_2 : Nat), ∃ (c_1 : Option Nat), ∃ (k_1 : Nat), ∃ (h_2 : Heap), appendH Tryz.Y h_1 23 23 (.sl a l_1 c k) (.ts [.i .i64 n] 1 (some 1)) = some (.sl a_1 l_2 c_1 k_1, h_2) ∧
              ((0 : Int) ≤ (i : Nat) ∧ ((i : Nat) : Int) ≤ (l.length : Nat)) ∧
              ∃ (a : Option (Nat × Nat)), ∃ (l_3 : Nat), ∃ (c : Option Nat), ∃ (k : Nat), ∃ (h_3 : Heap), appendH Tryz.Y h_2 23 23 (.sl a_1 l_2 c_1 k_1) (.ts (row encI (l.drop i)) (l.length - i) none) = some (.sl a l_3 c k, h_3) ∧ K .ret 48 [.sl a l_3 c k] h_3) ∨
          appendH Tryz.Y h 23 23 (.ts [] 0 (some 0)) (.ts (row encI (l.take i)) i none) = some (.ts [] 0 (some 0), h) ∧
            ((∃ (a : Option (Nat × Nat)), ∃ (l_1 : Nat), ∃ (c : Option Nat), ∃ (k : Nat), ∃ (h_1 : Heap), appendH Tryz.Y h 23 23 (.ts [] 0 (some 0)) (.ts [.i .i64 n] 1 (some 1)) = some (.sl a l_1 c k, h_1) ∧
              ((0 : Int) ≤ (i : Nat) ∧ ((i : Nat) : Int) ≤ (l.length : Nat)) ∧
              ∃ (a_1 : Option (Nat × Nat)), ∃ (l_2 : Nat), ∃ (c_1 : Option Nat), ∃ (k_1 : Nat), ∃ (h_2 : Heap), appendH Tryz.Y h_1 23 23 (.sl a l_1 c k) (.ts (row encI (l.drop i)) (l.length - i) none) = some (.sl a_1 l_2 c_1 k_1, h_2) ∧ K .ret 48 [.sl a_1 l_2 c_1 k_1] h_2) ∨
              appendH Tryz.Y h 23 23 (.ts [] 0 (some 0)) (.ts [.i .i64 n] 1 (some 1)) = some (.ts [] 0 (some 0), h) ∧ ((0 : Int) ≤ (i : Nat) ∧ ((i : Nat) : Int) ≤ (l.length : Nat)) ∧
                ((∃ (a : Option (Nat × Nat)), ∃ (l_1 : Nat), ∃ (c : Option Nat), ∃ (k : Nat), ∃ (h_1 : Heap), appendH Tryz.Y h 23 23 (.ts [] 0 (some 0)) (.ts (row encI (l.drop i)) (l.length - i) none) = some (.sl a l_1 c k, h_1) ∧ K .ret 48 [.sl a l_1 c k] h_1) ∨
                  appendH Tryz.Y h 23 23 (.ts [] 0 (some 0)) (.ts (row encI (l.drop i)) (l.length - i) none) = some (.ts [] 0 (some 0), h) ∧ K .ret 48 [.ts [] 0 (some 0)] h)))) := by
    intro K hput hK
    have hput : putS l n = l.take i ++ n :: l.drop i := by rw [putS_take hp, hput]
    refine ⟨⟨by omega, by omega⟩, ?_⟩
    by_cases h0 : i = 0
    · subst h0
      refine .inr ⟨?_, .inl ?_⟩
      · exact clone_app0 kd23 ty3 (by decide) _ _ _
      · obtain ⟨q1, q2⟩ := cloneI [n] (by simp) h (by simp) (some 1)
        obtain ⟨a', l', c', k', h', q3, q4, _⟩ := appLI (l.drop 0) q2 (by simp; omega)
        rw [l2] at q3
        exact ⟨_, _, _, _, _, q1, ⟨by omega, by omega⟩, a', l', c', k', h', q3, hK _ _ _ _ _ (by rw [hput]; exact q4)⟩
    · obtain ⟨q1, q2⟩ := cloneI (l.take i) (fun e => by rw [e] at l1; simp at l1; omega) h (by omega) none
      rw [l1] at q1 q2
      obtain ⟨a1, n1, c1, k1, h1, q3, q4, _, _⟩ := app1I n q2 (by omega)
      obtain ⟨a', l', c', k', h', q5, q6, _⟩ := appLI (l.drop i) q4 (by simp; omega)
      rw [l2] at q5
      exact .inl ⟨_, _, _, _, _, q1, a1, n1, c1, k1, h1, q3, ⟨by omega, by omega⟩, a', l', c', k', h', q5, hK _ _ _ _ _ (by rw [hput]; simpa using q6)⟩
  have stop : (∀ hlt : i < l.length, ¬ l[i] < n) → TriL Tryz.Y ((post (flat (bodyOf Tryz.f41))).drop 1) ⟨mk 48 (([0, 1, 4, 5] : List Nat).zip [lst encI l, .i .i64 n, .sl none 0 (some 0) 0, .i .i64 (i : Nat)]), [], h⟩ (FinS Tryz.Y Tryz.f41 fun v h => ∃ r, Frz h v r ∧ r = lst encI (putS l n)) := by
    intro hns
    refine end_rule Tryz.Yok (loc := Tryz.Y.loc 41) 100 [4] ?_
    refine Eq.mpr (f41_2 (row encI l) l.length n (i : Nat) h _) ?_
    rw [hw, hw2, r1, Int.toNat_natCast, r2]
    have fin : ∀ (a : Option (Nat × Nat)) (ln : Nat) (c : Option Nat) (k : Nat) (h' : Heap), Lst encI 1 h' a ln c k (putS l n) → Fin Tryz.Y Tryz.f41 [4] (fun v h => ∃ r, Frz h v r ∧ r = lst encI (putS l n)) .ret 48 [.sl a ln c k] h' := fun a ln c k h' hL => finV1 (.inr rfl) rfl (hL.frz (by decide) encI_len) rfl
    refine if_lt_nat (fun hlt => ?_) (fun hge => ?_)
    · have hd : l.drop i = l[i] :: l.drop (i + 1) := List.drop_eq_getElem_cons hlt
      refine ⟨bnd_nat hlt, _, by have := getI l hlt; rwa [Int.toNat_natCast] at this, if_mk (fun g => ?_) (fun g => ?_)⟩
      · have g : l[i] = n := by simpa using g
        have e : putS l n = l := by
          rw [putS_take hp, hd]
          conv => lhs; rhs; unfold putS
          rw [if_neg (hns hlt), if_pos g, ← hd, List.take_append_drop]
        exact finV1 (.inr rfl) rfl (.ts _ _ _ _ (fun _ h => h)) (by rw [e])
      · have g : l[i] ≠ n := by simpa using g
        exact ins _ (by rw [hd]; conv => lhs; unfold putS
                        rw [if_neg (hns hlt), if_neg g]) fin
    · exact ins _ (by rw [List.drop_of_length_le hge]; rfl) fin
  refine if_lt_nat (fun hlt => ?_) (fun hge => ?_)
  · refine ⟨bnd_nat hlt, _, getI l hlt, if_lt (fun g => ?_) (fun g => ?_)⟩
    · clear stop ins
      refine ⟨rfl, l.length - (i + 1), by omega, i + 1, by rw [wrap_succ (by omega)]; rfl, by omega, rfl, fun x hx => ?_⟩
      rw [List.take_succ_eq_append_getElem hlt, List.mem_append] at hx
      rcases hx with hx | hx
      · exact hp x hx
      · simp at hx; subst hx; exact g
    · exact roundW_exit [0, 1, 4, 5] (by kernel_rfl) rfl rfl (stop fun _ => Int.not_lt.2 g)
  · exact roundW_exit [0, 1, 4, 5] (by kernel_rfl) rfl rfl (stop fun h => absurd h (by omega))
end Go.Y
