/- GlobParts, as a call of the abstract machine. -/
import Derived.Test.YtpddiafjmkjpmaaGGreedy
namespace Go.Y
open Go.Proofs
set_option maxRecDepth 100000

theorem row_take {α : Type} {f : α → List V} {k : Nat} (hk : ∀ x, (f x).length = k) (l : List α) (n : Nat) : (row f l).take (n * k) = row f (l.take n) := by
  induction l generalizing n with
  | nil => simp [row]
  | cons x l ih =>
    have h : row f (x :: l) = f x ++ row f l := by simp [row]
    cases n with
    | zero => simp [row]
    | succ n =>
      have h2 : row f (x :: l.take n) = f x ++ row f (l.take n) := by simp [row]
      rw [List.take_succ_cons, h, h2, ← ih n, Nat.add_mul, Nat.one_mul, Nat.add_comm, ← hk x, List.take_length_add_append]

theorem okG_take {l : List Glob} (h : okG l) (n : Nat) : okG (l.take n) := ⟨by have := h.1; simp; omega, fun x hx => h.2 x (List.mem_of_mem_take hx)⟩
theorem okG_drop {l : List Glob} (h : okG l) (n : Nat) : okG (l.drop n) := ⟨by have := h.1; simp; omega, fun x hx => h.2 x (List.mem_of_mem_drop hx)⟩
theorem may_take {l : List Glob} (h : mayS l = true) (n : Nat) : mayS (l.take n) = true := by
  rw [mayS, List.all_eq_true] at h ⊢
  exact fun x hx => h x (List.mem_of_mem_take hx)
theorem may_drop {l : List Glob} (h : mayS l = true) (n : Nat) : mayS (l.drop n) = true := by
  rw [mayS, List.all_eq_true] at h ⊢
  exact fun x hx => h x (List.mem_of_mem_drop hx)

def partB (l : List Glob) (s : List UInt8) (k : Nat) (j : Nat) : Bool := M (l.take k) (s.take j) && M (l.drop k) (s.drop j)

def PartI (l : List Glob) (s : List UInt8) (x : Int) (k : Nat) (m : Nat) (vs : List V) (_ : Heap) : Prop :=
  ∃ (i : Nat) (b : Bool), vs = [lst encG l, .s s, .i .i64 ((IntKind.i64.wrap x).tmod (IntKind.i64.wrap ((l.length : Int) + 1))), .b b, .i .i64 (IntKind.i64.wrap ((s.length : Int) + 1)), .i .i64 (i : Nat)] ∧
    b = (List.range i).any (partB l s k) ∧ i ≤ s.length + 1 ∧ m = s.length + 1 - i

theorem globParts_con (l : List Glob) (s : List UInt8) (x : Int) (hx0 : 0 ≤ x) (hx1 : x ≤ 255) : PCon Try.Y 4 [lst encG l, .s s, .i .u8 x] (· = .b true) := by
  refine pcon_of Try.Yok (fn := Try.f4) (by kernel_rfl) (by kernel_rfl) rfl ?_
  refine pre_rule Try.Yok (n := 67) (loc := Try.Y.loc 4) 100 [0, 1, 6, 7, 8, 38, 39] (by kernel_rfl) ?_
  refine Eq.mpr (f4_0 (row encG l) l.length s x .empty _) ?_
  have yes : ∀ (vs : List V) (h : Heap), resV Try.Y Try.f4 ([0, 1, 6, 7, 8, 38, 39].zip vs) = some (.b true) → AtV [0, 1, 6, 7, 8, 38, 39] (FinS Try.Y Try.f4 fun v h => ∃ r, Frz h v r ∧ r = .b true) .ret 67 vs h := fun vs h hv => fin_at (.inr rfl) hv ⟨_, .b _, rfl⟩
  refine ⟨true, awake03, if_mk (fun h => by cases h) (fun _ => ⟨_, small_con l, if_mk (fun _ => yes _ _ rfl) (fun hsm => ?_)⟩)⟩
  have hsm : smallS l = true := by simpa using hsm
  have hok := small_ok hsm
  refine if_lt (fun _ => yes _ _ rfl) (fun h40 => if_lt (fun _ => yes _ _ rfl) (fun h30 => ⟨_, rmay_con l hok, if_mk (fun _ => yes _ _ rfl) (fun hm => ?_)⟩))
  have hmay : mayS l = true := by simpa using hm
  have hll : l.length ≤ 40 := by omega
  have hsl : s.length ≤ 30 := by omega
  have hw1 : IntKind.i64.wrap ((l.length : Int) + 1) = ((l.length + 1 : Nat) : Int) := wrap_succ (by omega)
  have hw2 : IntKind.i64.wrap ((s.length : Int) + 1) = ((s.length + 1 : Nat) : Int) := wrap_succ (by omega)
  have hwx : IntKind.i64.wrap x = x := wrap_ok (by omega) (by omega)
  obtain ⟨k, hk, hkl⟩ : ∃ k : Nat, (IntKind.i64.wrap x).tmod (IntKind.i64.wrap ((l.length : Int) + 1)) = (k : Nat) ∧ k ≤ l.length := by
    rw [hw1, hwx]
    obtain ⟨n, rfl⟩ := Int.eq_ofNat_of_zero_le hx0
    refine ⟨n % (l.length + 1), ?_, by have := Nat.mod_lt n (show 0 < l.length + 1 by omega); omega⟩
    rw [Int.ofNat_tmod]
  refine ⟨by rw [hw1]; omega, rfl, ?_⟩
  refine loop2 [0, 1, 7, 8, 38, 39] [0, 1, 7, 8, 38, 39] rfl (by kernel_rfl) (PartI l s x k) (s.length + 1) mk_len ⟨0, _, rfl, rfl, by omega, by omega⟩ ?_
  rintro m vs h ⟨i, b, rfl, hb, hi, rfl⟩
  refine all_rule Try.Yok (loc := Try.Y.loc 4) 100 [0, 1, 7, 8, 38, 39] ?_
  refine Eq.mpr (f4_1 (row encG l) l.length s x b (i : Nat) h _) ?_
  rw [hk, hw2]
  have next : ∀ b' : Bool, b' = (b || partB l s k i) → i < s.length + 1 → RoundW Try.Y 67 [0, 1, 7, 8, 38, 39] [0, 1, 7, 8, 38, 39] (PartI l s x k) (s.length + 1 - i) (loopId (post (flat (bodyOf Try.f4)))) ((post (flat (bodyOf Try.f4))).drop 1)
      (FinS Try.Y Try.f4 fun v h => ∃ r, Frz h v r ∧ r = .b true) .normal 67 [lst encG l, .s s, .i .i64 (k : Nat), .b b', .i .i64 ((s.length + 1 : Nat) : Int), .i .i64 (IntKind.i64.wrap ((i : Nat) + 1))] h := by
    intro b' hb' hi'
    refine ⟨rfl, s.length + 1 - (i + 1), by omega, i + 1, b', ?_, ?_, by omega, rfl⟩
    · rw [hk, hw2, wrap_succ (by omega)]; rfl
    · rw [hb', hb, List.range_succ, List.any_append]; simp
  refine if_lt_nat (fun hlt => ?_) (fun hge => ?_)
  · refine if_mk (fun hbt => next _ (by rw [hbt]; rfl) hlt) (fun hbf => ?_)
    have h1 := match_con (l.take k) (s.take i) (okG_take hok k) (by simp; omega)
    have h2 := match_con (l.drop k) (s.drop i) (okG_drop hok k) (by simp; omega)
    rw [may_take hmay, Bool.true_and] at h1
    rw [may_drop hmay, Bool.true_and] at h2
    simp only [Int.toNat_natCast, Nat.sub_zero, Nat.zero_mul, List.drop_zero]
    refine ⟨⟨by omega, by omega⟩, ⟨by omega, by omega⟩, M (l.take k) (s.take i), ?_, if_mk (fun hc => ?_) (fun hc => next _ (by rw [hbf]; simp [partB, hc]) hlt)⟩
    · have e : (lst encG (l.take k)) = .ts ((row encG l).take (k * 3)) k none := by rw [row_take encG_len]; unfold lst; rw [List.length_take, Nat.min_eq_left hkl]
      rw [e] at h1
      exact h1
    · refine ⟨⟨by omega, by omega⟩, ⟨by omega, by omega⟩, M (l.drop k) (s.drop i), ?_, next _ (by rw [hbf]; simp [partB, hc]) hlt⟩
      have e : (lst encG (l.drop k)) = .ts (((row encG l).drop (k * 3)).take ((l.length - k) * 3)) (l.length - k) none := by
        rw [row_drop encG_len, row_take encG_len, List.take_of_length_le (by simp)]; unfold lst; rw [List.length_drop]
      rw [e] at h2
      have e2 : (s.drop i).take (s.length - i) = s.drop i := List.take_of_length_le (by simp)
      rw [e2]
      exact h2
  · refine roundW_exit [0, 1, 8] (by kernel_rfl) rfl rfl ?_
    refine end_rule Try.Yok (loc := Try.Y.loc 4) 100 [6] ?_
    refine Eq.mpr (f4_2 (row encG l) l.length s b h _) ?_
    have h3 := match_con l s hok (by omega)
    rw [hmay, Bool.true_and] at h3
    refine ⟨M l s, h3, finV1 (.inr rfl) rfl (.b _) ?_⟩
    have he : i = s.length + 1 := by omega
    have : b = M l s := by rw [hb, he, M_parts l s k]; rfl
    rw [this]; simp
end Go.Y
