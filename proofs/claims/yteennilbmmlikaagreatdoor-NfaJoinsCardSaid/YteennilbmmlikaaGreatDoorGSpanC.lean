/- souffleurref03.Spans, by its contract. -/
import Derived.Test.YteennilbmmlikaaGreatDoorGRule
import Derived.Test.YteennilbmmlikaaGreatDoorGSortK
import Derived.Test.YteennilbmmlikaaGreatDoorYTryzP
import Derived.Test.YteennilbmmlikaaGreatDoorYLoop
import Derived.Test.YteennilbmmlikaaGreatDoorGReD
namespace Go.Y
open Go.Proofs
set_option maxRecDepth 100000
set_option maxHeartbeats 1000000
theorem u8_lit (c d : UInt8) : (((c.toNat : Nat) : Int) == ((d.toNat : Nat) : Int)) = decide (c = d) := by rw [u8_eq]; rfl
theorem fin3Z {Y : YP} {fn : Func} {slots : List Nat} {o : Out} {n : Nat} {vs : List V} {h : Heap} {v1 v2 v3 r1 r2 r3 R : V} (ho : o = .normal ∨ o = .ret) (hv : resV Y fn (slots.zip vs) = some (.tup [v1, v2, v3])) (h1 : Frz h v1 r1) (h2 : Frz h v2 r2) (h3 : Frz h v3 r3) (hr : .tup [r1, r2, r3] = R) :
    Fin Y fn slots (fun v h => ∃ r, Frz h v r ∧ r = R) o n vs h := ⟨ho, _, hv, _, .tup _ _ (.cons _ _ _ _ h1 (.cons _ _ _ _ h2 (.cons _ _ _ _ h3 .nil))), hr⟩
theorem span_app {h : Heap} {a : Option (Nat × Nat)} {l : Nat} {c : Option Nat} {kk : Nat} {out : List Span} (x : Span) (hl : Lst encS 2 h a l c kk out) (hb : out.length < 2 ^ 29) :
    ∃ a' l' c' k' h', appendH Tryz.Y h 57 57 (.sl a l c kk) (.ts (encS x) 1 (some 1)) = some (.sl a' l' c' k', h') ∧ Lst encS 2 h' a' l' c' k' (out ++ [x]) ∧ Fr h a h' ∧ ∃ j, a' = some (j, 0) ∧ h.nx ≤ j :=
  Lst.app1 (Y := Tryz.Y) (e := 155) (te := ⟨2, 2, .struct [(0, 5), (1, 5)], [.i .u8 0, .i .u8 0]⟩) x (by kernel_rfl) (by kernel_rfl) rfl (by decide) hl (colds1_ok _ rfl) rfl rfl rfl (by decide) hb
def ritemR (s : List UInt8) (i : Nat) : V := match endS s i with
  | .error e => .tup [.i .u8 0, .i .i64 (-1), .i .i64 (e : Nat)]
  | .ok (c, j) => .tup [.i .u8 c, .i .i64 (j - i : Nat), .i .i64 0]

theorem ritem_con (s : List UInt8) (i : Nat) (hs : s.length < 2 ^ 30) (hi : i < 2 ^ 30) : PCon Tryz.Y 111 [.s s, .i .i64 (i : Nat)] (· = ritemR s i) := by
  refine pcon_of Tryz.Yok (fn := Tryz.f111) (by kernel_rfl) (by kernel_rfl) rfl (end_rule Tryz.Yok (loc := Tryz.Y.loc 111) 100 [4, 5, 6] ?_)
  rw [show (⟨[.s s, .i .i64 (i : Nat)] ++ List.replicate (Tryz.f111.ntmps - [V.s s, .i .i64 (i : Nat)].length) .undef, [], .empty⟩ : St) = ⟨.s s :: .i .i64 (i : Nat) :: List.replicate 40 .undef, [], .empty⟩ by rfl, f111_0]
  unfold ritemR
  have f : ∀ (a b c : Int) (R : V), .tup [.i .u8 a, .i .i64 b, .i .i64 c] = R → Fin Tryz.Y Tryz.f111 [4, 5, 6] (fun v h => ∃ r, Frz h v r ∧ r = R) .ret 42 [.i .u8 a, .i .i64 b, .i .i64 c] .empty := fun a b c R hR =>
    fin3Z (.inr rfl) rfl (.i _ _) (.i _ _) (.i _ _) hR
  refine if_le (fun hle => f _ _ _ _ ?_) (fun hlt => ?_)
  · have : s[i]? = none := List.getElem?_eq_none (by omega)
    simp [endS, this]
  have hlt' : i < s.length := by omega
  have hsi : s[i]? = some s[i] := by simp [hlt']
  have get : (0 : Int) ≤ (i : Nat) ∧ s[((i : Nat) : Int).toNat]? = some s[i] := ⟨by omega, by simp [hlt']⟩
  rw [show (93 : Int) = (((93 : UInt8).toNat : Nat) : Int) by decide, show (45 : Int) = (((45 : UInt8).toNat : Nat) : Int) by decide]
  refine ⟨_, get, ?_⟩
  rw [u8_lit]
  refine if_dec (fun c1 => f _ _ _ _ ?_) (fun c1 => ⟨_, get, ?_⟩)
  · unfold endS; rw [hsi]; simp only []; rw [if_pos (.inl c1)]
  rw [u8_lit]
  refine if_dec (fun c2 => f _ _ _ _ ?_) (fun c2 => ⟨_, get, ?_⟩)
  · unfold endS; rw [hsi]; simp only []; rw [if_pos (.inr c2)]
  have hn : ¬ (s[i] = 93 ∨ s[i] = 45) := by simp [c1, c2]
  have e92 : ((s[i].toNat : Int) != 92) = !decide (s[i] = 92) := by
    rw [show (92 : Int) = (((92 : UInt8).toNat : Nat) : Int) by decide]
    show (!((s[i].toNat : Int) == (((92 : UInt8).toNat : Nat) : Int))) = _
    rw [u8_lit]
  rw [e92]
  refine if_mk (fun c3 => ⟨_, get, f _ _ _ _ ?_⟩) (fun c3 => ?_)
  · have c3 : s[i] ≠ 92 := by simpa using c3
    unfold endS; rw [hsi]; simp only []; rw [if_neg hn, if_neg c3]; simp
  · have c3 : s[i] = 92 := by simpa using c3
    rw [wrap_succ (by omega)]
    refine if_le (fun hle => f _ _ _ _ ?_) (fun hlt => ?_)
    · have : s[i + 1]? = none := List.getElem?_eq_none (by omega)
      unfold endS; rw [hsi]; simp only []; rw [if_neg hn, if_pos c3, this]
    · have hl : i + 1 < s.length := by omega
      have : s[i + 1]? = some s[i + 1] := by simp [hl]
      refine ⟨_, ⟨by omega, by rw [show (((i + 1 : Nat) : Int)).toNat = i + 1 by omega]; exact this⟩, f _ _ _ _ ?_⟩
      unfold endS; rw [hsi]; simp only []; rw [if_neg hn, if_pos c3, this]; simp

def spansR (r : Except Nat (List Span × Nat)) : V := match r with
  | .error e => .tup [lst encS [], .i .i64 (-1), .i .i64 (e : Nat)]
  | .ok (l, j) => .tup [lst encS l, .i .i64 (j : Nat), .i .i64 0]

def SpansI (s : List UInt8) (R : Except Nat (List Span × Nat)) (m : Nat) (vs : List V) (h : Heap) : Prop :=
  ∃ (i : Nat) (out : List Span) (a : Option (Nat × Nat)) (l : Nat) (c : Option Nat) (k : Nat) (v9 : V), vs = [.s s, .i .i64 (i : Nat), .undef, .sl none 0 (some 0) 0, .sl a l c k, v9] ∧ Lst encS 2 h a l c k out ∧
    i ≤ s.length ∧ out.length ≤ i ∧ s.length - i < m ∧ setS m s i out = R

theorem spans_con (s : List UInt8) (i : Nat) (hs : s.length < 2 ^ 28) (hi : i ≤ s.length) : PCon Tryz.Y 62 [.s s, .i .i64 (i : Nat)] (· = spansR (setS (s.length + 1) s i [])) := by
  refine pcon_of Tryz.Yok (fn := Tryz.f62) (by kernel_rfl) (by kernel_rfl) rfl ?_
  refine pre_rule Tryz.Yok (n := 81) (loc := Tryz.Y.loc 62) 100 [0, 1, 3, 4, 7, 9] (by kernel_rfl) ?_
  rw [show (⟨[.s s, .i .i64 (i : Nat)] ++ List.replicate (Tryz.f62.ntmps - [V.s s, .i .i64 (i : Nat)].length) .undef, [], .empty⟩ : St) = ⟨.s s :: .i .i64 (i : Nat) :: List.replicate 79 .undef, [], .empty⟩ by rfl, f62_0]
  generalize hR : setS (s.length + 1) s i [] = R
  refine ⟨rfl, loopE [0, 1, 3, 4, 7, 9] [0, 1, 3, 4, 5, 6, 7, 9] rfl (by kernel_rfl) (SpansI s R) (s.length + 1) mk_len ⟨i, [], none, 0, some 0, 0, .undef, rfl, Lst.nil _ _ _ _ _, hi, by simp, by omega, hR⟩ ?_⟩
  rintro m vs h ⟨i, out, a, l, c, k, v9, rfl, hL, hi, hol, hm, hg⟩
  refine all_rule Tryz.Yok (loc := Tryz.Y.loc 62) 100 [0, 1, 3, 4, 5, 6, 7, 9] ?_
  rw [f62_1]
  obtain ⟨m, rfl⟩ : ∃ m', m = m' + 1 := ⟨m - 1, by omega⟩
  have hll := hL.len
  generalize hK : RoundE 81 [0, 1, 3, 4, 5, 6, 7, 9] [0, 1, 3, 4, 7, 9] (SpansI s R) (m + 1) (loopId (post (flat (bodyOf Tryz.f62)))) (FinS Tryz.Y Tryz.f62 fun v h => ∃ r, Frz h v r ∧ r = spansR R) = K
  -- the end
  have stop : ∀ (v1 v3 : V) (a : Option (Nat × Nat)) (l : Nat) (c : Option Nat) (k : Nat) (x : Int) (y : Int) (w4 w9 : V) (h : Heap) (r : V), Frz h (.sl a l c k) r → .tup [r, .i .i64 x, .i .i64 y] = spansR R → K .ret 81 [.s s, v1, v3, .sl a l c k, .i .i64 x, .i .i64 y, w4, w9] h := by
    intro v1 v3 a l c k x y w4 w9 h r h1 h2
    subst hK
    exact fin_at (.inr rfl) rfl ⟨_, .tup _ _ (.cons _ _ _ _ h1 (.cons _ _ _ _ (.i _ _) (.cons _ _ _ _ (.i _ _) .nil))), h2⟩
  have hiw : ∀ (j : Nat), j ≤ s.length → IntKind.i64.wrap ((i : Int) + ((j - i : Nat) : Int)) = (i : Int) + ((j - i : Nat) : Int) := fun j hj => wrap_ok (by omega) (by omega)
  -- an item
  have item : ¬ (out ≠ [] ∧ s[i]? = some 93) → ∃ n n_1 n_2 : Int, (PCon Tryz.Y 111 [.s s, .i .i64 (i : Nat)] fun v => v = .tup [.i .u8 n, .i .i64 n_1, .i .i64 n_2]) ∧
      If (ltI n_1 0) (K .ret 81 [.s s, .i .i64 (i : Nat), .undef, .sl none 0 (some 0) 0, .i .i64 (-1), .i .i64 n_2, .sl a l c k, .i .i64 n_1] h)
        (If (ltI (IntKind.i64.wrap ((i : Nat) + n_1)) (s.length : Nat)) (∃ c_1 : UInt8, (0 ≤ IntKind.i64.wrap ((i : Nat) + n_1) ∧ s[(IntKind.i64.wrap ((i : Nat) + n_1)).toNat]? = some c_1) ∧ If ((c_1.toNat : Int) == 45)
          (∃ n_3 n_4 n_5 : Int, (PCon Tryz.Y 111 [.s s, .i .i64 (IntKind.i64.wrap (IntKind.i64.wrap ((i : Nat) + n_1) + 1))] fun v => v = .tup [.i .u8 n_3, .i .i64 n_4, .i .i64 n_5]) ∧
            If (ltI n_4 0) (K .ret 81 [.s s, .i .i64 (IntKind.i64.wrap ((i : Nat) + n_1)), .undef, .sl none 0 (some 0) 0, .i .i64 (-1), .i .i64 n_5, .sl a l c k, .i .i64 n_4] h)
              (If (ltI n_3 n) (K .ret 81 [.s s, .i .i64 (IntKind.i64.wrap ((i : Nat) + n_1)), .undef, .sl none 0 (some 0) 0, .i .i64 (-1), .i .i64 (IntKind.i64.wrap (IntKind.i64.wrap ((i : Nat) + n_1) + n_4)), .sl a l c k, .i .i64 n_4] h)
                (∃ (a' : Option (Nat × Nat)) (l' : Nat) (c' : Option Nat) (k' : Nat) (h_1 : Heap), appendH Tryz.Y h 57 57 (.sl a l c k) (.ts [.i .u8 n, .i .u8 n_3] 1 (some 1)) = some (.sl a' l' c' k', h_1) ∧
                  K .normal 81 [.s s, .i .i64 (IntKind.i64.wrap (IntKind.i64.wrap (IntKind.i64.wrap ((i : Nat) + n_1) + 1) + n_4)), .undef, .sl none 0 (some 0) 0, .undef, .undef, .sl a' l' c' k', .i .i64 n_4] h_1)))
          (∃ (a' : Option (Nat × Nat)) (l' : Nat) (c' : Option Nat) (k' : Nat) (h_1 : Heap), appendH Tryz.Y h 57 57 (.sl a l c k) (.ts [.i .u8 n, .i .u8 n] 1 (some 1)) = some (.sl a' l' c' k', h_1) ∧
            K .normal 81 [.s s, .i .i64 (IntKind.i64.wrap ((i : Nat) + n_1)), .undef, .sl none 0 (some 0) 0, .undef, .undef, .sl a' l' c' k', .i .i64 n_1] h_1))
          (∃ (a' : Option (Nat × Nat)) (l' : Nat) (c' : Option Nat) (k' : Nat) (h_1 : Heap), appendH Tryz.Y h 57 57 (.sl a l c k) (.ts [.i .u8 n, .i .u8 n] 1 (some 1)) = some (.sl a' l' c' k', h_1) ∧
            K .normal 81 [.s s, .i .i64 (IntKind.i64.wrap ((i : Nat) + n_1)), .undef, .sl none 0 (some 0) 0, .undef, .undef, .sl a' l' c' k', .i .i64 n_1] h_1)) := by
    intro hn
    simp only [setS, hn, if_false] at hg
    have hc := ritem_con s i (by omega) (by omega)
    have nilz : ∀ h : Heap, Frz h (.sl none 0 (some 0) 0) (lst encS []) := fun h => frz_nil encS h _ _
    -- one more span
    have more : ∀ (x : Span) (j : Nat) (w9 : V), i < j → j ≤ s.length → setS m s j (out ++ [x]) = R → ∃ (a' : Option (Nat × Nat)) (l' : Nat) (c' : Option Nat) (k' : Nat) (h_1 : Heap), appendH Tryz.Y h 57 57 (.sl a l c k) (.ts [.i .u8 x.lo, .i .u8 x.hi] 1 (some 1)) = some (.sl a' l' c' k', h_1) ∧
            K .normal 81 [.s s, .i .i64 (j : Nat), .undef, .sl none 0 (some 0) 0, .undef, .undef, .sl a' l' c' k', w9] h_1 := by
      intro x j w9 h1 h2 h3
      obtain ⟨a', l', c', k', h', q1, q2, _⟩ := span_app x hL (by omega)
      refine ⟨a', l', c', k', h', q1, ?_⟩
      subst hK
      exact ⟨rfl, m, by omega, j, out ++ [x], a', l', c', k', w9, rfl, q2, h2, by simp; omega, by omega, h3⟩
    cases he : endS s i with
    | error e =>
      have hi1 : itemS s i = .error e := by simp only [itemS, he]
      rw [hi1] at hg
      have hr : ritemR s i = .tup [.i .u8 0, .i .i64 (-1), .i .i64 (e : Nat)] := by simp only [ritemR, he]
      rw [hr] at hc
      refine ⟨_, _, _, hc, if_lt (fun _ => stop _ _ _ _ _ _ _ _ _ _ _ _ (nilz _) ?_) (fun h => by omega)⟩
      subst hg; rfl
    | ok y =>
      obtain ⟨lo, j⟩ := y
      have hj := endS_ok he
      have hr : ritemR s i = .tup [.i .u8 lo, .i .i64 (j - i : Nat), .i .i64 0] := by simp only [ritemR, he]
      rw [hr] at hc
      have hwj : IntKind.i64.wrap (((i : Nat) : Int) + ((j - i : Nat) : Int)) = (j : Nat) := by rw [wrap_ok (by omega) (by omega)]; omega
      refine ⟨lo, ((j - i : Nat) : Int), 0, hc, if_lt (fun h => by omega) (fun _ => ?_)⟩
      rw [hwj]
      refine if_lt_nat (fun hjl => ?_) (fun hjg => ?_)
      · refine ⟨s[j], ⟨by omega, by simp [hjl]⟩, ?_⟩
        rw [show (45 : Int) = (((45 : UInt8).toNat : Nat) : Int) by decide, u8_lit]
        refine if_dec (fun c45 => ?_) (fun c45 => ?_)
        · have h45 : s[j]? = some 45 := by rw [← c45]; simp [hjl]
          have hc2 := ritem_con s (j + 1) (by omega) (by omega)
          rw [wrap_succ (by omega)]
          cases he2 : endS s (j + 1) with
          | error e =>
            have hi1 : itemS s i = .error e := by simp only [itemS, he, h45, if_true, he2]
            rw [hi1] at hg
            have hr2 : ritemR s (j + 1) = .tup [.i .u8 0, .i .i64 (-1), .i .i64 (e : Nat)] := by simp only [ritemR, he2]
            rw [hr2] at hc2
            refine ⟨_, _, _, hc2, if_lt (fun _ => stop _ _ _ _ _ _ _ _ _ _ _ _ (nilz _) ?_) (fun h => by omega)⟩
            subst hg; rfl
          | ok y =>
            obtain ⟨hi2, k2⟩ := y
            have hk := endS_ok he2
            have hr2 : ritemR s (j + 1) = .tup [.i .u8 hi2, .i .i64 (k2 - (j + 1) : Nat), .i .i64 0] := by simp only [ritemR, he2]
            rw [hr2] at hc2
            refine ⟨hi2, ((k2 - (j + 1) : Nat) : Int), 0, hc2, if_lt (fun h => by omega) (fun _ => if_lt (fun hlt => ?_) (fun hge => ?_))⟩
            · have hi1 : itemS s i = .error (k2 - 1) := by simp only [itemS, he, h45, if_true, he2, hlt]
              rw [hi1] at hg
              rw [show IntKind.i64.wrap (((j : Nat) : Int) + ((k2 - (j + 1) : Nat) : Int)) = ((k2 - 1 : Nat) : Int) by rw [wrap_ok (by omega) (by omega)]; omega]
              refine stop _ _ _ _ _ _ _ _ _ _ _ _ (nilz _) ?_
              subst hg; rfl
            · have hn : ¬ hi2 < lo := by omega
              have hi1 : itemS s i = .ok (⟨lo, hi2⟩, k2) := by simp only [itemS, he, h45, if_true, he2, hn, if_false]
              rw [hi1] at hg
              rw [show IntKind.i64.wrap (((j + 1 : Nat) : Int) + ((k2 - (j + 1) : Nat) : Int)) = ((k2 : Nat) : Int) by rw [wrap_ok (by omega) (by omega)]; omega]
              exact more ⟨lo, hi2⟩ k2 _ (by omega) (by omega) hg
        · have h45 : ¬ s[j]? = some 45 := by simp [hjl, c45]
          have hi1 : itemS s i = .ok (⟨lo, lo⟩, j) := by simp only [itemS, he, h45, if_false]
          rw [hi1] at hg
          exact more ⟨lo, lo⟩ j _ (by omega) (by omega) hg
      · have h45 : ¬ s[j]? = some 45 := by rw [List.getElem?_eq_none hjg]; simp
        have hi1 : itemS s i = .ok (⟨lo, lo⟩, j) := by simp only [itemS, he, h45, if_false]
        rw [hi1] at hg
        exact more ⟨lo, lo⟩ j _ (by omega) (by omega) hg
  refine if_pos_nat (fun hp => ?_) (fun hz => item ?_)
  · have hne : out ≠ [] := by intro he; subst he; rw [hll] at hp; simp at hp
    refine if_lt_nat (fun hlt => ?_) (fun hge => item ?_)
    · refine ⟨s[i], ⟨by omega, by simp [hlt]⟩, ?_⟩
      rw [show (93 : Int) = (((93 : UInt8).toNat : Nat) : Int) by decide, u8_lit]
      refine if_dec (fun c93 => ?_) (fun c93 => item ?_)
      · have h93 : s[i]? = some 93 := by rw [← c93]; simp [hlt]
        simp only [setS, hne, h93, ne_eq, not_false_eq_true, and_self, if_true] at hg
        rw [wrap_succ (by omega)]
        refine stop _ _ _ _ _ _ _ _ _ _ _ _ (hL.frz (by decide) encS_len) ?_
        subst hg; rfl
      · rintro ⟨_, h1⟩; simp [hlt] at h1; exact c93 h1
    · rintro ⟨_, h1⟩; rw [List.getElem?_eq_none hge] at h1; cases h1
  · rintro ⟨h1, _⟩
    exact h1 (List.eq_nil_of_length_eq_zero (by omega))
end Go.Y

/- What the pieces of functions come to: printed by program. -/
namespace Go.Y
open Go.Proofs
set_option maxRecDepth 100000
set_option maxHeartbeats 0
theorem f103_0 (cs0 : List V) (n0 : Nat) (b1 : Bool) (h : Heap) (K : KT) : (codeP Tryz.Y (Tryz.Y.loc 103) 100 (pre (flat (bodyOf Tryz.f103))) ⟨(V.ts cs0 n0 none :: V.b b1 :: List.replicate 53 .undef), [], h⟩ (VQ [0, 1, 4, 5, 6] K)) =
  (K Out.normal 55
  [V.ts cs0 n0 none, V.b b1,
 V.lb [V.i IntKind.u64 (0 : Int), V.i IntKind.u64 (0 : Int), V.i IntKind.u64 (0 : Int), V.i IntKind.u64 (0 : Int)],
 V.p (some (h.nx, 0)), V.i IntKind.i64 (0 : Int)]
  (h.pushT (Tryz.Y.tag (25 : Nat))
 (YObj.arr
 [V.i IntKind.u64 (0 : Int), V.i IntKind.u64 (0 : Int), V.i IntKind.u64 (0 : Int), V.i IntKind.u64 (0 : Int)]
 true))) := by kernel_rfl
theorem f103_1 (cs0 : List V) (n0 : Nat) (b1 : Bool) (id5 : Nat) (x6 : Int) (h : Heap) (K : KT) : (codeP Tryz.Y (Tryz.Y.loc 103) 100 (pre (flat (loopB (post (flat (bodyOf Tryz.f103)))))) ⟨mk 55 (([0, 1, 4, 5, 6] : List Nat).zip [V.ts cs0 n0 none, V.b b1, V.lb [V.i IntKind.u64 0, V.i IntKind.u64 0, V.i IntKind.u64 0, V.i IntKind.u64 0], V.p (some (id5, 0)), V.i IntKind.i64 x6]), [], h⟩ (VQ [0, 1, 4, 5, 6, 10] K)) =
  (If (ltI x6 (256 : Int))
  (K Out.normal 55
 [V.ts cs0 n0 none, V.b b1,
 V.lb [V.i IntKind.u64 (0 : Int), V.i IntKind.u64 (0 : Int), V.i IntKind.u64 (0 : Int), V.i IntKind.u64 (0 : Int)],
 V.p (some (id5, 0)), V.i IntKind.i64 x6, V.b true]
 h)
  (K (Out.exit 0) 55
 [V.ts cs0 n0 none, V.b b1,
 V.lb [V.i IntKind.u64 (0 : Int), V.i IntKind.u64 (0 : Int), V.i IntKind.u64 (0 : Int), V.i IntKind.u64 (0 : Int)],
 V.p (some (id5, 0)), V.i IntKind.i64 x6, V.b false]
 h)) := by kernel_rfl
theorem f103_2 (cs0 : List V) (n0 : Nat) (b1 : Bool) (id5 : Nat) (x6 : Int) (h : Heap) (K : KT) : (codeP Tryz.Y (Tryz.Y.loc 103) 100 (pre (flat (blockB (post (flat (loopB (post (flat (bodyOf Tryz.f103))))))))) ⟨mk 55 (([0, 1, 4, 5, 6, 10] : List Nat).zip [V.ts cs0 n0 none, V.b b1, V.lb [V.i IntKind.u64 0, V.i IntKind.u64 0, V.i IntKind.u64 0, V.i IntKind.u64 0], V.p (some (id5, 0)), V.i IntKind.i64 x6, V.b true]), [], h⟩ (VQ [0, 1, 4, 5, 6, 7, 8, 10] K)) =
  (K Out.normal 55
  [V.ts cs0 n0 none, V.b b1,
 V.lb [V.i IntKind.u64 (0 : Int), V.i IntKind.u64 (0 : Int), V.i IntKind.u64 (0 : Int), V.i IntKind.u64 (0 : Int)],
 V.p (some (id5, 0)), V.i IntKind.i64 x6, V.b false, V.i IntKind.i64 (0 : Int), V.b true]
  h) := by kernel_rfl
theorem f103_3 (cs0 : List V) (n0 : Nat) (b1 : Bool) (id5 : Nat) (x6 : Int) (b7z4 : Bool) (x8z4 : Int) (h : Heap) (K : KT) : (codeP Tryz.Y (Tryz.Y.loc 103) 100 ((flat (loopB (post (flat (blockB (post (flat (loopB (post (flat (bodyOf Tryz.f103)))))))))))) ⟨mk 55 (([0, 1, 4, 5, 6, 7, 8, 10] : List Nat).zip [V.ts cs0 n0 none, V.b b1, V.lb [V.i IntKind.u64 0, V.i IntKind.u64 0, V.i IntKind.u64 0, V.i IntKind.u64 0], V.p (some (id5, 0)), V.i IntKind.i64 x6, V.b b7z4, V.i IntKind.i64 x8z4, V.b true]), [], h⟩ (VQ [0, 1, 4, 5, 6, 7, 8, 10] K)) =
  (If (ltI x8z4 (↑n0 : Int))
  (If b7z4
 (K Out.normal 55
 [V.ts cs0 n0 none, V.b b1,
 V.lb
 [V.i IntKind.u64 (0 : Int), V.i IntKind.u64 (0 : Int), V.i IntKind.u64 (0 : Int), V.i IntKind.u64 (0 : Int)],
 V.p (some (id5, 0)), V.i IntKind.i64 x6, V.b true,
 V.i IntKind.i64 (IntKind.i64.wrap (x8z4 + (1 : Int))), V.b true]
 h)
 (((0 : Int) ≤ x8z4 ∧ x8z4 < (↑n0 : Int)) ∧
 ∃ (n : Int),
 takeX 1 (List.drop (0 : Nat) (List.drop (x8z4.toNat * (2 : Nat)) cs0)) = some [V.i IntKind.u8 n] ∧
 If (leI (IntKind.i64.wrap n) x6)
 (((0 : Int) ≤ x8z4 ∧ x8z4 < (↑n0 : Int)) ∧
 ∃ (n : Int),
 takeX 1 (List.drop (1 : Nat) (List.drop (x8z4.toNat * (2 : Nat)) cs0)) =
 some [V.i IntKind.u8 n] ∧
 K Out.normal 55
 [V.ts cs0 n0 none, V.b b1,
 V.lb
 [V.i IntKind.u64 (0 : Int), V.i IntKind.u64 (0 : Int), V.i IntKind.u64 (0 : Int),
 V.i IntKind.u64 (0 : Int)],
 V.p (some (id5, 0)), V.i IntKind.i64 x6, V.b (leI x6 (IntKind.i64.wrap n)),
 V.i IntKind.i64 (IntKind.i64.wrap (x8z4 + (1 : Int))), V.b true]
 h)
 (K Out.normal 55
 [V.ts cs0 n0 none, V.b b1,
 V.lb
 [V.i IntKind.u64 (0 : Int), V.i IntKind.u64 (0 : Int), V.i IntKind.u64 (0 : Int),
 V.i IntKind.u64 (0 : Int)],
 V.p (some (id5, 0)), V.i IntKind.i64 x6, V.b false,
 V.i IntKind.i64 (IntKind.i64.wrap (x8z4 + (1 : Int))), V.b true]
 h)))
  (K (Out.exit 2) 55
 [V.ts cs0 n0 none, V.b b1,
 V.lb [V.i IntKind.u64 (0 : Int), V.i IntKind.u64 (0 : Int), V.i IntKind.u64 (0 : Int), V.i IntKind.u64 (0 : Int)],
 V.p (some (id5, 0)), V.i IntKind.i64 x6, V.b b7z4, V.i IntKind.i64 x8z4, V.b true]
 h)) := by kernel_rfl
theorem f103_4 (cs0 : List V) (n0 : Nat) (b1 : Bool) (id5 : Nat) (x6 : Int) (b7z4 : Bool) (h : Heap) (K : KT) : (codeP Tryz.Y (Tryz.Y.loc 103) 100 (((post (flat (blockB (post (flat (loopB (post (flat (bodyOf Tryz.f103))))))))).drop 1)) ⟨mk 55 (([0, 1, 4, 5, 6, 7] : List Nat).zip [V.ts cs0 n0 none, V.b b1, V.lb [V.i IntKind.u64 0, V.i IntKind.u64 0, V.i IntKind.u64 0, V.i IntKind.u64 0], V.p (some (id5, 0)), V.i IntKind.i64 x6, V.b b7z4]), [], h⟩ (VQ [0, 1, 4, 5, 6] K)) =
  (If (!b7z4 == b1)
  (((64 : Int) = (0 : Int) → False) ∧
 ((64 : Int) = (0 : Int) → False) ∧
 ((0 : Int) ≤ IntKind.i64.wrap (x6.tdiv (64 : Int)) ∧ IntKind.i64.wrap (x6.tdiv (64 : Int)) < (↑(4 : Nat) : Int)) ∧
 ∃ (n : Int),
 hcells h id5 ((0 : Nat) + (IntKind.i64.wrap (x6.tdiv (64 : Int))).toNat * (1 : Nat)) 1 =
 some [V.i IntKind.u64 n] ∧
 ((64 : Int) = (0 : Int) → False) ∧
 (0 : Int) ≤ x6.tmod (64 : Int) ∧
 ((0 : Int) ≤ IntKind.i64.wrap (x6.tdiv (64 : Int)) ∧
 IntKind.i64.wrap (x6.tdiv (64 : Int)) < (↑(4 : Nat) : Int)) ∧
 ∃ (h_1 : Heap),
 hstore h id5 ((0 : Nat) + (IntKind.i64.wrap (x6.tdiv (64 : Int))).toNat * (1 : Nat))
 [V.i IntKind.u64
 (IntKind.u64.wrap
 (↑(BitVec.ofInt IntKind.u64.bits n |||
 BitVec.ofInt IntKind.u64.bits
 (IntKind.u64.wrap
 ((1 : Int) *
 (2 : Int) ^ min (x6.tmod (64 : Int)).toNat IntKind.u64.bits))).toNat :
 Int))] =
 some h_1 ∧
 K Out.normal 55
 [V.ts cs0 n0 none, V.b b1,
 V.lb
 [V.i IntKind.u64 (0 : Int), V.i IntKind.u64 (0 : Int), V.i IntKind.u64 (0 : Int),
 V.i IntKind.u64 (0 : Int)],
 V.p (some (id5, 0)), V.i IntKind.i64 x6]
 h_1)
  (K Out.normal 55
 [V.ts cs0 n0 none, V.b b1,
 V.lb [V.i IntKind.u64 (0 : Int), V.i IntKind.u64 (0 : Int), V.i IntKind.u64 (0 : Int), V.i IntKind.u64 (0 : Int)],
 V.p (some (id5, 0)), V.i IntKind.i64 x6]
 h)) := by kernel_rfl
theorem f103_5 (cs0 : List V) (n0 : Nat) (b1 : Bool) (id5 : Nat) (x6 : Int) (h : Heap) (K : KT) : (codeP Tryz.Y (Tryz.Y.loc 103) 100 (((post (flat (loopB (post (flat (bodyOf Tryz.f103)))))).drop 1)) ⟨mk 55 (([0, 1, 4, 5, 6] : List Nat).zip [V.ts cs0 n0 none, V.b b1, V.lb [V.i IntKind.u64 0, V.i IntKind.u64 0, V.i IntKind.u64 0, V.i IntKind.u64 0], V.p (some (id5, 0)), V.i IntKind.i64 x6]), [], h⟩ (VQ [0, 1, 4, 5, 6] K)) =
  (K Out.normal 55
  [V.ts cs0 n0 none, V.b b1,
 V.lb [V.i IntKind.u64 (0 : Int), V.i IntKind.u64 (0 : Int), V.i IntKind.u64 (0 : Int), V.i IntKind.u64 (0 : Int)],
 V.p (some (id5, 0)), V.i IntKind.i64 (IntKind.i64.wrap (x6 + (1 : Int)))]
  h) := by kernel_rfl
theorem f103_6 (id5 : Nat) (h : Heap) (K : KT) : (codeP Tryz.Y (Tryz.Y.loc 103) 100 (((post (flat (bodyOf Tryz.f103))).drop 1)) ⟨mk 55 (([4, 5] : List Nat).zip [V.lb [V.i IntKind.u64 0, V.i IntKind.u64 0, V.i IntKind.u64 0, V.i IntKind.u64 0], V.p (some (id5, 0))]), [], h⟩ (VQ [4] K)) =
  (∃ (n : Int),
  ∃ (n_1 : Int),
 ∃ (n_2 : Int),
 ∃ (n_3 : Int),
 hcells h id5 0 4 =
 some [V.i IntKind.u64 n, V.i IntKind.u64 n_1, V.i IntKind.u64 n_2, V.i IntKind.u64 n_3] ∧
 K Out.ret 55
 [V.lb [V.i IntKind.u64 n, V.i IntKind.u64 n_1, V.i IntKind.u64 n_2, V.i IntKind.u64 n_3]] h) := by kernel_rfl
theorem f96_0 (x0 : Int) (h : Heap) (K : KT) : (codeP Tryz.Y (Tryz.Y.loc 96) 100 ((flat (bodyOf Tryz.f96))) ⟨(V.i IntKind.u8 x0 :: List.replicate 10 .undef), [], h⟩ (VQ [2] K)) =
  (((64 : Int) = (0 : Int) → False) ∧
  ((64 : Int) = (0 : Int) → False) ∧
 (0 : Int) ≤ x0.tmod (64 : Int) ∧
 ((0 : Int) ≤ IntKind.u8.wrap (x0.tdiv (64 : Int)) ∧ IntKind.u8.wrap (x0.tdiv (64 : Int)) < (↑(4 : Nat) : Int)) ∧
 ∃ (h_1 : Heap),
 hstore
 (h.pushT (Tryz.Y.tag (25 : Nat))
 (YObj.arr
 [V.i IntKind.u64 (0 : Int), V.i IntKind.u64 (0 : Int), V.i IntKind.u64 (0 : Int),
 V.i IntKind.u64 (0 : Int)]
 true))
 h.nx ((0 : Nat) + (IntKind.u8.wrap (x0.tdiv (64 : Int))).toNat * (1 : Nat))
 [V.i IntKind.u64
 (IntKind.u64.wrap ((1 : Int) * (2 : Int) ^ min (x0.tmod (64 : Int)).toNat IntKind.u64.bits))] =
 some h_1 ∧
 ∃ (n : Int),
 ∃ (n_1 : Int),
 ∃ (n_2 : Int),
 ∃ (n_3 : Int),
 hcells h_1 h.nx 0 4 =
 some [V.i IntKind.u64 n, V.i IntKind.u64 n_1, V.i IntKind.u64 n_2, V.i IntKind.u64 n_3] ∧
 K Out.ret 11
 [V.lb [V.i IntKind.u64 n, V.i IntKind.u64 n_1, V.i IntKind.u64 n_2, V.i IntKind.u64 n_3]] h_1) := by kernel_rfl
end Go.Y

/- Sets of bytes of the document, by their contracts: souffleurref04.One and Of. -/
namespace Go.Y
open Go.Proofs
set_option maxRecDepth 100000
set_option maxHeartbeats 1000000

abbrev setC (s : S4) : List V := [.i .u64 s.1, .i .u64 s.2.1, .i .u64 s.2.2.1, .i .u64 s.2.2.2]

theorem u8_wrap {n : Nat} (h : n < 256) : IntKind.u8.wrap (n : Int) = (n : Int) := by
  simp only [IntKind.wrap, IntKind.signed, IntKind.bits]
  have : ((n : Int)) % 2 ^ 8 = n := by omega
  simpa using this
theorem one_words (c : Nat) (hc : c < 256) : splice [.i .u64 0, .i .u64 0, .i .u64 0, .i .u64 0] (0 + c / 64 * 1) [V.i .u64 ((2 ^ (c % 64) : Nat) : Int)] = setC (setOf fun x => x == c) := by
  have key : ∀ k, wordS (fun x => x == c) k = if c / 64 = k then ((2 ^ (c % 64) : Nat) : Int) else 0 := by
    intro k
    rw [wordS_eq]
    split
    · next e => rw [wordP_one (b := c % 64) (by simp; omega) (by omega) (fun x h1 h2 => by simp; omega)]
    · next e => rw [wordP_zero (fun x h1 => by simp; omega)]; rfl
  have : c / 64 = 0 ∨ c / 64 = 1 ∨ c / 64 = 2 ∨ c / 64 = 3 := by omega
  simp only [setC, setOf, key]
  rcases this with e | e | e | e <;> rw [e] <;> rfl

theorem one_con (c : UInt8) : PCon Tryz.Y 96 [.i .u8 (c.toNat : Nat)] (· = .agg (setC (setOf fun x => x == c.toNat))) := by
  refine tree_con Tryz.Yok (fn := Tryz.f96) (by kernel_rfl) (by kernel_rfl) rfl (fun K => f96_0 (c.toNat : Nat) .empty K) rfl ?_
  have hc : c.toNat < 256 := c.toNat_lt
  generalize c.toNat = c at hc
  have e1 : IntKind.u8.wrap (Int.tdiv (c : Int) 64) = ((c / 64 : Nat) : Int) := by rw [tdiv64, u8_wrap (by omega)]
  have e2 : (Int.tmod (c : Int) 64).toNat = c % 64 := by rw [tmod64]; rfl
  have e3 : IntKind.u64.wrap (1 * 2 ^ min (Int.tmod (c : Int) 64).toNat IntKind.u64.bits) = ((2 ^ (c % 64) : Nat) : Int) := by rw [e2, shl_bit (by omega)]
  rw [e1, e3, tmod64]
  have hw := one_words c hc
  generalize (2 ^ (c % 64) : Nat) = y at hw
  have hst : hstore ((Heap.empty).pushT (Tryz.Y.tag 25) (.arr [.i .u64 0, .i .u64 0, .i .u64 0, .i .u64 0] true)) Heap.empty.nx (0 + (((c / 64 : Nat) : Int)).toNat * 1) [V.i .u64 (y : Nat)] = some ((((Heap.empty).pushT (Tryz.Y.tag 25) (.arr [.i .u64 0, .i .u64 0, .i .u64 0, .i .u64 0] true))).set Heap.empty.nx (some (.arr (setC (setOf fun x => x == c)) true))) := by
    rw [← hw]
    simp only [hstore, Heap.get_pushT, if_true]
    rw [Int.toNat_natCast, if_pos (by simp; omega)]
  refine ⟨by omega, by omega, by omega, ⟨by omega, by omega⟩, _, hst, _, _, _, _, (hcells_of (by rw [Heap.get_set, if_pos rfl]) 0 4).trans rfl, finV1 (.inr rfl) rfl (.agg _ _ (.cons _ _ _ _ (.i _ _) (.cons _ _ _ _ (.i _ _) (.cons _ _ _ _ (.i _ _) (.cons _ _ _ _ (.i _ _) .nil))))) rfl⟩

def ofP (l : List Span) (neg : Bool) (c : Nat) : Bool := inSpans l c != neg

structure OfW (h : Heap) (id : Nat) (p : Nat → Bool) (c : Nat) : Prop where
  get : h.get id = some (.arr (wordsTo p c) true)

theorem of_cell (l : List Span) {i : Nat} (h : i < l.length) : takeX 1 (List.drop 0 (List.drop (((i : Nat) : Int).toNat * 2) (row encS l))) = some [.i .u8 l[i].lo] ∧ takeX 1 (List.drop 1 (List.drop (((i : Nat) : Int).toNat * 2) (row encS l))) = some [.i .u8 l[i].hi] := by
  rw [Int.toNat_natCast, row_cons (f := encS) (k := 2) encS_len l h]
  exact ⟨rfl, rfl⟩

theorem of_con (l : List Span) (neg : Bool) (hl : l.length < 2 ^ 40) (hb : ∀ x ∈ l, (0 ≤ x.lo ∧ x.lo < 256) ∧ (0 ≤ x.hi ∧ x.hi < 256)) : PCon Tryz.Y 103 [lst encS l, .b neg] (· = .agg (setC (setOf (ofP l neg)))) := by
  refine pcon_of Tryz.Yok (fn := Tryz.f103) (by kernel_rfl) (by kernel_rfl) rfl ?_
  refine pre_tree Tryz.Yok 55 (fun K => f103_0 (row encS l) l.length neg .empty K) rfl (by kernel_rfl) ?_
  refine ⟨rfl, loop2 [0, 1, 4, 5, 6] [0, 1, 4, 5, 6] rfl (by kernel_rfl) (fun m vs h => ∃ c : Nat, vs = [lst encS l, .b neg, .lb [.i .u64 0, .i .u64 0, .i .u64 0, .i .u64 0], .p (some (Heap.empty.nx, 0)), .i .i64 (c : Nat)] ∧ c ≤ 256 ∧ m = 256 - c ∧ OfW h Heap.empty.nx (ofP l neg) c) 256 mk_len ⟨0, rfl, by omega, by omega, ⟨by rw [Heap.get_pushT, if_pos rfl]; rfl⟩⟩ ?_⟩
  rintro m vs h ⟨c, rfl, hc, rfl, hw⟩
  refine pre_tree Tryz.Yok 55 (fun K => f103_1 (row encS l) l.length neg Heap.empty.nx (c : Nat) h K) rfl (by kernel_rfl) ?_
  refine if_lt (fun hlt => ⟨rfl, block2 (n := 55) [0, 1, 4, 5, 6] (by kernel_rfl) ?_⟩) (fun hge => ?_)
  · have hlt : c < 256 := by omega
    refine pre_tree Tryz.Yok 55 (fun K => f103_2 (row encS l) l.length neg Heap.empty.nx (c : Nat) h K) rfl (by kernel_rfl) ?_
    refine ⟨rfl, loop2 [0, 1, 4, 5, 6, 7, 8, 10] [0, 1, 4, 5, 6, 7, 8, 10] rfl (by kernel_rfl) (fun m vs h' => ∃ i : Nat, vs = [lst encS l, .b neg, .lb [.i .u64 0, .i .u64 0, .i .u64 0, .i .u64 0], .p (some (Heap.empty.nx, 0)), .i .i64 (c : Nat), .b (inSpans (l.take i) c), .i .i64 (i : Nat), .b true] ∧ i ≤ l.length ∧ m = l.length - i ∧ h' = h) l.length mk_len ⟨0, rfl, by omega, by omega, rfl⟩ ?_⟩
    rintro m vs h' ⟨i, rfl, hi, rfl, rfl⟩
    refine all_tree Tryz.Yok (fun K => f103_3 (row encS l) l.length neg Heap.empty.nx (c : Nat) (inSpans (l.take i) c) (i : Nat) h' K) rfl ?_
    refine if_lt_nat (fun hil => ?_) (fun hig => ?_)
    · have hx := hb l[i] (List.getElem_mem hil)
      have ht : inSpans (l.take (i + 1)) c = (inSpans (l.take i) c || (decide (l[i].lo ≤ (c : Int)) && decide ((c : Int) ≤ l[i].hi))) := by
        simp only [inSpans]; rw [List.take_succ_eq_append_getElem hil, List.any_append]; simp
      have wl : IntKind.i64.wrap l[i].lo = l[i].lo := wrap_ok (by omega) (by omega)
      have wh : IntKind.i64.wrap l[i].hi = l[i].hi := wrap_ok (by omega) (by omega)
      refine if_mk (fun hm => ?_) (fun hm => ⟨bnd_nat hil, l[i].lo, (of_cell l hil).1, ?_⟩)
      · exact ⟨rfl, l.length - (i + 1), by omega, i + 1, by rw [wrap_succ (by omega), ht, hm]; rfl, by omega, rfl, rfl⟩
      rw [wl]
      refine if_le (fun h1 => ⟨bnd_nat hil, l[i].hi, (of_cell l hil).2, ?_⟩) (fun h1 => ?_)
      · rw [wh]
        refine ⟨rfl, l.length - (i + 1), by omega, i + 1, ?_, by omega, rfl, rfl⟩
        rw [wrap_succ (by omega), ht, hm]
        have e : leI (c : Int) l[i].hi = (false || (decide (l[i].lo ≤ (c : Int)) && decide ((c : Int) ≤ l[i].hi))) := by rw [decide_eq_true h1]; rfl
        rw [e]; rfl
      · refine ⟨rfl, l.length - (i + 1), by omega, i + 1, ?_, by omega, rfl, rfl⟩
        rw [wrap_succ (by omega), ht, hm, decide_eq_false (show ¬ l[i].lo ≤ (c : Int) by omega)]; rfl
    · have he : i = l.length := by omega
      subst he
      rw [List.take_length]
      refine roundW_exit [0, 1, 4, 5, 6, 7] (by kernel_rfl) rfl rfl ?_
      refine all_tree Tryz.Yok (fun K => f103_4 (row encS l) l.length neg Heap.empty.nx (c : Nat) (inSpans l c) h' K) rfl ?_
      have next : ∀ h'', OfW h'' Heap.empty.nx (ofP l neg) (c + 1) → ∀ Q, Q = VQ [0, 1, 4, 5, 6] (RoundW Tryz.Y 55 [0, 1, 4, 5, 6] [0, 1, 4, 5, 6] (fun m vs h => ∃ c : Nat, vs = [lst encS l, .b neg, .lb [.i .u64 0, .i .u64 0, .i .u64 0, .i .u64 0], .p (some (Heap.empty.nx, 0)), .i .i64 (c : Nat)] ∧ c ≤ 256 ∧ m = 256 - c ∧ OfW h Heap.empty.nx (ofP l neg) c) (256 - c) (loopId (post (flat (bodyOf Tryz.f103)))) ((post (flat (bodyOf Tryz.f103))).drop 1) (FinS Tryz.Y Tryz.f103 fun v h => ∃ r, Frz h v r ∧ r = .agg (setC (setOf (ofP l neg))))) →
          TriL Tryz.Y ((post (flat (loopB (post (flat (bodyOf Tryz.f103)))))).drop 1) ⟨mk 55 (([0, 1, 4, 5, 6] : List Nat).zip [lst encS l, .b neg, .lb [.i .u64 0, .i .u64 0, .i .u64 0, .i .u64 0], .p (some (Heap.empty.nx, 0)), .i .i64 (c : Nat)]), [], h''⟩ Q := by
        rintro h'' hw' Q rfl
        refine all_tree Tryz.Yok (fun K => f103_5 (row encS l) l.length neg Heap.empty.nx (c : Nat) h'' K) rfl ?_
        exact ⟨rfl, 256 - (c + 1), by omega, c + 1, by rw [wrap_succ (by omega)]; rfl, by omega, rfl, hw'⟩
      refine if_mk (fun hp => ?_) (fun hp => ⟨rfl, [0, 1, 4, 5, 6], rfl, next _ ⟨?_⟩ _ rfl⟩)
      · have hp : ofP l neg c = true := by unfold ofP; revert hp; cases inSpans l c <;> cases neg <;> simp
        have e1 : IntKind.i64.wrap (Int.tdiv (c : Int) 64) = ((c / 64 : Nat) : Int) := by rw [tdiv64, wrap_ok (by omega) (by omega)]
        have e2 : (Int.tmod (c : Int) 64).toNat = c % 64 := by rw [tmod64]; rfl
        rw [e1, tmod64]
        have hlo := wordP_lt (ofP l neg) (c / 64) (c % 64)
        refine ⟨by omega, by omega, ⟨by omega, by omega⟩, _, (hcells_of hw.get _ _).trans (words_get _ hlt), by omega, by omega, ⟨by omega, by omega⟩, ?_⟩
        have hor := or_bit hlo (show c % 64 < 64 by omega)
        rw [Int.toNat_natCast, Int.toNat_natCast, hor]
        refine ⟨h'.set Heap.empty.nx (some (.arr (wordsTo (ofP l neg) (c + 1)) true)), ?_, ⟨rfl, [0, 1, 4, 5, 6], rfl, next _ ⟨by rw [Heap.get_set, if_pos rfl]⟩ _ rfl⟩⟩
        rw [← words_yes _ hlt hp]
        simp only [hstore, hw.get]
        rw [if_pos (by simp [wordsTo]; omega)]
      · have hp : ofP l neg c = false := by unfold ofP; revert hp; cases inSpans l c <;> cases neg <;> simp
        rw [words_no _ hlt hp]; exact hw.get
  · have he : c = 256 := by omega
    subst he
    refine at_pick rfl (roundW_exit [4, 5] (by kernel_rfl) rfl rfl ?_)
    refine end_tree Tryz.Yok (fun K => f103_6 Heap.empty.nx h K) rfl ?_
    exact ⟨_, _, _, _, (hcells_of hw.get 0 4).trans rfl, finV1 (.inr rfl) rfl (.agg _ _ (.cons _ _ _ _ (.i _ _) (.cons _ _ _ _ (.i _ _) (.cons _ _ _ _ (.i _ _) (.cons _ _ _ _ (.i _ _) .nil))))) rfl⟩
end Go.Y
