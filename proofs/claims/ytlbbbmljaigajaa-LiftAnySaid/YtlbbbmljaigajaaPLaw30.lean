/- The laws of layer 30, as statements about lists, and for the abstract machine. -/
import Derived.Test.YtlbbbmljaigajaaYLaw30
import Derived.Test.YtlbbbmljaigajaaPRup
namespace Go.Y
open Go.Proofs
set_option maxRecDepth 100000

/-! ### Up against the reference -/
theorem upG_run {x : Choice} (hk : x.k = 7) (hn : x.n = 0) : ∀ (r : List Choice) (t : Nat) (out : List Choice), 0 < t → upG r x t out = upG (r.drop (runOf x r)) x (t + runOf x r) out
  | [], t, out, _ => by simp [runOf]
  | y :: r, t, out, ht => by
    by_cases he : y = x
    · subst he
      simp only [runOf, if_true, List.drop_succ_cons]
      rw [upG]
      simp only [hk, hn, beq_self_eq_true, Bool.and_true, Bool.not_true, Bool.and_false, Bool.false_eq_true, if_false, if_true]
      rw [upG_run hk hn r (t + 1) out (by omega)]
      congr 1; omega
    · simp [runOf, he]

theorem up_eq : ∀ (n : Nat) (l : List Choice) (pv : Choice) (out : List Choice), l.length ≤ n → upG l pv 0 out = rupG n l out
  | 0, l, pv, out, h => by
    have : l = [] := List.length_eq_zero_iff.1 (by omega)
    subst this; rfl
  | n + 1, [], pv, out, h => rfl
  | n + 1, x :: r, pv, out, h => by
    simp only [List.length_cons, Nat.add_le_add_iff_right] at h
    rw [upG, rupG]
    by_cases h7 : x.k = 7
    · by_cases hn : x.n = 0
      · have e1 : (x.k == 7 && x.n == 0) = true := by simp [h7, hn]
        have e2 : (x.k == 8 || x.k == 5 && x.n != 0) = false := by simp [h7]
        have e3 : (x.k != 7) = false := by simp [h7]
        have e4 : (x.n != 0) = false := by simp [hn]
        rw [e1, e2, e3]
        simp only [e4, Nat.lt_irrefl, decide_false, Bool.false_and, Bool.false_eq_true, if_false, if_true]
        rw [upG_run h7 hn r (0 + 1) out (by omega), Nat.add_comm (0 + 1) (runOf x r), Nat.zero_add]
        have hrl := runOf_le x r
        have hhead : ∀ y r', r.drop (runOf x r) = y :: r' → y ≠ x := by
          clear h h7 hn e1 e2 e3 e4 hrl
          induction r with
          | nil => intro y r' e; simp at e
          | cons z r ih =>
            intro y r' e
            by_cases hz : z = x
            · simp only [runOf, hz, if_true, List.drop_succ_cons] at e; exact ih y r' e
            · simp only [runOf, hz, if_false, List.drop_zero, List.cons.injEq] at e
              rw [← e.1]; exact hz
        cases hd : r.drop (runOf x r) with
        | nil => rw [upG]; simp
        | cons y r' =>
          have hyx := hhead y r' hd
          have hlen : r'.length ≤ n := by
            have := congrArg List.length hd
            simp at this; omega
          rw [upG]
          by_cases hy : y = ⟨8, x.p, 0⟩
          · subst hy
            simp [up_eq n r' _ _ hlen]
          · have hxe : ∀ {a : Choice}, a = x ↔ a.k = 7 ∧ a.p = x.p ∧ a.n = 0 := by
              intro a; cases a; cases x; simp_all
            have hye : ∀ {a : Choice}, a = ⟨8, x.p, 0⟩ ↔ a.k = 8 ∧ a.p = x.p ∧ a.n = 0 := by
              intro a; cases a; simp
            have hyx : ¬ (y.k = 7 ∧ y.p = x.p ∧ y.n = 0) := fun h => hyx (hxe.2 h)
            simp only [hy, if_false]
            rw [hye] at hy
            simp only [h7, hn]
            by_cases y7 : y.k = 7
            · by_cases y0 : y.n = 0
              · simp [y7, y0]
                intro hp
                exact absurd ⟨y7, hp.symm, y0⟩ hyx
              · simp [y7, y0]
            · by_cases y8 : y.k = 8
              · simp [y8]
                by_cases y0 : y.n = 0
                · simp [y0]
                  intro hp
                  exact absurd ⟨y8, hp.symm, y0⟩ hy
                · simp [y0]
              · simp [y7, y8]
      · simp [h7, hn]
    · by_cases h8 : x.k = 8
      · simp [h8]
      · by_cases h5 : x.k = 5
        · by_cases hn : x.n = 0
          · simp [h5, hn, up_eq n r _ _ h]
          · simp [h5, hn]
        · simp [h7, h8, h5, up_eq n r _ _ h]

/-! ### There and back -/
def dn (x : Choice) : List Choice := if x.k != 5 || x.n == 0 then [x] else takes x.n.toNat x.p ++ [⟨8, x.p, 0⟩]

theorem down_flat : ∀ (l out : List Choice), downG l out = out ++ l.flatMap dn
  | [], out => by simp [downG]
  | x :: r, out => by
    rw [downG]
    split
    · rename_i h; rw [down_flat r]; simp [dn, h]
    · rename_i h; rw [down_flat r]; simp [dn, h]

theorem upG_takes (p : Int) (r : List Choice) : ∀ (m : Nat) (pv : Choice) (t : Nat) (out : List Choice), (t = 0 ∨ pv = ⟨7, p, 0⟩) → upG (takes m p ++ r) pv t out = upG r (if m = 0 then pv else ⟨7, p, 0⟩) (t + m) out
  | 0, pv, t, out, _ => by simp [takes]
  | m + 1, pv, t, out, h => by
    have e : takes (m + 1) p ++ r = ⟨7, p, 0⟩ :: (takes m p ++ r) := by simp [takes, List.replicate_succ]
    rw [e, upG]
    have h1 : (decide (0 < t) && !(pv.k == 7 && (pv.p == p && (pv.n == 0 && true)))) = false := by
      rcases h with rfl | rfl <;> simp
    simp only [beq_self_eq_true, Bool.and_self, if_true, h1, Bool.false_eq_true, if_false]
    rw [upG_takes p r m _ (t + 1) out (.inr rfl)]
    have : t + 1 + m = t + (m + 1) := by omega
    rw [this]
    simp

theorem up_down : ∀ (l : List Choice) (pv : Choice) (out : List Choice), l.all plainB = true → upG (l.flatMap dn) pv 0 out = (out ++ l, true)
  | [], pv, out, _ => by simp [upG]
  | x :: r, pv, out, h => by
    rw [List.all_cons, Bool.and_eq_true] at h
    rw [List.flatMap_cons]
    have h7 : x.k ≠ 7 := fun e => by simp [plainB, e] at h
    have h8 : x.k ≠ 8 := fun e => by simp [plainB, e] at h
    by_cases hc : (x.k != 5 || x.n == 0) = true
    · simp only [dn, hc, if_true, List.singleton_append]
      rw [upG]
      have h5 : (x.k == 5 && x.n != 0) = false := by
        cases h5 : x.k == 5 <;> simp_all
      have h7' : (x.k == 7) = false := by simpa using h7
      have h8' : (x.k == 8) = false := by simpa using h8
      simp only [h7', h8', h5, Bool.false_and, Bool.false_eq_true, if_false, Nat.lt_irrefl, decide_false, beq_self_eq_true, Bool.not_true, Bool.or_self]
      rw [up_down r _ _ h.2]; simp
    · have hc : (x.k != 5 || x.n == 0) = false := by simpa using hc
      simp only [dn, hc, Bool.false_eq_true, if_false, List.append_assoc]
      have h5 : x.k = 5 := by simp at hc; exact hc.1
      have hn : 0 < x.n := by
        have := h.1
        simp [plainB, h5, ltI] at this hc
        omega
      rw [upG_takes _ _ _ _ _ _ (.inl rfl)]
      have hm : x.n.toNat ≠ 0 := by omega
      simp only [hm, if_false, List.singleton_append]
      rw [upG]
      have e : ((0 + x.n.toNat : Nat) : Int) = x.n := by omega
      simp only [e]
      have hx : (⟨5, x.p, x.n⟩ : Choice) = x := by cases x; simp_all
      simp [hx, hm, up_down r _ _ h.2]
      omega

theorem down_up : ∀ (l : List Choice) (pv : Choice) (t : Nat) (out u : List Choice), upG l pv t out = (u, true) → (0 < t → pv = ⟨7, pv.p, 0⟩) → t + l.length ≤ 64 → out.all plainB = true →
    u.all plainB = true ∧ u.flatMap dn = out.flatMap dn ++ takes t pv.p ++ l
  | [], pv, t, out, u, h, hp, hl, ho => by
    rw [upG] at h
    split at h
    · simp at h
    · have : t = 0 := by omega
      subst this
      simp at h; subst h
      exact ⟨ho, by simp [takes]⟩
  | x :: r, pv, t, out, u, h, hp, hl, ho => by
    simp only [List.length_cons] at hl
    rw [upG] at h
    split at h
    · rename_i hx
      have hxe : x = ⟨7, x.p, 0⟩ := by cases x; simp_all
      split at h
      · simp at h
      · rename_i hne
        obtain ⟨g1, g2⟩ := down_up r x (t + 1) out u h (fun _ => hxe) (by omega) ho
        refine ⟨g1, ?_⟩
        rw [g2, ← takes_succ]
        rcases Nat.eq_zero_or_pos t with h0 | h0
        · subst h0
          simp [takes, ← hxe]
        · have := hp h0
          rw [this] at hne
          have hpp : pv.p = x.p := by
            rw [hxe] at hne
            simpa [h0] using hne
          rw [hpp, ← hxe]; simp
    · rename_i hx7
      split at h
      · simp at h
      · rename_i hc
        simp only [Bool.or_eq_true, not_or, Bool.not_eq_true] at hc
        obtain ⟨⟨hc1, hc2⟩, hc3⟩ := hc
        split at h
        · rename_i h8
          split at h
          · simp at h
          · rename_i hd
            simp only [Bool.or_eq_true, not_or, Bool.not_eq_true] at hd
            have h8' : x.k = 8 := by simpa using h8
            have ht : 0 < t := by simpa [h8'] using hc3
            have hxn : x.n = 0 := by simpa using hd.1
            have hxp : pv.p = x.p := by simpa using hd.2
            have hxe : x = ⟨8, x.p, 0⟩ := by cases x; simp_all
            have hpl : plainB ⟨5, x.p, t⟩ = true := by simp [plainB, ltI]; omega
            obtain ⟨g1, g2⟩ := down_up r x 0 (out ++ [⟨5, x.p, t⟩]) u h (fun h => absurd h (by omega)) (by omega) (by simp [ho, hpl])
            refine ⟨g1, ?_⟩
            rw [g2, List.flatMap_append]
            have hdn : dn ⟨5, x.p, t⟩ = takes t x.p ++ [x] := by
              have : ¬ ((5 : Int) != 5 || (t : Int) == 0) = true := by simp; omega
              simp only [dn, this, Int.toNat_natCast]
              rw [← hxe]; rfl
            simp [hdn, takes, hxp]
        · rename_i h8
          have h8' : (x.k == 8) = false := by simpa using h8
          have ht : t = 0 := by
            rw [h8'] at hc3
            simp at hc3; omega
          subst ht
          have hpl : plainB x = true := by
            cases h5 : x.k == 5 with
            | false => simp [plainB, hc1, h8', h5]
            | true =>
              rw [h5] at hc2
              have : x.n = 0 := by simpa using hc2
              simp [plainB, hc1, h8', this, ltI]
          obtain ⟨g1, g2⟩ := down_up r x 0 (out ++ [x]) u h (fun h => absurd h (by omega)) (by omega) (by simp [ho, hpl])
          refine ⟨g1, ?_⟩
          rw [g2, List.flatMap_append]
          have hdn : dn x = [x] := by
            have : (x.k != 5 || x.n == 0) = true := by
              cases h5 : x.k == 5 <;> simp_all
            simp [dn, this]
          simp [hdn, takes]

theorem dn_len {x : Choice} (h : plainB x = true) : (dn x).length ≤ 65 := by
  unfold dn
  split
  · simp
  · rename_i hc
    have h5 : x.k = 5 := by simp at hc; exact hc.1
    simp [plainB, h5, ltI] at h
    simp [takes]; omega
theorem dns_len : ∀ {l : List Choice}, l.all plainB = true → (l.flatMap dn).length ≤ 65 * l.length
  | [], _ => by simp
  | x :: r, h => by
    rw [List.all_cons, Bool.and_eq_true] at h
    have h1 := dn_len h.1
    have h2 := dns_len h.2
    simp only [List.flatMap_cons, List.length_append, List.length_cons]
    omega

theorem upG_len : ∀ (l : List Choice) (pv : Choice) (t : Nat) (out : List Choice), (upG l pv t out).1.length ≤ out.length + l.length
  | [], pv, t, out => by rw [upG]; split <;> simp
  | x :: r, pv, t, out => by
    rw [upG]
    split
    · split
      · simp
      · have := upG_len r x (t + 1) out; simp only [List.length_cons]; omega
    · split
      · simp
      · split
        · split
          · simp
          · have := upG_len r x 0 (out ++ [⟨5, x.p, t⟩]); simp only [List.length_append, List.length_cons, List.length_nil] at this ⊢; omega
        · have := upG_len r x t (out ++ [x]); simp only [List.length_append, List.length_cons, List.length_nil] at this ⊢; omega

/-! ### The laws -/
theorem awake_con : PCon Try.Y 7 [] (· = .b true) := callN_ok Try.Yok (n := 40) (by kernel_rfl) rfl

theorem any_con (l : List Choice) : PCon Try.Y 3 [lst encC l] (· = .b true) := by
  refine pcon_of Try.Yok (fn := Try.f3) (by kernel_rfl) (by kernel_rfl) rfl ?_
  refine end_rule Try.Yok (loc := Try.Y.loc 3) 100 [2] ?_
  rw [show (⟨[lst encC l] ++ List.replicate (Try.f3.ntmps - [lst encC l].length) .undef, [], .empty⟩ : St) = ⟨lst encC l :: List.replicate 60 .undef, [], .empty⟩ by rfl, any_0]
  refine ⟨_, awake_con, if_mk (fun h => by cases h) (fun _ => ?_)⟩
  refine if_lt (fun h => finV1 (.inr rfl) rfl (.b _) rfl) (fun hl => ?_)
  have hl : l.length ≤ 60 := by omega
  have hu := up_con l (by omega)
  have hr := rup_con l (by omega)
  rw [← up_eq l.length l (l.getD 0 default) [] (Nat.le_refl _)] at hr
  have hd := down_con l (by omega)
  have hrd := rdown_con l (by omega)
  have hs := steps_con l (by omega)
  have hlen := upG_len l (l.getD 0 default) 0 []
  generalize upG l (l.getD 0 default) 0 [] = u at *
  refine ⟨_, _, _, _, hu, _, _, _, _, hr, ?_⟩
  unfold downR at hd hrd
  cases hall : l.all plainB with
  | true =>
    rw [hall] at hd hrd hs
    have hdl : (downG l []).length < 2 ^ 30 := by rw [down_flat]; have := dns_len hall; simp at this ⊢; omega
    refine ⟨_, _, _, _, hd, _, _, _, _, hrd, _, same_con u.1 u.1 (by simp at hlen; omega), if_mk (fun _ => ?_) (fun h => by simp at h)⟩
    refine if_mk (fun _ => ?_) (fun h => by simp at h)
    refine ⟨_, same_con (downG l []) (downG l []) hdl, if_mk (fun _ => ?_) (fun h => by simp at h)⟩
    refine if_mk (fun _ => ?_) (fun h => by simp at h)
    exact ⟨_, hs, finV1 (.inr rfl) rfl (.b _) (by simp)⟩
  | false =>
    rw [hall] at hd hrd hs
    refine ⟨_, _, _, _, hd, _, _, _, _, hrd, _, same_con u.1 u.1 (by simp at hlen; omega), if_mk (fun _ => ?_) (fun h => by simp at h)⟩
    refine if_mk (fun _ => ?_) (fun h => by simp at h)
    refine ⟨_, same_con [] [] (by simp), if_mk (fun _ => ?_) (fun h => by simp at h)⟩
    refine if_mk (fun _ => ?_) (fun h => by simp at h)
    exact ⟨_, hs, finV1 (.inr rfl) rfl (.b _) (by simp)⟩

theorem back_con (l : List Choice) : PCon Try.Y 4 [lst encC l] (· = .b true) := by
  refine pcon_of Try.Yok (fn := Try.f4) (by kernel_rfl) (by kernel_rfl) rfl ?_
  refine end_rule Try.Yok (loc := Try.Y.loc 4) 100 [2] ?_
  rw [show (⟨[lst encC l] ++ List.replicate (Try.f4.ntmps - [lst encC l].length) .undef, [], .empty⟩ : St) = ⟨lst encC l :: List.replicate 52 .undef, [], .empty⟩ by rfl, back_0]
  refine ⟨_, awake_con, if_mk (fun h => by cases h) (fun _ => ?_)⟩
  refine if_lt (fun h => finV1 (.inr rfl) rfl (.b _) rfl) (fun hl => ?_)
  have hl : l.length ≤ 60 := by omega
  have hu := up_con l (by omega)
  have hd := down_con l (by omega)
  have hlen := upG_len l (l.getD 0 default) 0 []
  have key := down_up l (l.getD 0 default) 0 [] (upG l (l.getD 0 default) 0 []).1
  generalize hU : upG l (l.getD 0 default) 0 [] = u at *
  obtain ⟨u, ok⟩ := u
  simp at hlen
  unfold downR at hd
  -- choices out of the moves that are whole
  have tail : ∀ b, b = ok → (b = true → ∃ (cs_3 : List V) (l_1 : Nat) (c_1 : Option Nat) (b : Bool), (PCon Try.Y 10 [lst encC u] fun v => v = V.tup [V.ts cs_3 l_1 c_1, V.b b]) ∧
      If b (∃ b, (PCon Try.Y 12 [V.ts cs_3 l_1 c_1, lst encC l] fun v => v = V.b b) ∧ Fin Try.Y Try.f4 [2] (fun v h => ∃ r, Frz h v r ∧ r = V.b true) Out.ret 53 [V.b b] Heap.empty) (Fin Try.Y Try.f4 [2] (fun v h => ∃ r, Frz h v r ∧ r = V.b true) Out.ret 53 [V.b false] Heap.empty)) := by
    intro b hb h1
    subst hb h1
    obtain ⟨g1, g2⟩ := key rfl (fun h => absurd h (by omega)) (by omega) rfl
    simp [takes] at g2
    have hdu := down_con u (by omega)
    unfold downR at hdu
    rw [g1, if_pos rfl, down_flat, List.nil_append, g2] at hdu
    exact ⟨_, _, _, _, hdu, if_mk (fun _ => ⟨_, same_con l l (by omega), finV1 (.inr rfl) rfl (.b _) (by simp)⟩) (fun h => by cases h)⟩
  cases hall : l.all plainB with
  | true =>
    rw [hall] at hd
    refine ⟨_, _, _, _, hd, if_mk (fun _ => ?_) (fun h => by cases h)⟩
    have hdl : (downG l []).length ≤ 65 * l.length := by rw [down_flat]; simpa using dns_len hall
    have hud := up_con (downG l []) (by omega)
    rw [down_flat, List.nil_append, up_down l _ _ hall, List.nil_append, ← List.nil_append (l.flatMap dn), ← down_flat] at hud
    refine ⟨_, _, _, _, hud, if_mk (fun h => by cases h) (fun _ => ?_)⟩
    refine ⟨_, same_con l l (by omega), if_mk (fun h => by simp at h) (fun _ => ?_)⟩
    refine ⟨_, _, _, _, hu, if_mk (fun _ => finV1 (.inr rfl) rfl (.b _) rfl) (fun h => ?_)⟩
    exact tail _ rfl (by simpa using h)
  | false =>
    rw [hall] at hd
    refine ⟨_, _, _, _, hd, if_mk (fun h => by cases h) (fun _ => ?_)⟩
    refine ⟨_, _, _, _, hu, if_mk (fun _ => finV1 (.inr rfl) rfl (.b _) rfl) (fun h => ?_)⟩
    exact tail _ rfl (by simpa using h)
end Go.Y
