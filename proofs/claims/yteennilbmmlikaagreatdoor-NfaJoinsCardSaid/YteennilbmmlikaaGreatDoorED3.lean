/- The ends of row and alt: printed by program. -/
import Derived.Test.YteennilbmmlikaaGreatDoorYTryzP
import Derived.Test.YteennilbmmlikaaGreatDoorYLoop
import Derived.Test.YteennilbmmlikaaGreatDoorGSpanC
import Derived.Test.YteennilbmmlikaaGreatDoorED1
namespace Go.Y
open Go.Proofs
set_option maxRecDepth 100000
set_option maxHeartbeats 0
theorem f27_2 (j l : Nat) (c : Option Nat) (k : Nat) (h : Heap) (K : KT) : (codeP Tryz.Y (Tryz.Y.loc 27) 100 (((post (flat (bodyOf Tryz.f27))).drop 1)) ⟨mk 33 (([4, 5] : List Nat).zip [V.lb [V.i IntKind.i64 0, V.i IntKind.u64 0, V.i IntKind.u64 0, V.i IntKind.u64 0, V.i IntKind.u64 0, V.sl none 0 (some 0) 0, V.i IntKind.i64 0, V.i IntKind.i64 0, V.i IntKind.i64 0], V.sl (some (j, 0)) l c k]), [], h⟩ (VQ [4] K)) =
  (If ((↑l : Int) == (1 : Int))
  (((0 : Int) ≤ (0 : Int) ∧ (0 : Int) < (↑l : Int)) ∧
 k = 9 ∧
 ∃ (n : Int),
 ∃ (n_1 : Int),
 ∃ (n_2 : Int),
 ∃ (n_3 : Int),
 ∃ (n_4 : Int),
 ∃ (cs : List V),
 ∃ (l : Nat),
 ∃ (c : Option Nat),
 ∃ (n_5 : Int),
 ∃ (n_6 : Int),
 ∃ (n_7 : Int),
 hcells h j (0) (9) =
 some
 [V.i IntKind.i64 n, V.i IntKind.u64 n_1, V.i IntKind.u64 n_2, V.i IntKind.u64 n_3,
 V.i IntKind.u64 n_4, V.ts cs l c, V.i IntKind.i64 n_5, V.i IntKind.i64 n_6,
 V.i IntKind.i64 n_7] ∧
 K Out.ret (33)
 [V.lb
 [V.i IntKind.i64 n, V.i IntKind.u64 n_1, V.i IntKind.u64 n_2, V.i IntKind.u64 n_3,
 V.i IntKind.u64 n_4, V.ts cs l c, V.i IntKind.i64 n_5, V.i IntKind.i64 n_6,
 V.i IntKind.i64 n_7]]
 h)
  (K Out.ret (33)
 [V.lb
 [V.i IntKind.i64 (5 : Int), V.i IntKind.u64 (0 : Int), V.i IntKind.u64 (0 : Int), V.i IntKind.u64 (0 : Int),
 V.i IntKind.u64 (0 : Int), V.sl (some (j, 0)) l c k, V.i IntKind.i64 (0 : Int),
 V.i IntKind.i64 (0 : Int), V.i IntKind.i64 (0 : Int)]]
 h)) := by kernel_rfl
theorem f67_2 (j l : Nat) (c : Option Nat) (k : Nat) (h : Heap) (K : KT) : (codeP Tryz.Y (Tryz.Y.loc 67) 100 (((post (flat (bodyOf Tryz.f67))).drop 1)) ⟨mk 65 (([4, 5] : List Nat).zip [V.lb [V.i IntKind.i64 0, V.i IntKind.u64 0, V.i IntKind.u64 0, V.i IntKind.u64 0, V.i IntKind.u64 0, V.sl none 0 (some 0) 0, V.i IntKind.i64 0, V.i IntKind.i64 0, V.i IntKind.i64 0], V.sl (some (j, 0)) l c k]), [], h⟩ (VQ [4] K)) =
  (If ((↑l : Int) == (0 : Int))
  (K Out.ret (65)
 [V.lb
 [V.i IntKind.i64 (0 : Int), V.i IntKind.u64 (0 : Int), V.i IntKind.u64 (0 : Int), V.i IntKind.u64 (0 : Int),
 V.i IntKind.u64 (0 : Int), V.sl none (0) (some (0)) (0), V.i IntKind.i64 (0 : Int),
 V.i IntKind.i64 (0 : Int), V.i IntKind.i64 (0 : Int)]]
 h)
  (If ((↑l : Int) == (1 : Int))
 (((0 : Int) ≤ (0 : Int) ∧ (0 : Int) < (↑l : Int)) ∧
 k = 9 ∧
 ∃ (n : Int),
 ∃ (n_1 : Int),
 ∃ (n_2 : Int),
 ∃ (n_3 : Int),
 ∃ (n_4 : Int),
 ∃ (cs : List V),
 ∃ (l : Nat),
 ∃ (c : Option Nat),
 ∃ (n_5 : Int),
 ∃ (n_6 : Int),
 ∃ (n_7 : Int),
 hcells h j (0) (9) =
 some
 [V.i IntKind.i64 n, V.i IntKind.u64 n_1, V.i IntKind.u64 n_2, V.i IntKind.u64 n_3,
 V.i IntKind.u64 n_4, V.ts cs l c, V.i IntKind.i64 n_5, V.i IntKind.i64 n_6,
 V.i IntKind.i64 n_7] ∧
 K Out.ret (65)
 [V.lb
 [V.i IntKind.i64 n, V.i IntKind.u64 n_1, V.i IntKind.u64 n_2, V.i IntKind.u64 n_3,
 V.i IntKind.u64 n_4, V.ts cs l c, V.i IntKind.i64 n_5, V.i IntKind.i64 n_6,
 V.i IntKind.i64 n_7]]
 h)
 (K Out.ret (65)
 [V.lb
 [V.i IntKind.i64 (4 : Int), V.i IntKind.u64 (0 : Int), V.i IntKind.u64 (0 : Int), V.i IntKind.u64 (0 : Int),
 V.i IntKind.u64 (0 : Int), V.sl (some (j, 0)) l c k, V.i IntKind.i64 (0 : Int),
 V.i IntKind.i64 (0 : Int), V.i IntKind.i64 (0 : Int)]]
 h))) := by kernel_rfl
theorem f227_2n (c : Option Nat) (k : Nat) (h : Heap) (K : KT) : (codeP Tryz.Y (Tryz.Y.loc 67) 100 (((post (flat (bodyOf Tryz.f67))).drop 1)) ⟨mk 65 (([4, 5] : List Nat).zip [V.lb [V.i IntKind.i64 0, V.i IntKind.u64 0, V.i IntKind.u64 0, V.i IntKind.u64 0, V.i IntKind.u64 0, V.sl none 0 (some 0) 0, V.i IntKind.i64 0, V.i IntKind.i64 0, V.i IntKind.i64 0], V.sl none 0 c k]), [], h⟩ (VQ [4] K)) =
  (K Out.ret (65)
  [V.lb
 [V.i IntKind.i64 (0 : Int), V.i IntKind.u64 (0 : Int), V.i IntKind.u64 (0 : Int), V.i IntKind.u64 (0 : Int),
 V.i IntKind.u64 (0 : Int), V.sl none (0) (some (0)) (0), V.i IntKind.i64 (0 : Int),
 V.i IntKind.i64 (0 : Int), V.i IntKind.i64 (0 : Int)]]
  h) := by kernel_rfl
end Go.Y

/- The reader of expressions of the document: small functions, by contracts. -/
namespace Go.Y
open Go.Proofs
set_option maxRecDepth 100000
set_option maxHeartbeats 1000000

structure RdE (h : Heap) (id : Nat) (s : List UInt8) (i g : Nat) (e : Int) : Prop where
  get : h.get id = some (.arr [.s s, .i .i64 (i : Nat), .i .i64 (g : Nat), .i .i64 e] true)
  lt : id < h.nx
section
variable {h : Heap} {id : Nat} {s : List UInt8} {i g : Nat} {e : Int}
theorem RdE.c0 (r : RdE h id s i g e) : hcells h id 0 1 = some [.s s] := by simp [hcells, r.get, takeX]
theorem RdE.c1 (r : RdE h id s i g e) : hcells h id 1 1 = some [.i .i64 (i : Nat)] := by simp [hcells, r.get, takeX]
theorem RdE.c2 (r : RdE h id s i g e) : hcells h id 2 1 = some [.i .i64 (g : Nat)] := by simp [hcells, r.get, takeX]
theorem RdE.c3 (r : RdE h id s i g e) : hcells h id 3 1 = some [.i .i64 e] := by simp [hcells, r.get, takeX]
theorem RdE.s1 (r : RdE h id s i g e) (j : Nat) : ∃ h1, hstore h id 1 [.i .i64 (j : Nat)] = some h1 ∧ RdE h1 id s j g e ∧ FrO h id h1 := by
  refine ⟨h.set id (some (.arr [.s s, .i .i64 (j : Nat), .i .i64 (g : Nat), .i .i64 e] true)), ?_, ⟨by simp, r.lt⟩, .set _ _ _⟩
  simp [hstore, r.get, splice]
theorem RdE.s2 (r : RdE h id s i g e) (j : Nat) : ∃ h1, hstore h id 2 [.i .i64 (j : Nat)] = some h1 ∧ RdE h1 id s i j e ∧ FrO h id h1 := by
  refine ⟨h.set id (some (.arr [.s s, .i .i64 (i : Nat), .i .i64 (j : Nat), .i .i64 e] true)), ?_, ⟨by simp, r.lt⟩, .set _ _ _⟩
  simp [hstore, r.get, splice]
theorem RdE.s3 (r : RdE h id s i g e) (x : Int) : ∃ h1, hstore h id 3 [.i .i64 x] = some h1 ∧ RdE h1 id s i g x ∧ FrO h id h1 := by
  refine ⟨h.set id (some (.arr [.s s, .i .i64 (i : Nat), .i .i64 (g : Nat), .i .i64 x] true)), ?_, ⟨by simp, r.lt⟩, .set _ _ _⟩
  simp [hstore, r.get, splice]
end

theorem at_lt {s : List UInt8} {i : Nat} (h : i < s.length) : (0 : Int) ≤ (i : Nat) ∧ s[((i : Nat) : Int).toNat]? = some s[i] := ⟨by omega, by simp [h]⟩

theorem isE_con {h : Heap} {id : Nat} {s : List UInt8} {i g : Nat} {e : Int} (r : RdE h id s i g e) (c : UInt8) :
    RCon Tryz.Y 68 [.p (some (id, 0)), .i .u8 (c.toNat : Nat)] h (.b (e == 0 && s[i]? == some c)) := by
  refine ⟨h, ?_, fun _ _ => rfl, fun _ h => h⟩
  refine conz_of Tryz.Yok (fn := Tryz.f68) (by kernel_rfl) (by kernel_rfl) (end_tree Tryz.Yok (fun K => f68_0 id (c.toNat : Nat) h K) rfl ?_)
  refine ⟨_, r.c3, if_mk (fun h0 => ?_) (fun h0 => ?_)⟩
  · refine ⟨_, r.c1, _, r.c0, if_lt_nat (fun hlt => ?_) (fun hge => ?_)⟩
    · refine ⟨_, r.c0, _, r.c1, s[i], at_lt hlt, finC (.inr rfl) rfl (.now ⟨?_, rfl⟩)⟩
      rw [u8_eq, h0]; simp [hlt, V.plain]
    · have : s[i]? = none := List.getElem?_eq_none (by omega)
      refine finC (.inr rfl) rfl (.now ⟨?_, rfl⟩)
      simp [this, V.plain]
  · refine finC (.inr rfl) rfl (.now ⟨?_, rfl⟩)
    rw [h0]; rfl

theorem failE_con {h : Heap} {id : Nat} {s : List UInt8} {i g : Nat} {e : Int} (r : RdE h id s i g e) (x : Int) :
    Con Tryz.Y 28 [.p (some (id, 0)), .i .i64 x] h fun v h' => v = .tup [] ∧ RdE h' id s i g (if e = 0 then x else e) ∧ FrO h id h' := by
  refine conz_of Tryz.Yok (fn := Tryz.f28) (by kernel_rfl) (by kernel_rfl) (end_tree Tryz.Yok (fun K => f28_0 id x h K) rfl ?_)
  refine ⟨_, r.c3, if_mk (fun h0 => ?_) (fun h0 => ?_)⟩
  · have h0 : e = 0 := by simpa using h0
    obtain ⟨h1, g1, g2, g3⟩ := r.s3 x
    exact ⟨h1, g1, finC (.inl rfl) rfl (.now ⟨rfl, by rw [if_pos h0]; exact g2, g3⟩)⟩
  · have h0 : e ≠ 0 := by simpa using h0
    exact finC (.inl rfl) rfl (.now ⟨rfl, by rw [if_neg h0]; exact r, .refl _ _⟩)
theorem failE0 {h : Heap} {id : Nat} {s : List UInt8} {i g : Nat} (r : RdE h id s i g 0) (x : Int) {Q : V → Heap → Prop} (hq : ∀ h', RdE h' id s i g x → FrO h id h' → Q (.tup []) h') :
    Con Tryz.Y 28 [.p (some (id, 0)), .i .i64 x] h Q := (failE_con r x).mono fun v h' ⟨hv, h1, h2⟩ => by
  subst hv
  exact hq h' (by simpa using h1) h2

def digitQ (R : Except Nat (Int × Nat)) (h : Heap) (id : Nat) (s : List UInt8) (g : Nat) (v : V) (h' : Heap) : Prop := match R with
  | .error e => v = .i .i64 (-1) ∧ RdE h' id s e g 1 ∧ FrO h id h'
  | .ok (x, j) => v = .i .i64 x ∧ RdE h' id s j g 0 ∧ FrO h id h'

theorem digitE_con {h : Heap} {id : Nat} {s : List UInt8} {i g : Nat} (r : RdE h id s i g 0) (least : Int) (hs : s.length < 2 ^ 28) :
    Con Tryz.Y 174 [.p (some (id, 0)), .i .i64 least] h (digitQ (digitS s i least) h id s g) := by
  refine conz_of Tryz.Yok (fn := Tryz.f174) (by kernel_rfl) (by kernel_rfl) (end_tree Tryz.Yok (fun K => f174_0 id least h K) rfl ?_)
  have no : digitS s i least = .error i → Con Tryz.Y 28 [.p (some (id, 0)), .i .i64 1] h fun v h' => v = .tup [] ∧ Go.Y.Fin Tryz.Y Tryz.f174 [4] (AfterZ (digitQ (digitS s i least) h id s g)) .ret 75 [.i .i64 (-1)] h' := fun hn =>
    failE0 r 1 fun h' h1 h2 => ⟨rfl, finC (.inr rfl) rfl (.now (by rw [hn]; exact ⟨rfl, h1, h2⟩))⟩
  refine ⟨_, r.c1, _, r.c0, if_lt_nat (fun hlt => ?_) (fun hge => no ?_)⟩
  · have hsi : s[i]? = some s[i] := by simp [hlt]
    refine ⟨_, r.c0, _, r.c1, s[i], at_lt hlt, if_le (fun h1 => ⟨_, r.c0, _, r.c1, s[i], at_lt hlt, if_le (fun h2 => ⟨_, r.c0, _, r.c1, s[i], at_lt hlt, ?_⟩) (fun h2 => no ?_)⟩) (fun h1 => no ?_)⟩
    · have hc : s[i].toNat < 256 := s[i].toNat_lt
      have w1 : IntKind.i64.wrap (s[i].toNat : Int) = s[i].toNat := wrap_ok (by omega) (by omega)
      have w2 : IntKind.i64.wrap ((s[i].toNat : Int) - 48) = (s[i].toNat : Int) - 48 := wrap_ok (by omega) (by omega)
      rw [w1, w2]
      refine if_le (fun h3 => ?_) (fun h3 => no ?_)
      · obtain ⟨h', g1, g2, g3⟩ := r.s1 (i + 1)
        refine ⟨_, r.c1, h', by rw [wrap_succ (by omega)]; exact g1, _, g2.c0, _, g2.c1, s[i], ?_, ?_⟩
        · rw [wrap_ok (by omega) (by omega), show ((i + 1 : Nat) : Int) - 1 = ((i : Nat) : Int) by omega]; exact at_lt hlt
        rw [w1, w2]
        refine finC (.inr rfl) rfl (.now ?_)
        have : digitS s i least = .ok ((s[i].toNat : Int) - 48, i + 1) := by unfold digitS; rw [hsi]; simp only []; rw [if_pos ⟨by omega, by omega, h3⟩]
        rw [this]
        exact ⟨rfl, g2, g3⟩
      · unfold digitS; rw [hsi]; simp only []; rw [if_neg (by omega)]
    · unfold digitS; rw [hsi]; simp only []; rw [if_neg (by omega)]
    · unfold digitS; rw [hsi]; simp only []; rw [if_neg (by omega)]
  · unfold digitS; rw [List.getElem?_eq_none (by omega)]

def bracesQ (R : Except Nat (Int × Int × Nat)) (h : Heap) (id : Nat) (s : List UInt8) (g : Nat) (v : V) (h' : Heap) : Prop := match R with
  | .error e => v = .tup [.i .i64 0, .i .i64 0] ∧ RdE h' id s e g 1 ∧ FrO h id h'
  | .ok (x, y, j) => v = .tup [.i .i64 x, .i .i64 y] ∧ RdE h' id s j g 0 ∧ FrO h id h'

theorem digitS_lt {s : List UInt8} {i j : Nat} {l x : Int} (h : digitS s i l = .ok (x, j)) : j = i + 1 ∧ i < s.length := by
  unfold digitS at h
  split at h
  · rename_i c hc
    split at h
    · cases h; exact ⟨rfl, (List.getElem?_eq_some_iff.1 hc).1⟩
    · cases h
  · cases h
theorem bracesE_con {h : Heap} {id : Nat} {s : List UInt8} {i g : Nat} (r : RdE h id s i g 0) (hs : s.length < 2 ^ 28) :
    Con Tryz.Y 142 [.p (some (id, 0))] h (bracesQ (bracesS s i) h id s g) := by
  refine conz_of Tryz.Yok (fn := Tryz.f142) (by kernel_rfl) (by kernel_rfl) (end_tree Tryz.Yok (fun K => f142_0 id h K) rfl ?_)
  -- it fails
  have bad : ∀ (e : Nat) (h1 : Heap) (x : Int), bracesS s i = .error e → RdE h1 id s e g x → (x = 0 ∨ x = 1) → FrO h id h1 →
      Con Tryz.Y 28 [.p (some (id, 0)), .i .i64 1] h1 fun v h' => v = .tup [] ∧ Go.Y.Fin Tryz.Y Tryz.f142 [2, 3] (AfterZ (bracesQ (bracesS s i) h id s g)) .ret 45 [.i .i64 0, .i .i64 0] h' := fun e h1 x hn hr hx hf =>
    (failE_con hr 1).mono fun v h' ⟨hv, h2, h3⟩ => ⟨hv, finC (.inr rfl) rfl (.now (by
      rw [hn]
      have h2 : RdE h' id s e g 1 := by rcases hx with rfl | rfl <;> simpa using h2
      exact ⟨rfl, h2, hf.trans h3⟩))⟩
  have done : ∀ (lo hi : Int) (j : Nat) (h1 : Heap), bracesS s i = .ok (lo, hi, j) → RdE h1 id s j g 0 → FrO h id h1 → Go.Y.Fin Tryz.Y Tryz.f142 [2, 3] (AfterZ (bracesQ (bracesS s i) h id s g)) .ret 45 [.i .i64 lo, .i .i64 hi] h1 := fun lo hi j h1 hn hr hf =>
    finC (.inr rfl) rfl (.now (by rw [hn]; exact ⟨rfl, hr, hf⟩))
  refine (digitE_con r 0 hs).mono fun v h1 hq => ?_
  cases hd : digitS s i 0 with
  | error e =>
    rw [hd] at hq
    obtain ⟨rfl, q1, q2⟩ := hq
    have hb : bracesS s i = .error e := by unfold bracesS; rw [hd]
    refine ⟨_, rfl, _, isE_con q1 44, if_mk (fun hc => by simp at hc) (fun _ => ⟨_, isE_con q1 125, if_mk (fun _ => bad e h1 1 hb q1 (.inr rfl) q2) (fun hc => by simp at hc)⟩)⟩
  | ok y =>
    obtain ⟨lo, j⟩ := y
    rw [hd] at hq
    obtain ⟨rfl, q1, q2⟩ := hq
    obtain ⟨rfl, hlt⟩ := digitS_lt hd
    refine ⟨_, rfl, _, isE_con q1 44, if_mk (fun h44 => ?_) (fun h44 => ?_)⟩
    · have h44 : s[i + 1]? = some 44 := by simpa using h44
      have hl1 := (List.getElem?_eq_some_iff.1 h44).1
      obtain ⟨h2, g1, g2, g3⟩ := q1.s1 (i + 2)
      refine ⟨_, q1.c1, h2, by rw [wrap_succ (by omega)]; exact g1, _, isE_con g2 125, if_mk (fun h125 => ?_) (fun h125 => ?_)⟩
      · have h125 : s[i + 2]? ≠ some 125 := by simpa using h125
        refine ⟨_, g2.c3, if_mk (fun _ => ?_) (fun hc => by simp at hc)⟩
        refine (digitE_con g2 lo hs).mono fun v h3 hq => ?_
        cases hd2 : digitS s (i + 2) lo with
        | error e =>
          rw [hd2] at hq
          obtain ⟨rfl, u1, u2⟩ := hq
          have hb : bracesS s i = .error e := by unfold bracesS; rw [hd]; simp only []; rw [if_pos h44, if_neg h125, hd2]
          exact ⟨_, rfl, _, isE_con u1 125, if_mk (fun _ => bad e h3 1 hb u1 (.inr rfl) ((q2.trans g3).trans u2)) (fun hc => by simp at hc)⟩
        | ok y =>
          obtain ⟨hi, k⟩ := y
          rw [hd2] at hq
          obtain ⟨rfl, u1, u2⟩ := hq
          obtain ⟨rfl, hlt2⟩ := digitS_lt hd2
          refine ⟨_, rfl, _, isE_con u1 125, if_mk (fun hk => ?_) (fun hk => ?_)⟩
          · have hk : s[i + 3]? ≠ some 125 := by simpa using hk
            exact bad (i + 3) h3 0 (by unfold bracesS; rw [hd]; simp only []; rw [if_pos h44, if_neg h125, hd2]; simp only []; rw [if_neg hk]) u1 (.inl rfl) ((q2.trans g3).trans u2)
          · have hk : s[i + 3]? = some 125 := by simpa using hk
            have hl3 := (List.getElem?_eq_some_iff.1 hk).1
            obtain ⟨h4, w1, w2, w3⟩ := u1.s1 (i + 4)
            exact ⟨_, u1.c1, h4, by rw [wrap_succ (by omega)]; exact w1, done _ _ (i + 4) h4 (by unfold bracesS; rw [hd]; simp only []; rw [if_pos h44, if_neg h125, hd2]; simp only []; rw [if_pos hk]) w2 (((q2.trans g3).trans u2).trans w3)⟩
      · have h125 : s[i + 2]? = some 125 := by simpa using h125
        have hl2 := (List.getElem?_eq_some_iff.1 h125).1
        refine ⟨_, isE_con g2 125, if_mk (fun hc => by rw [h125] at hc; simp at hc) (fun _ => ?_)⟩
        obtain ⟨h4, w1, w2, w3⟩ := g2.s1 (i + 3)
        exact ⟨_, g2.c1, h4, by rw [wrap_succ (by omega)]; exact w1, done _ _ (i + 3) h4 (by unfold bracesS; rw [hd]; simp only []; rw [if_pos h44, if_pos h125]) w2 ((q2.trans g3).trans w3)⟩
    · have h44 : s[i + 1]? ≠ some 44 := by simpa using h44
      refine ⟨_, isE_con q1 125, if_mk (fun hk => ?_) (fun hk => ?_)⟩
      · have hk : s[i + 1]? ≠ some 125 := by simpa using hk
        exact bad (i + 1) h1 0 (by unfold bracesS; rw [hd]; simp only []; rw [if_neg h44, if_neg hk]) q1 (.inl rfl) q2
      · have hk : s[i + 1]? = some 125 := by simpa using hk
        have hl3 := (List.getElem?_eq_some_iff.1 hk).1
        obtain ⟨h4, w1, w2, w3⟩ := q1.s1 (i + 2)
        exact ⟨_, q1.c1, h4, by rw [wrap_succ (by omega)]; exact w1, done _ _ (i + 2) h4 (by unfold bracesS; rw [hd]; simp only []; rw [if_neg h44, if_pos hk]) w2 (q2.trans w3)⟩
end Go.Y
