/- Slice expressions. -/
import Derived.Test.YteennilbmmlikaaGreatDoorYQuiet3
namespace Go.Y
section
variable {Y : YP} {W : Vw} {σ : St} {a : Act} {w : World}

def OR (W : Vw) : Option V → Option Value → Prop
  | some v, some u => VR W v u
  | none, none => True
  | _, _ => False

theorem bnd_le {y d n : Nat} {o : Option V} (h : bnd y d o = some n) : (o = none → n = d) ∧ (o ≠ none → n ≤ y) := by
  cases o with
  | none => simp only [bnd, Option.some.injEq] at h; exact ⟨fun _ => h.symm, fun hn => absurd rfl hn⟩
  | some v =>
    refine ⟨fun hn => (nomatch hn), fun _ => ?_⟩
    cases v <;> simp [bnd] at h
    omega

theorem bnd_some {y d n : Nat} {v : V} (h : bnd y d (some v) = some n) {u : Value} (ho : VR W v u) {y' : Nat} (hy : y ≤ y') (code : BoundsCode) (w : World) :
    (Instr.sliceBound u y' code).run Y.P w = .ok n w := by
  cases v <;> simp only [bnd, reduceCtorEq] at h
  split at h
  · rename_i k m hc
    simp at h; subst h
    cases ho
    exact run_sliceBound w k m y' code hc.1 (by omega)
  · cases h

theorem bounds_run {y d len cap l h : Nat} {lo hi : Option V} (hb : bounds y d lo hi = some (l, h)) {ulo uhi : Option Value} (hlo : OR W lo ulo) (hhi : OR W hi uhi) (hy : y ≤ cap) (hd : d = len)
    (isSlice : Bool) (w : World) : (Instr.sliceBounds isSlice len cap ulo uhi none).run Y.P w = .ok (l, h, cap) w := by
  unfold bounds at hb
  split at hb
  · rename_i h' hh
    split at hb
    · rename_i l' hl
      simp at hb
      obtain ⟨rfl, rfl⟩ := hb
      cases hi with
      | none =>
        cases uhi with
        | some u => exact hhi.elim
        | none =>
          simp only [bnd, Option.some.injEq] at hh
          subst hh hd
          cases lo with
          | none => cases ulo with
            | some u => exact hlo.elim
            | none =>
              simp only [bnd, Option.some.injEq] at hl
              subst hl
              simp only [Instr.sliceBounds, Sem.run_bind, Sem.run_pure, Result.andThen_ok]
          | some v => cases ulo with
            | none => exact hlo.elim
            | some u => simp only [Instr.sliceBounds, Sem.run_bind, Sem.run_pure, Result.andThen_ok, bnd_some hl hlo (Nat.le_refl _)]
      | some v =>
        cases uhi with
        | none => exact hhi.elim
        | some u =>
          cases lo with
          | none => cases ulo with
            | some u => exact hlo.elim
            | none =>
              simp only [bnd, Option.some.injEq] at hl
              subst hl
              simp only [Instr.sliceBounds, Sem.run_bind, Sem.run_pure, Result.andThen_ok, bnd_some hh hhi hy]
          | some v => cases ulo with
            | none => exact hlo.elim
            | some u => simp only [Instr.sliceBounds, Sem.run_bind, Sem.run_pure, Result.andThen_ok, bnd_some hh hhi hy, bnd_some hl hlo (Nat.le_refl _)]
    · cases hb
  · cases hb

theorem bounds3_run {y m len cap l h : Nat} {lo : Option V} {vh vm : V} (hm : bnd y 0 (some vm) = some m) (hb : bounds m 0 lo (some vh) = some (l, h)) {ulo : Option Value} {uh um : Value} (hlo : OR W lo ulo)
    (hhi : VR W vh uh) (hmx : VR W vm um) (hy : y ≤ cap) (isSlice : Bool) (w : World) : (Instr.sliceBounds isSlice len cap ulo (some uh) (some um)).run Y.P w = .ok (l, h, m) w := by
  unfold bounds at hb
  split at hb
  · rename_i h' hh
    split at hb
    · rename_i l' hl
      simp at hb
      obtain ⟨rfl, rfl⟩ := hb
      cases lo with
      | none => cases ulo with
        | some u => exact hlo.elim
        | none =>
          simp only [bnd, Option.some.injEq] at hl
          subst hl
          simp only [Instr.sliceBounds, Sem.run_bind, bnd_some hm hmx hy, bnd_some hh hhi (Nat.le_refl _), Result.andThen_ok, Sem.run_pure]
      | some v => cases ulo with
        | none => exact hlo.elim
        | some u => simp only [Instr.sliceBounds, Sem.run_bind, bnd_some hm hmx hy, bnd_some hh hhi (Nat.le_refl _), bnd_some hl hlo (Nat.le_refl _), Result.andThen_ok, Sem.run_pure]
    · cases hb
  · cases hb

theorem bounds_le {y d l h : Nat} {lo hi : Option V} (hb : bounds y d lo hi = some (l, h)) : l ≤ h ∧ (hi = none → h = d) ∧ (hi ≠ none → h ≤ y) := by
  unfold bounds at hb
  split at hb
  · rename_i h' hh
    split at hb
    · rename_i l' hl
      simp at hb
      obtain ⟨rfl, rfl⟩ := hb
      obtain ⟨a1, a2⟩ := bnd_le hh
      obtain ⟨b1, b2⟩ := bnd_le hl
      refine ⟨?_, a1, a2⟩
      by_cases hlo : lo = none
      · rw [b1 hlo]; omega
      · exact b2 hlo
    · cases hb
  · cases hb

theorem OR.some {v : V} {uo : Option Value} (h : OR W (Option.some v) uo) : ∃ u, uo = Option.some u ∧ VR W v u := by
  cases uo with
  | none => exact h.elim
  | some u => exact ⟨u, rfl, h⟩

theorem OR.none {uo : Option Value} (h : OR W Option.none uo) : uo = Option.none := by
  cases uo with
  | none => rfl
  | some u => exact h.elim

theorem drop_extract (l : List UInt8) (x y : Nat) : (⟨l.toArray⟩ : ByteArray).extract x y = ⟨((l.drop x).take (y - x)).toArray⟩ := by
  apply ByteArray.ext
  rw [ByteArray.data_extract]
  simp

theorem slice_ok (hY : YOK Y) {t : TypeId} {v r : V} {lo hi mx : Option V} (h : sliceY Y t v lo hi mx = Option.some r) {u : Value} {ulo uhi umx : Option Value} (hv : VR W v u) (hlo : OR W lo ulo) (hhi : OR W hi uhi)
    (hmx : OR W mx umx) : ∃ u', VR W r u' ∧ ∀ w, (Instr.sliceAt t u ulo uhi umx).run Y.P w = .ok u' w := by
  unfold sliceY at h
  split at h
  · rename_i hk
    obtain ⟨ti, hti, hk'⟩ := kd_of hk
    obtain ⟨i, d, z, ht⟩ := hY.ty t ti hti
    have hkd := ht.kd
    rw [hk'] at hkd
    cases hkd
    split at h
    · rename_i l
      split at h
      · rename_i x y hb
        simp at h; subst h
        cases hv
        have := hmx.none
        subst this
        refine ⟨_, .s _, fun w => ?_⟩
        have hr := bounds_run (Y := Y) hb hlo hhi (Nat.le_refl _) rfl false w
        have hs : (⟨l.toArray⟩ : ByteArray).size = l.length := rfl
        simp only [Instr.sliceAt, Instr.slice, Sem.run_bind, run_underlying' ht.und, Result.andThen_ok, Option.isSome_none, Bool.false_eq_true, if_false, hs, hr, Sem.run_pure, drop_extract]
      · cases h
    · cases h
  · rename_i e hk
    obtain ⟨ti, hti, hk'⟩ := kd_of hk
    obtain ⟨i, d, z, ht⟩ := hY.ty t ti hti
    have hkd := ht.kd
    rw [hk'] at hkd
    cases hkd
    split at h
    · cases h
    · rename_i te hte
      obtain ⟨ie, de, ze, hte'⟩ := hY.ty e te hte
      have run : ∀ (ao : Option Addr) (len cap l h m : Nat) w, (Instr.sliceBounds true len cap ulo uhi umx).run Y.P w = .ok (l, h, m) w →
          (Instr.sliceAt t (.slice ao len cap) ulo uhi umx).run Y.P w = .ok (.slice (if m = l then ao else ao.map (·.add (l * te.size))) (h - l) (m - l)) w := by
        intro ao len cap l h m w hr
        simp only [Instr.sliceAt, Instr.slice, Sem.run_bind, run_underlying' ht.und, Result.andThen_ok, hr, run_sizeOf hte'.info, Sem.run_pure, hte'.size]
      split at h
      · rename_i n c k
        split at h
        · split at h
          · rename_i m hm
            split at h
            · rename_i lh hb
              obtain ⟨l, hh⟩ := lh
              split at h
              · cases h
              · rename_i hmh
                simp at h; subst h
                cases hv
                refine ⟨_, .sln _ _, fun w => ?_⟩
                have hle := bounds_le hb
                cases mx with
                | none =>
                  have := hmx.none
                  subst this
                  have hr := bounds_run (Y := Y) hb hlo hhi (Nat.le_refl 0) rfl true w
                  rw [run none 0 0 l hh 0 w hr]
                  have h0 : hh = 0 := by
                    by_cases e0 : hi = none
                    · exact hle.2.1 e0
                    · have := hle.2.2 e0; omega
                  subst h0
                  simp
                | some vm =>
                  obtain ⟨um, rfl, hum⟩ := hmx.some
                  cases hi with
                  | none => simp at hmh
                  | some vh =>
                    obtain ⟨uh, rfl, huh⟩ := hhi.some
                    have hm0 : m = 0 := by have := (bnd_le hm).2 (by simp); omega
                    subst hm0
                    have hr := bounds3_run (Y := Y) (len := 0) hm hb hlo huh hum (Nat.le_refl 0) true w
                    rw [run none 0 0 l hh 0 w hr]
                    have h0 : hh = 0 := by have := hle.2.2 (by simp); omega
                    subst h0
                    simp
            · cases h
          · cases h
        · cases h
      · rename_i id o len c k
        split at h
        · rename_i hks
          subst hks
          cases hv with
          | sls _ _ _ _ _ y cap' hid hl hc ha hn hkk =>
            have hcl : c.getD len ≤ cap' := by
              cases c with
              | none => simpa using hl
              | some c => have := hc c rfl; simp; omega
            cases mx with
            | none =>
              have := hmx.none
              subst this
              simp only at h
              split at h
              · rename_i x q hb
                simp at h; subst h
                have hle := bounds_le hb
                have hq : q ≤ cap' := by
                  by_cases e0 : hi = none
                  · rw [hle.2.1 e0]; exact hl
                  · have := hle.2.2 e0; omega
                refine ⟨_, ?_, fun w => run (some y) len cap' x q cap' w (bounds_run (Y := Y) hb hlo hhi hcl rfl true w)⟩
                have hsome : (if cap' = x then some y else (some y).map (·.add (x * te.size))) = some (if cap' = x then y else y.add (x * te.size)) := by split <;> rfl
                rw [hsome]
                refine .sls id (o + x * te.size) (q - x) (c.map (· - x)) te.size _ (cap' - x) hid (by omega) (fun c' hc' => ?_) (fun hv hp => ?_) (fun hv hcn => ?_) (fun hv => ?_)
                · cases c with
                  | none => simp at hc'
                  | some c => have := hc c rfl; simp at hc'; omega
                · rw [if_neg (by omega), ha hv (by omega)]; unfold Vw.at; rw [add_at, Nat.add_assoc]
                · cases c with
                  | none =>
                    have := hn hv rfl
                    have hx : x * te.size + (cap' - x) * te.size = cap' * te.size := by rw [← Nat.add_mul]; congr 1; omega
                    omega
                  | some c => simp at hcn
                · have := hkk hv
                  have hx : x * te.size + (cap' - x) * te.size = cap' * te.size := by rw [← Nat.add_mul]; congr 1; omega
                  omega
              · cases h
            | some vm =>
              obtain ⟨um, rfl, hum⟩ := hmx.some
              simp only at h
              split at h
              · rename_i m hm
                cases hi with
                | none => simp at h
                | some vh =>
                  obtain ⟨uh, rfl, huh⟩ := hhi.some
                  simp only [Option.isNone_some, Bool.false_eq_true, if_false] at h
                  split at h
                  · rename_i x q hb
                    simp at h; subst h
                    have hle := bounds_le hb
                    have hml : m ≤ cap' := by have := (bnd_le hm).2 (by simp); omega
                    have hq : q ≤ m := hle.2.2 (by simp)
                    refine ⟨_, ?_, fun w => run (some y) len cap' x q m w (bounds3_run (Y := Y) hm hb hlo huh hum hcl true w)⟩
                    have hsome : (if m = x then some y else (some y).map (·.add (x * te.size))) = some (if m = x then y else y.add (x * te.size)) := by split <;> rfl
                    rw [hsome]
                    refine .sls id (o + x * te.size) (q - x) (some (m - x)) te.size _ (m - x) hid (by omega) (fun c' hc' => by simp at hc'; exact hc'.symm ▸ rfl) (fun hv hp => ?_) (fun hv hcn => nomatch hcn) (fun hv => ?_)
                    · rw [if_neg (by omega), ha hv (by omega)]; unfold Vw.at; rw [add_at, Nat.add_assoc]
                    · have := hkk hv
                      have hx : x * te.size + (m - x) * te.size = m * te.size := by rw [← Nat.add_mul]; congr 1; omega
                      have hy : m * te.size ≤ cap' * te.size := Nat.mul_le_mul_right _ hml
                      omega
                  · cases h
              · cases h
        · cases h
      · rename_i cs len c
        -- read-only
        have build : ∀ (y : Addr) (cap' x q m : Nat) (c' : Option Nat), x ≤ q → q ≤ m → (∀ k, c' = some k → m - x = k) → VR W (.ts cs len c) (.slice (some y) len cap') →
            VR W (.ts ((cs.drop (x * te.size)).take ((q - x) * te.size)) (q - x) c') (.slice (some (if m = x then y else y.add (x * te.size))) (q - x) (m - x)) := by
          intro y cap' x q m c' hxq hqm hc' hvr
          by_cases hmx : m = x
          · have : q = x := by omega
            subst this
            simp only [Nat.sub_self, Nat.zero_mul, List.take_zero]
            exact .tsn 0 c' _ _ (by omega) (fun k hk => by rw [← hc' k hk])
          · rw [if_neg hmx]
            cases hvr with
            | tsn _ _ _ _ hl hc => simp; exact .tsn _ _ _ _ (by omega) (fun k hk => hc' k hk)
            | ts _ _ _ _ blk off cc et fr us hl hcap hs hcc hr =>
              rw [add_at]
              refine .ts _ _ _ _ blk (off + x * te.size) cc et fr ((us.drop (x * te.size)).take ((q - x) * te.size)) (by omega) (fun k hk => hc' k hk) hs (fun j u hj => ?_) ((hr.drop _).take _)
              rw [List.getElem?_take] at hj
              split at hj
              · rw [List.getElem?_drop] at hj
                rw [Nat.add_assoc]; exact hcc _ _ hj
              · cases hj
        by_cases hnz : u = .slice none 0 0
        · have hlen : len = 0 ∧ cs = [] ∧ ∀ k, c = some k → k = 0 := by
            subst hnz
            cases hv with
            | tsz _ hc => exact ⟨rfl, rfl, hc⟩
          obtain ⟨rfl, rfl, hc0⟩ := hlen
          subst hnz
          cases mx with
          | none =>
            have := hmx.none
            subst this
            simp only at h
            split at h
            · rename_i x q hb
              simp at h; subst h
              have hle := bounds_le hb
              have hq : q = 0 := by
                by_cases e0 : hi = none
                · exact hle.2.1 e0
                · have := hle.2.2 e0; omega
              subst hq
              have hx : x = 0 := by omega
              subst hx
              refine ⟨_, .tsz _ (fun k hk => ?_), fun w => ?_⟩
              · cases c with
                | none => simp at hk
                | some k' => have := hc0 k' rfl; simp at hk; omega
              · rw [run none 0 0 0 0 0 w (bounds_run (Y := Y) hb hlo hhi (Nat.le_refl 0) rfl true w)]
                simp
            · cases h
          | some vm =>
            obtain ⟨um, rfl, hum⟩ := hmx.some
            simp only at h
            split at h
            · rename_i m hm
              cases hi with
              | none => simp at h
              | some vh =>
                obtain ⟨uh, rfl, huh⟩ := hhi.some
                simp only [Option.isNone_some, Bool.false_eq_true, if_false] at h
                split at h
                · rename_i x q hb
                  simp at h; subst h
                  have hle := bounds_le hb
                  have hm0 : m = 0 := by have := (bnd_le hm).2 (by simp); omega
                  subst hm0
                  have hq : q = 0 := by have := hle.2.2 (by simp); omega
                  subst hq
                  have hx : x = 0 := by omega
                  subst hx
                  refine ⟨_, .tsz _ (fun k hk => by simpa using hk.symm), fun w => ?_⟩
                  rw [run none 0 0 0 0 0 w (bounds3_run (Y := Y) (len := 0) hm hb hlo huh hum (Nat.le_refl 0) true w)]
                  simp
                · cases h
            · cases h
        have shape : ∃ y cap', u = .slice (some y) len cap' ∧ len ≤ cap' ∧ (∀ k, c = some k → cap' = k) := by
          cases hv with
          | tsz _ _ => exact absurd rfl hnz
          | tsn _ _ y cap' hl hc => exact ⟨y, cap', rfl, hl, hc⟩
          | ts _ _ _ cap' blk off cc et fr us hl hcap hs hcc hr => exact ⟨_, cap', rfl, hl, hcap⟩
        obtain ⟨y, cap', rfl, hl, hc⟩ := shape
        cases mx with
        | none =>
          have := hmx.none
          subst this
          simp only at h
          split at h
          · rename_i x q hb
            simp at h; subst h
            have hle := bounds_le hb
            have hq : q ≤ len := by
              by_cases e0 : hi = none
              · rw [hle.2.1 e0]; omega
              · exact hle.2.2 e0
            refine ⟨_, ?_, fun w => run (some y) len cap' x q cap' w (bounds_run (Y := Y) hb hlo hhi hl rfl true w)⟩
            have hsome : (if cap' = x then some y else (some y).map (·.add (x * te.size))) = some (if cap' = x then y else y.add (x * te.size)) := by split <;> rfl
            rw [hsome]
            refine build y cap' x q cap' (c.map (· - x)) hle.1 (by omega) (fun k hk => ?_) hv
            cases c with
            | none => simp at hk
            | some c => have := hc c rfl; simp at hk; omega
          · cases h
        | some vm =>
          obtain ⟨um, rfl, hum⟩ := hmx.some
          simp only at h
          split at h
          · rename_i m hm
            cases hi with
            | none => simp at h
            | some vh =>
              obtain ⟨uh, rfl, huh⟩ := hhi.some
              simp only [Option.isNone_some, Bool.false_eq_true, if_false] at h
              split at h
              · rename_i x q hb
                simp at h; subst h
                have hle := bounds_le hb
                have hq : q ≤ m := hle.2.2 (by simp)
                refine ⟨_, ?_, fun w => run (some y) len cap' x q m w (bounds3_run (Y := Y) hm hb hlo huh hum hl true w)⟩
                have hsome : (if m = x then some y else (some y).map (·.add (x * te.size))) = some (if m = x then y else y.add (x * te.size)) := by split <;> rfl
                rw [hsome]
                exact build y cap' x q m (some (m - x)) hle.1 hq (fun k hk => by simpa using hk) hv
              · cases h
          · cases h
      · cases h
  · cases h
end
end Go.Y
