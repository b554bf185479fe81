/- Append. -/
import Derived.Test.YteennilbmmlikaaGreatDoorYStep
namespace Go.Y
section
variable {Y : YP} {W W' : Vw} {σ σ' : St} {a : Act} {w w' : World}

inductive Src (P : Program) (w : World) (xt : TypeId) (ux : Value) (bytes size : Nat) (zc : Array Value) (n : Nat) (news : List Value) : Prop
  | cells (d : TypeDesc) (hd : P.underlying xt = some d) (hni : ∀ k, d ≠ .int k) (hl : ∀ w', (Builtin.lenOf ux).run P w' = .ok n w')
      (hc : ∀ w', Same w w' → (Builtin.firstCells size n ux).run P w' = .ok news.toArray w')
  | zeros (k k' : IntKind) (m : Int) (hd : P.underlying xt = some (.int k)) (hu : ux = .int k' m) (h0 : 0 ≤ m) (h1 : m ≤ 1099511627776) (hn : n = m.toNat) (hb : n * bytes ≤ 1099511627776)
      (hz : news.toArray = Builtin.zeroCells zc n) (hs : zc.size = size)

theorem drew_same (w : World) : Same w w.drew := fun _ _ h => h

section
variable {P : Program} {st xt ty e : TypeId} {ux : Value} {i : TypeInfo} {z : Value} {n : Nat} {news : List Value}

theorem app_fits (ht : P.underlying st = some (.slice e)) (hi : P.info? e = some i) (hz : i.zero = some z) (hs : Src P w xt ux i.bytes i.size z.cells n news) (y : Addr) (sLen sCap : Nat) (hfit : sLen + n ≤ sCap)
    (hst : (storeCells (y.add (sLen * i.size)) news 0).run P w = .ok () w') :
    (Builtin.append_ #[st, xt] ty #[.slice (some y) sLen sCap, ux]).run P w = .ok (.slice (some y) (sLen + n) sCap) w' := by
  cases hs with
  | cells d hd hni hl hc =>
    have hc' := hc w (.refl w)
    simp [Builtin.append_, run_underlying ht, run_underlying hd, sizeOf, typeInfo, hi, hl, hfit, hc', hst]
  | zeros k k' m hd hu h0 h1 hn hb hz' hzs =>
    subst hu hn
    have hw : IntKind.i64.wrap m = m := wrap_small h0 (by omega)
    have e1 : ¬ (m < 0) := by omega
    have e2 : ¬ (281474976710656 < m * (i.bytes : Int)) := by
      have hmm : ((m.toNat * i.bytes : Nat) : Int) = m * i.bytes := by rw [Int.natCast_mul, Int.toNat_of_nonneg h0]
      omega
    by_cases hn0 : m.toNat * i.size = 0
    · have hne : news = [] := by
        have : news.toArray.size = 0 := by rw [hz', size_zeroCells, hzs]; exact hn0
        simpa using this
      subst hne
      simp [Builtin.append_, run_underlying ht, run_underlying hd, sizeOf, typeInfo, hi, hz, asInt, asIntOf, hw, e1, e2, hfit, hn0, zeroValue, hst]
    · have hzl : (Builtin.zeroCells z.cells m.toNat).toList = news := by rw [← hz']
      simp [Builtin.append_, run_underlying ht, run_underlying hd, sizeOf, typeInfo, hi, hz, asInt, asIntOf, hw, e1, e2, hfit, hn0, zeroValue, hzl, hst]

theorem app_nil0 (ht : P.underlying st = some (.slice e)) (hi : P.info? e = some i) (hs : Src P w xt ux i.bytes i.size z.cells 0 news) :
    (Builtin.append_ #[st, xt] ty #[.slice none 0 0, ux]).run P w = .ok (.slice none 0 0) w := by
  cases hs with
  | cells d hd hni hl hc =>
    have hc' := hc w (.refl w)
    simp [Builtin.append_, run_underlying ht, run_underlying hd, sizeOf, typeInfo, hi, hl, hc']
  | zeros k k' m hd hu h0 h1 hn hb hz' hzs =>
    subst hu
    have hw : IntKind.i64.wrap m = m := wrap_small h0 (by omega)
    have hm0 : m = 0 := by omega
    subst hm0
    simp [Builtin.append_, run_underlying ht, run_underlying hd, sizeOf, typeInfo, hi, asInt, asIntOf, hw]

theorem app_grow (ht : P.underlying st = some (.slice e)) (hi : P.info? e = some i) (hz : i.zero = some z) (hs : Src P w xt ux i.bytes i.size z.cells n news) (ao : Option Addr) (sLen sCap : Nat) (hgt : sCap < sLen + n)
    (olds : List Value) (hol : ∀ w', Same w w' → (Builtin.firstCells i.size sLen (.slice ao sLen sCap)).run P w' = .ok olds.toArray w') (hlim : sLen + n ≤ 1099511627776) (hb : (sLen + n) * i.bytes ≤ 1099511627776) :
    (Builtin.append_ #[st, xt] ty #[.slice ao sLen sCap, ux]).run P w = .ok (.slice (some ⟨w.heap.size, 0, none⟩) (sLen + n) (grownCap w (sLen + n) sCap e))
      (w.drew.alloc (.cells (olds ++ (news ++ (Builtin.zeroCells z.cells (grownCap w (sLen + n) sCap e - (sLen + n))).toList)).toArray e)) := by
  have hn1 : ¬ (sLen + n ≤ sCap) := by omega
  have h63' : ¬ (9223372036854775807 < ((sLen : Int) + (n : Int))) := by omega
  have h48' : ¬ (281474976710656 < Builtin.nextslicecap (sLen + n) sCap * i.bytes) := by
    have := growslice_fits hgt (bytes := i.bytes) (by omega)
    omega
  have hol' := hol w.drew (drew_same w)
  cases hs with
  | cells d hd hni hl hc =>
    have hc' := hc w.drew (drew_same w)
    simp [Builtin.append_, run_underlying ht, run_underlying hd, sizeOf, typeInfo, zeroValue, hi, hz, hl, hn1, h63', h48', Question.forced, hol', hc', newRow, grownCap]
    congr 2
    apply Array.ext'
    simp
  | zeros k k' m hd hu h0 h1 hn hb2 hz' hzs =>
    subst hu hn
    have hw : IntKind.i64.wrap m = m := wrap_small h0 (by omega)
    have e1 : ¬ (m < 0) := by omega
    have e2 : ¬ (281474976710656 < m * (i.bytes : Int)) := by
      have hmm : ((m.toNat * i.bytes : Nat) : Int) = m * i.bytes := by rw [Int.natCast_mul, Int.toNat_of_nonneg h0]
      omega
    have h63'' : ¬ (9223372036854775807 < ((sLen : Int) + max m 0)) := by omega
    by_cases hn0 : m.toNat * i.size = 0
    · have hne : news = [] := by
        have : news.toArray.size = 0 := by rw [hz', size_zeroCells, hzs]; exact hn0
        simpa using this
      subst hne
      simp [Builtin.append_, run_underlying ht, run_underlying hd, sizeOf, typeInfo, zeroValue, hi, hz, asInt, asIntOf, hw, e1, e2, hn1, h63'', h48', Question.forced, hol', hn0, newRow, grownCap]
      congr 2
      apply Array.ext'
      simp
    · have hzl : (Builtin.zeroCells z.cells m.toNat).toList = news := by rw [← hz']
      simp [Builtin.append_, run_underlying ht, run_underlying hd, sizeOf, typeInfo, zeroValue, hi, hz, asInt, asIntOf, hw, e1, e2, hn1, h63'', h48', Question.forced, hol', hn0, newRow, grownCap]
      congr 2
      apply Array.ext'
      simp [hzl]
end

theorem source_ok (hY : YOK Y) (h : Rel W σ a w) {te : TI} {e : TypeId} {ie : TypeInfo} {de : TypeDesc} {ze : Value} (hee : TIOK Y e te ie de ze) {xt : TypeId} {x : V} {n : Nat} {new : List V}
    (hs : source Y σ te xt x = some (n, new)) {ux : Value} (hx : VR W x ux) : ∃ news, VRs W new news ∧ news.length = n * te.size ∧ Src Y.P w xt ux ie.bytes ie.size ze.cells n news := by
  unfold source at hs
  split at hs
  · cases hs
  · rename_i k hk
    obtain ⟨tx, htx, hk'⟩ := kd_of hk
    obtain ⟨ix, dx, zx, hxx⟩ := hY.ty xt tx htx
    have hkd := hxx.kd
    rw [hk'] at hkd
    cases hkd
    split at hs
    · rename_i k' m
      split at hs
      · rename_i hc
        obtain ⟨c0, c1, c2⟩ := hc
        simp at hs; obtain ⟨rfl, rfl⟩ := hs
        cases hx
        have hzl := (hee.zr W).length
        have hzl2 := hee.zl
        have hzs : ze.cells.size = te.size := by rw [← Array.length_toList, ← hzl, hzl2]
        have hm : most = 1099511627776 := by decide
        refine ⟨_, zero_row (hee.zr W) m.toNat, by rw [List.length_map, List.length_range, hzs], .zeros k k' m hxx.und rfl c0 (by rw [hm] at c1; exact c1) rfl (by rw [hee.bytes, ← hm]; exact c2) ?_ (by rw [hzs, hee.size])⟩
        rw [Builtin.zeroCells, range_map]
      · cases hs
    · cases hs
  · rename_i kd hni hk
    obtain ⟨tx, htx, hk'⟩ := kd_of hk
    obtain ⟨ix, dx, zx, hxx⟩ := hY.ty xt tx htx
    have hkd := hxx.kd
    rw [hk'] at hkd
    have hdi : ∀ k, dx ≠ .int k := by
      intro k he
      subst he
      cases kd <;> simp [KdOK] at hkd
      exact hni _ rfl
    unfold elems at hs
    split at hs
    · rename_i l
      split at hs
      · rename_i h1
        simp at hs; obtain ⟨rfl, rfl⟩ := hs
        cases hx
        refine ⟨l.map fun c => Value.int .u8 c.toNat, ?_, by simp [h1], .cells dx hxx.und hdi (fun w' => rfl) (fun w' _ => ?_)⟩
        · clear h1
          induction l with
          | nil => exact .nil
          | cons c l ih => exact .cons _ _ _ _ (.i _ _) ih
        · have e1 : (⟨l.toArray⟩ : ByteArray).extract 0 l.length = ⟨l.toArray⟩ := by
            rw [drop_extract]; simp
          simp [Builtin.firstCells, e1]
      · cases hs
    · obtain ⟨us, h1, h2, h3⟩ := elemsS_ok h hs hx
      refine ⟨us, h1, h2, .cells dx hxx.und hdi (fun w' => ?_) (fun w' hw' => ?_)⟩
      · rcases h3 with ⟨rfl, rfl⟩ | ⟨y, cap, rfl, _, _⟩ <;> rfl
      · rcases h3 with ⟨rfl, rfl⟩ | ⟨y, cap, rfl, _, hc⟩
        · have : us = [] := by simpa using h2
          subst this
          simp [Builtin.firstCells]
        · rw [hee.size]
          exact run_firstCells_some w' te.size n y n cap us h2 (hc.same hw')

theorem append_ok (hY : YOK Y) (h : Rel W σ a w) {st xt ty : TypeId} {s x v : V} {h' : Heap} (ha : appendY Y σ st xt s x = some (v, h')) {us ux : Value} (hs : VR W s us) (hx : VR W x ux) :
    ∃ (W' : Vw) (w' : World) (u : Value), (Builtin.append_ #[st, xt] ty #[us, ux]).run Y.P w = .ok u w' ∧ HRel W' h' w' ∧ Stp W W.own w W' W'.own w' ∧ VR W' v u := by
  unfold appendY at ha
  split at ha
  case h_2 => cases ha
  rename_i e hk
  obtain ⟨ti, hti, hk'⟩ := kd_of hk
  obtain ⟨it, dt, zt, ht⟩ := hY.ty st ti hti
  have hkd := ht.kd
  rw [hk'] at hkd
  cases hkd
  split at ha
  · cases ha
  rename_i te hte
  obtain ⟨ie, de, ze, hee⟩ := hY.ty e te hte
  split at ha
  · cases ha
  rename_i n new hsrc
  obtain ⟨news, hv, hnl, hS⟩ := source_ok hY h hee hsrc hx
  split at ha
  · cases ha
  rename_i hcond
  simp only [Bool.or_eq_true, Bool.not_eq_true', decide_eq_true_eq, not_or, Bool.not_eq_false] at hcond
  obtain ⟨hac, hsz⟩ := hcond
  have h1 := oneCells_ok hv hac
  have hnewl := hv.length
  have hmost : most = 1099511627776 := by decide
  have hzl := (hee.zr W).length
  have hzl2 := hee.zl
  have hzs : ze.cells.size = te.size := by rw [← Array.length_toList, ← hzl, hzl2]
  -- nothing is appended
  have nothing : ∀ (y : Addr) (len cap : Nat), us = .slice (some y) len cap → n = 0 → len ≤ cap → (Builtin.append_ #[st, xt] ty #[us, ux]).run Y.P w = .ok us w := by
    intro y len cap hu hn hle
    subst hu hn
    have hnn : news = [] := by simpa using hnl
    subst hnn
    exact app_fits ht.und hee.info hee.zero hS y len cap (by omega) rfl
  -- a new row
  have grown : ∀ (ao : Option Addr) (len cap : Nat) (old : List V) (olds : List Value) (k : Nat) (hh : Heap) (W1 : Vw) (w0 : World), us = .slice ao len cap → cap < len + n → (len + n) * te.bytes ≤ most → len + n ≤ most → VRs W old olds →
      olds.length = len * te.size → (∀ w', Same w w' → (Builtin.firstCells ie.size len (.slice ao len cap)).run Y.P w' = .ok olds.toArray w') → k = te.size → w0 = w → Le W W1 → HRel W1 hh w → Stp W W.own w W1 W1.own w → ∀ wr tg, (tg = none ∨ tg = some e) →
      ∃ (W' : Vw) (w' : World) (u : Value), (Builtin.append_ #[st, xt] ty #[us, ux]).run Y.P w = .ok u w' ∧ HRel W' (hh.pushT tg (.arr (old ++ new) wr)) w' ∧ Stp W W.own w W' W'.own w' ∧ VR W' (.sl (some (hh.nx, 0)) (len + n) none k) u := by
    intro ao len cap old olds k hh W1 w0 hu hgt hb hlim hvo hol hfirst hke _ hle hr1 hstp wr tg htg
    subst hu hke
    have hrun := app_grow (ty := ty) ht.und hee.info hee.zero hS ao len cap hgt olds hfirst (by rw [← hmost]; exact hlim) (by rw [hee.bytes, ← hmost]; exact hb)
    have hge := grownCap_ge w (len + n) cap e
    generalize grownCap w (len + n) cap e = cap2 at hrun hge
    have hall : VRs W1 (old ++ new) (olds ++ news) := (hvo.append hv).mono hle
    have hrest : (olds ++ (news ++ (Builtin.zeroCells ze.cells (cap2 - (len + n))).toList)).toArray = ((olds ++ news) ++ (Builtin.zeroCells ze.cells (cap2 - (len + n))).toList).toArray := by simp
    rw [hrest] at hrun
    obtain ⟨g1, g2⟩ := hr1.newRowT (w1 := w.drew) rfl ⟨rfl, rfl, rfl⟩ (Builtin.zeroCells ze.cells (cap2 - (len + n))).toList hall e wr htg
    refine ⟨_, _, _, hrun, g1, hstp.trans g2, ?_⟩
    have hlen : (olds ++ news).length + (Builtin.zeroCells ze.cells (cap2 - (len + n))).toList.length = cap2 * te.size := by
      rw [List.length_append, hol, hnl, Array.length_toList, size_zeroCells, hzs, ← Nat.add_mul, ← Nat.add_mul]
      congr 1; omega
    refine .sls _ _ _ _ _ _ _ (.inr rfl) hge (fun c hc => nomatch hc) (fun _ _ => ?_) (fun _ _ => ?_) (fun _ => ?_)
    · simp [Vw.at, Vw.push]
    · rw [hlen]; simp [Vw.push]
    · rw [hlen]; simp [Vw.push]
  split at ha
  · -- nil
    rename_i q c k
    cases hs
    split at ha
    · rename_i hn
      simp at ha; obtain ⟨rfl, rfl⟩ := ha
      subst hn
      exact ⟨W, w, _, app_nil0 ht.und hee.info hS, h.heap, Stp.refl _ _ _, .sln _ _⟩
    · rename_i hn
      split at ha
      · rename_i hb
        simp at ha; obtain ⟨rfl, rfl⟩ := ha
        obtain ⟨W', w', u, r1, r2, r3, r4⟩ := grown none 0 0 [] [] te.size σ.h W w rfl (by omega) (by simpa using hb.1) (by simpa using hb.2) .nil (by simp) (fun w' _ => rfl) rfl rfl (.refl W) h.heap (Stp.refl _ _ _) true (Y.tag e) (by unfold YP.tag; split <;> simp)
        simp only [List.nil_append, Nat.zero_add] at r2 r4
        exact ⟨W', w', u, r1, r2, r3, r4⟩
      · cases ha
  · -- the call's own
    rename_i id o len c k
    split at ha
    · cases ha
    rename_i hks
    simp only [ne_eq, Decidable.not_not] at hks
    subst hks
    have hsv := hs
    cases hs with
    | sls _ _ _ _ _ y cap' hid hl hc hay hcn hck =>
    split at ha
    · rename_i hn
      simp at ha; obtain ⟨rfl, rfl⟩ := ha
      exact ⟨W, w, _, nothing y len cap' rfl hn hl, h.heap, Stp.refl _ _ _, hsv⟩
    rename_i hn
    split at ha
    · cases ha
    rename_i hlim
    have hb : (len + n) * te.bytes ≤ most := by omega
    have hlim : len + n ≤ most := by omega
    -- written in its own place
    have inplace : ∀ (cs : List V) (hget : σ.h.get id = some (.arr cs true)) (hroom : o + (len + n) * te.size ≤ cs.length) (hcap : len + n ≤ cap'),
        ∃ (W' : Vw) (w' : World) (u : Value), (Builtin.append_ #[st, xt] ty #[.slice (some y) len cap', ux]).run Y.P w = .ok u w' ∧ HRel W' (σ.h.set id (some (.arr (splice cs (o + len * te.size) new) true))) w' ∧ Stp W W.own w W' W'.own w' ∧
          VR W' (.sl (some (id, o)) (len + n) c te.size) u := by
      intro cs hget hroom hcap
      have hlv : W.lv id := (h.heap.lv id).2 (by simp [hget])
      have hroom' : o + len * te.size + new.length ≤ cs.length := by rw [hnewl, hnl]; rw [Nat.add_mul] at hroom; omega
      obtain ⟨w', g1, g2, g3⟩ := h.heap.spliceAt hget hroom' hv h1 Y.P
      have hy := hay hlv (by omega)
      have hst : (storeCells (y.add (len * ie.size)) news 0).run Y.P w = .ok () w' := by
        rw [hy, hee.size]; unfold Vw.at at *; rw [add_at, Nat.add_assoc]; exact g1
      exact ⟨W, w', _, app_fits ht.und hee.info hee.zero hS y len cap' hcap hst, g2, g3, .sls id o (len + n) c te.size y cap' hid hcap hc hay hcn hck⟩
    have oldcells : ∀ (old : List V), cellsAt σ (len * te.size) (.hp id o) = some old → ∃ olds, VRs W old olds ∧ olds.length = len * te.size ∧
        (∀ w', Same w w' → (Builtin.firstCells ie.size len (.slice (some y) len cap')).run Y.P w' = .ok olds.toArray w') := by
      intro old hold
      obtain ⟨olds, q1, q2, q3⟩ := elemsS_ok h (k := te.size) (n := len) (v := .sl (some (id, o)) len c te.size) (l := old) (by simp [elemsS, hold]) hsv
      refine ⟨olds, q1, q2, fun w' hw' => ?_⟩
      rcases q3 with ⟨hq, _⟩ | ⟨y', cap2, hq, _, hcw⟩
      · cases hq
      · cases hq
        rw [hee.size]
        exact run_firstCells_some w' te.size len y len cap' olds q2 (hcw.same hw')
    split at ha
    · rename_i c0
      have hc0 := hc c0 rfl
      split at ha
      · rename_i hfit
        split at ha
        · rename_i cs hget
          split at ha
          · rename_i hroom
            simp at ha; obtain ⟨rfl, rfl⟩ := ha
            exact inplace cs hget hroom (by omega)
          · cases ha
        · cases ha
      · rename_i hfit
        split at ha
        · rename_i old hold
          simp at ha; obtain ⟨rfl, rfl⟩ := ha
          obtain ⟨olds, q1, q2, q3⟩ := oldcells old hold
          exact grown (some y) len cap' old olds te.size σ.h W w rfl (by omega) hb hlim q1 q2 q3 rfl rfl (.refl W) h.heap (Stp.refl _ _ _) true none (.inl rfl)
        · cases ha
    · split at ha
      · rename_i cs wr hget
        have hlv : W.lv id := (h.heap.lv id).2 (by simp [hget])
        split at ha
        · rename_i hroom
          split at ha
          · rename_i hwr
            subst hwr
            simp at ha; obtain ⟨rfl, rfl⟩ := ha
            refine inplace cs hget hroom ?_
            -- the object lies within the capacity
            obtain ⟨cc, et, fr, hcb, hcs, hin, _⟩ := h.heap.obj id _ hget
            have := hcn hlv rfl
            rw [hcs] at hin
            have hle : (len + n) * te.size ≤ cap' * te.size := by omega
            exact Nat.le_of_mul_le_mul_right hle (by omega)
          · cases ha
        · rename_i hroom
          split at ha
          · rename_i hwr
            split at ha
            · rename_i old hold
              simp at ha; obtain ⟨rfl, rfl⟩ := ha
              obtain ⟨olds, q1, q2, q3⟩ := oldcells old (by simp only [cellsAt, hget]; exact hold)
              by_cases hcap : len + n ≤ cap'
              · -- the old block goes on
                obtain ⟨cc, et, fr, hcb, hcs, hin, hcells, hfrz⟩ := h.heap.obj id _ hget
                have hend := hcn hlv rfl
                have hy := hay hlv (by omega)
                have holdl := q1.length
                rw [q2] at holdl
                have hmul : len * te.size + n * te.size ≤ cap' * te.size := by rw [← Nat.add_mul]; exact Nat.mul_le_mul_right _ hcap
                have hrm : (W.mu id).2 + (o + len * te.size) + 0 + news.length ≤ cc.size := by rw [hnl, hcs]; omega
                obtain ⟨ho1, ho2⟩ := takeX_eq _ _ _ hold
                have hfz : ∀ j, (W.mu id).2 + (o + len * te.size) + 0 ≤ j → j < (W.mu id).2 + (o + len * te.size) + 0 + news.length → ¬ (fr.1 ≤ j ∧ j < fr.2) := by
                  intro j hj hj'
                  refine hfrz j ?_ (by omega)
                  cases wr with
                  | true => simp; omega
                  | false =>
                    simp only [Bool.false_or, decide_eq_true_eq] at hwr
                    simp; omega
                have hst := run_storeCellsY (P := Y.P) (W.mu id).1 ((W.mu id).2 + (o + len * te.size)) et fr news 0 cc w hcb hrm hfz h1
                have hst' : (storeCells (y.add (len * ie.size)) news 0).run Y.P w = .ok () (w.putB (W.mu id).1 (.cells (splice cc.toList ((W.mu id).2 + (o + len * te.size) + 0) news).toArray et fr)) := by
                  rw [hy, hee.size]; unfold Vw.at; rw [add_at, Nat.add_assoc]; exact hst
                have hrun := app_fits (ty := ty) ht.und hee.info hee.zero hS y len cap' hcap hst'
                have hspl : (splice cc.toList ((W.mu id).2 + (o + len * te.size) + 0) news).length = cc.size := by rw [splice_length _ _ _ (by simpa using hrm)]; simp
                have hgo := h.heap.go ⟨rfl, rfl, rfl⟩ (i := id) (off := o) (w' := w.putB (W.mu id).1 (.cells (splice cc.toList ((W.mu id).2 + (o + len * te.size) + 0) news).toArray et fr)) hlv (o := .arr (old ++ new) wr) (putB_others _ _ _) (putB_size _ _ _) ?_
                · refine ⟨_, _, _, hrun, hgo.1.tagIf (.inr rfl) (fun x hx => ?_), hgo.2, ?_⟩
                  · split at hx
                    · rename_i hcd
                      simp only [Option.some.injEq] at hx
                      subst hx
                      obtain ⟨g1, c2, fr2, g2, g3, g4⟩ := (h.heap.tg _ (tagIn_mem hcd.2)).2 hlv
                      rw [hcb] at g2
                      simp only [Option.some.injEq, Obj.cells.injEq] at g2
                      obtain ⟨rfl, rfl, rfl⟩ := g2
                      intro _
                      simp only [Heap.nx_set, Vw.go, if_true]
                      exact ⟨by rw [g1, hcd.1], _, _, putB_same _ _ _ (lt_of_block hcb), g3, by rw [List.size_toArray, hspl]; exact g4⟩
                    · cases hx
                  refine .sls _ _ _ _ _ _ _ (.inr rfl) hcap (fun c hc => nomatch hc) (fun _ _ => ?_) (fun _ _ => ?_) (fun _ => ?_)
                  · rw [hy]; simp [Vw.at, Vw.go]
                  · simp [Vw.go]; omega
                  · simp [Vw.go]; omega
                · refine ⟨(splice cc.toList ((W.mu id).2 + (o + len * te.size) + 0) news).toArray, et, fr, by simpa [Vw.go] using putB_same w _ _ (lt_of_block hcb), by rw [List.size_toArray, hspl]; simpa [Vw.go] using hcs, ?_, fun j v hj => ?_, fun j hj hj' => ?_⟩
                  · rw [List.size_toArray, hspl]; simp only [Vw.go, if_true, List.length_append]; rw [hnewl, hnl, holdl, hcs]; omega
                  · simp only [Vw.go, if_true, List.getElem?_toArray]
                    rw [splice_get _ _ _ _ (by simpa using hrm)]
                    by_cases hjo : j < old.length
                    · rw [List.getElem?_append_left hjo] at hj
                      rw [if_neg (by omega)]
                      rw [ho1, List.getElem?_take] at hj
                      split at hj
                      · rw [List.getElem?_drop] at hj
                        obtain ⟨u, hu, hru⟩ := hcells _ v hj
                        exact ⟨u, by simpa [Nat.add_assoc] using hu, hru.mono (W.go_le (h.heap.new (Nat.le_refl _)) _ _)⟩
                      · cases hj
                    · rw [List.getElem?_append_right (by omega)] at hj
                      obtain ⟨u, hu, hru⟩ := hv.get hj
                      have hlt := (List.getElem?_eq_some_iff.1 hu).1
                      rw [if_pos (by omega)]
                      refine ⟨u, ?_, hru.mono (W.go_le (h.heap.new (Nat.le_refl _)) _ _)⟩
                      rw [show (W.mu id).2 + o + j - ((W.mu id).2 + (o + len * te.size) + 0) = j - old.length by omega]
                      exact hu
                  · rw [List.size_toArray, hspl] at hj'
                    simp only [Vw.go, if_true, List.length_append] at hj
                    refine hfrz j ?_ hj'
                    cases wr with
                    | true => simp at hj ⊢; omega
                    | false =>
                      simp only [Bool.false_or, decide_eq_true_eq] at hwr
                      simp at hj ⊢; omega
              · obtain ⟨k1, k2⟩ := h.heap.kill (h.heap.ltg ((h.heap.lv id).1 hlv))
                have := grown (some y) len cap' old olds te.size (σ.h.set id none) (W.kill id) w rfl (by omega) hb hlim q1 q2 q3 rfl rfl (W.kill_le id) k1 k2 wr (if o = 0 ∧ σ.h.tagOf id = some e then some e else none) (by split <;> simp)
                simpa using this
            · cases ha
          · cases ha
      · cases ha
  · -- read-only
    rename_i cs len c
    by_cases hnz : us = .slice none 0 0
    · subst hnz
      have hlen : len = 0 ∧ cs = [] ∧ ∀ k, c = some k → k = 0 := by
        cases hs with
        | tsz _ hc => exact ⟨rfl, rfl, hc⟩
      obtain ⟨rfl, rfl, hc0⟩ := hlen
      split at ha
      · rename_i hn
        simp at ha; obtain ⟨rfl, rfl⟩ := ha
        subst hn
        exact ⟨W, w, _, app_nil0 ht.und hee.info hS, h.heap, Stp.refl _ _ _, hs⟩
      rename_i hn
      split at ha
      · cases ha
      rename_i hlim
      split at ha
      · rename_i c0
        have hz := hc0 c0 rfl
        subst hz
        split at ha
        · cases ha
        · split at ha
          · rename_i old hold
            have ho : old = [] := by simpa [takeX] using hold.symm
            subst ho
            simp at ha; obtain ⟨rfl, rfl⟩ := ha
            obtain ⟨W', w', u, r1, r2, r3, r4⟩ := grown none 0 0 [] [] te.size σ.h W w rfl (by omega) (by simpa using (show (0 + n) * te.bytes ≤ most by omega)) (by omega) .nil (by simp) (fun w' _ => rfl) rfl rfl (.refl W) h.heap (Stp.refl _ _ _) true none (.inl rfl)
            simp only [List.nil_append, Nat.zero_add] at r2 r4
            exact ⟨W', w', u, r1, by simpa using r2, r3, by simpa using r4⟩
          · cases ha
      · cases ha
    have shape : ∃ y cap', us = .slice (some y) len cap' ∧ len ≤ cap' ∧ (∀ k, c = some k → cap' = k) := by
      cases hs with
      | tsz _ _ => exact absurd rfl hnz
      | tsn _ _ y cap' hl hc => exact ⟨y, cap', rfl, hl, hc⟩
      | ts _ _ _ cap' blk off cc et fr us hl hcap hs hcc hr => exact ⟨_, cap', rfl, hl, hcap⟩
    obtain ⟨y, cap', hus, hl, hc⟩ := shape
    split at ha
    · rename_i hn
      simp at ha; obtain ⟨rfl, rfl⟩ := ha
      exact ⟨W, w, _, nothing y len cap' hus hn hl, h.heap, Stp.refl _ _ _, hs⟩
    rename_i hn
    split at ha
    · cases ha
    rename_i hlim
    have hb : (len + n) * te.bytes ≤ most := by omega
    have hlim : len + n ≤ most := by omega
    split at ha
    · rename_i c0
      have hc0 := hc c0 rfl
      split at ha
      · cases ha
      · rename_i hfit
        split at ha
        · rename_i old hold
          simp at ha; obtain ⟨rfl, rfl⟩ := ha
          obtain ⟨olds, q1, q2, q3⟩ := elemsS_ok h (k := te.size) (n := len) (l := old) (v := .ts cs len (some c0)) (by simp [elemsS, hold]) hs
          subst hus
          refine grown (some y) len cap' old olds te.size σ.h W w rfl (by omega) hb hlim q1 q2 (fun w' hw' => ?_) rfl rfl (.refl W) h.heap (Stp.refl _ _ _) true none (.inl rfl)
          rcases q3 with ⟨hq, _⟩ | ⟨y', cap2, hq, _, hcw⟩
          · cases hq
          · cases hq
            rw [hee.size]
            exact run_firstCells_some w' te.size len y len cap' olds q2 (hcw.same hw')
        · cases ha
    · cases ha
  · cases ha
end
end Go.Y
