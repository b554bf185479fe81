/- 'opQ': every operation that turns nothing. -/
import Derived.Test.YteennilbmmlikaaGreatDoorYQuiet5
import Derived.Laws.BytesString
namespace Go.Y
section
variable {Y : YP} {W : Vw} {σ : St} {a : Act} {w : World}

theorem execV {o : Oper} {ρ : Operand → Value} {s : Sem Value} {P : Program} {u : Value} {w : World} (he : execOp ρ o = (do pure (.value (← s)))) (h : s.run P w = .ok u w) :
    (execOp ρ o).run P w = .ok (.value u) w := by
  rw [he]
  show (s >>= fun x => pure (Next.value x)).run P w = _
  rw [Sem.run_bind, h]
  rfl

theorem bytes_ints : ∀ {cs : List V} {us : List Value} {l : List UInt8}, VRs W cs us → bytesOf cs = some l → ∃ ns : List Int, us = ns.map (Value.int .u8) ∧ l = ns.map fun n => UInt8.ofNat n.toNat
  | _, _, l, .nil, h => by simp [bytesOf] at h; subst h; exact ⟨[], rfl, rfl⟩
  | _, _, l, .cons v u cs us hv hs, h => by
    cases v with
    | i k n =>
      cases k with
      | u8 =>
        simp only [bytesOf, Option.map_eq_some_iff] at h
        obtain ⟨l', hl', rfl⟩ := h
        cases hv
        obtain ⟨ns, h1, h2⟩ := bytes_ints hs hl'
        exact ⟨n :: ns, by simp [h1], by simp [h2]⟩
      | _ => simp [bytesOf] at h
    | _ => simp [bytesOf] at h

theorem foldInt_ok {op : Int → Int → Int} {f : Value → Value → Sem Value} (hf : ∀ k x y, f (.int k x) (.int k y) = pure (.int k (op x y))) :
    ∀ {vs : List V} {us : List Value} {k : IntKind} {m : Int} {r : V}, VRs W vs us → foldIntA op k m vs = some r → ∃ u, VR W r u ∧ ∀ w, (us.foldlM f (.int k m) : Sem Value).run Y.P w = .ok u w
  | _, _, k, m, r, .nil, h => by simp [foldIntA] at h; subst h; exact ⟨_, .i _ _, fun w => rfl⟩
  | _, _, k, m, r, .cons v u vs us hv hs, h => by
    cases v <;> simp only [foldIntA, reduceCtorEq] at h
    split at h
    · rename_i hk; subst hk
      cases hv
      obtain ⟨u', h1, h2⟩ := foldInt_ok hf hs h
      exact ⟨u', h1, fun w => by simp only [List.foldlM_cons, hf, Sem.run_bind, Sem.run_pure, Result.andThen_ok, h2]⟩
    · cases h

theorem Rel.evs (h : Rel W σ a w) : ∀ (xs : List Operand), VRs W (xs.map (Go.Y.ev σ.env)) (xs.map a.eval)
  | [] => .nil
  | x :: xs => .cons _ _ _ _ (h.ev x) (h.evs xs)

theorem Rel.evo (h : Rel W σ a w) (x : Option Operand) : OR W (x.map (Go.Y.ev σ.env)) (x.map a.eval) := by
  cases x with
  | none => trivial
  | some x => exact h.ev x

theorem elemsS_ok (h : Rel W σ a w) {k n : Nat} {v : V} {l : List V} (he : elemsS σ k v = some (n, l)) {u : Value} (hv : VR W v u) :
    ∃ us, VRs W l us ∧ us.length = n * k ∧ ((u = .slice none 0 0 ∧ n = 0) ∨ ∃ y cap, u = .slice (some y) n cap ∧ n ≤ cap ∧ CellsW w y us) := by
  unfold elemsS at he
  split at he
  · split at he
    · rename_i hn; subst hn
      simp at he; obtain ⟨rfl, rfl⟩ := he
      cases hv
      exact ⟨[], .nil, by simp, .inl ⟨rfl, rfl⟩⟩
    · cases he
  · rename_i id o len cap k'
    split at he
    · rename_i hk; subst hk
      simp only [Option.map_eq_some_iff] at he
      obtain ⟨l', hl, he⟩ := he
      simp at he; obtain ⟨rfl, rfl⟩ := he
      cases hv with
      | sls _ _ _ _ _ y cap' hid hlc hc ha hn hk =>
        by_cases hz : len * k' = 0
        · have hnil : l' = [] := by
            rw [hz] at hl
            simp only [cellsAt] at hl
            split at hl
            · simpa [takeX] using hl.symm
            · cases hl
          subst hnil
          exact ⟨[], .nil, by simp [hz], .inr ⟨y, cap', rfl, hlc, fun j u hj => by simp at hj⟩⟩
        · have hpos : 0 < cap' := by
            rcases Nat.eq_zero_or_pos len with h0 | h0
            · simp [h0] at hz
            · omega
          obtain ⟨us, h1, h2, h3⟩ := cellsAt_ok (W := W) (σ := σ) (a := a) (w := w) h (ad := .hp id o) (y := y) ⟨hid, fun hv => ha hv hpos⟩ hl
          exact ⟨us, h1, h2, .inr ⟨y, cap', rfl, hlc, h3⟩⟩
    · cases he
  · rename_i cs len cap
    simp only [Option.map_eq_some_iff] at he
    obtain ⟨l', hl, he⟩ := he
    simp at he; obtain ⟨rfl, rfl⟩ := he
    cases hv with
    | tsz _ hc =>
      have hl0 : l' = [] := by simpa [takeX] using hl.symm
      subst hl0
      exact ⟨[], .nil, by simp, .inl ⟨rfl, rfl⟩⟩
    | tsn _ _ y cap' hlc hc =>
      obtain ⟨us, h1, h2, h3⟩ := cellsAt_ok (W := W) (σ := σ) (a := a) (w := w) h (ad := .ro []) (y := y) (.inl rfl) hl
      exact ⟨us, h1, h2, .inr ⟨y, cap', rfl, hlc, h3⟩⟩
    | ts _ _ _ cap' blk off cc et fr us hlc hcap hs hcc hr =>
      obtain ⟨us, h1, h2, h3⟩ := cellsAt_ok (W := W) (σ := σ) (a := a) (w := w) h (ad := .ro cs) (y := ⟨blk, off, none⟩) (.inr ⟨blk, off, cc, et, fr, us, rfl, hs, hcc, hr⟩) hl
      exact ⟨us, h1, h2, .inr ⟨_, cap', rfl, hlc, h3⟩⟩
  · cases he

theorem foldl_push (ns : List Int) : ∀ s : ByteArray, ns.foldl (fun r n => r.push (UInt8.ofNat n.toNat)) s = ⟨(s.data.toList ++ ns.map fun n => UInt8.ofNat n.toNat).toArray⟩ := by
  induction ns with
  | nil => intro s; simp
  | cons n ns ih =>
    intro s
    simp only [List.foldl_cons, ih]
    apply ByteArray.ext
    simp [ByteArray.push]

theorem map_run {r : Nat} {m : Array MapEntry} {clock : Nat} (h : w.heap[r]? = some (.map m clock)) : (getObj r).run Y.P w = .ok (.map m clock) w := by simp [getObj, Sem.run, h]

theorem partY_ok {ti : TI} {t : TypeId} {i : TypeInfo} {d : TypeDesc} {z : Value} (ht : TIOK Y t ti i d z) {xs l : List V} {us : List Value} (hr : VRs W xs us) {off : Nat}
    (hl : takeX ti.size (xs.drop off) = some l) {v : V} (hv : ofCells ti.kd.agg l = some v) : ∃ u, VR W v u ∧ ∀ w, (part t us.toArray off).run Y.P w = .ok u w := by
  obtain ⟨us', u, h1, h2, h3⟩ := part_ok ht hr hl
  obtain ⟨u', hu', he'⟩ := ofCells_ok h1 hv
  have huu : u = u' := by
    cases hag : ti.kd.agg <;> simp only [hag, Bool.false_eq_true, if_false, if_true] at h3 he'
    · rw [h3] at he'; simpa using he'
    · rw [h3, he']
  subst huu
  exact ⟨u, hu', h2⟩

set_option maxHeartbeats 1000000 in
theorem opQ_ok (hY : YOK Y) (h : Rel W σ a w) {o : Oper} {q : Q} (hq : opQ Y σ o = some q) :
    ∃ u, QR W σ a q u ∧ ∀ w', Same w w' → (execOp a.eval o).run Y.P w' = .ok (.value u) w' := by
  have mk : ∀ {s : Sem Value} {v : V}, execOp a.eval o = (do pure (.value (← s))) → (∃ u, VR W v u ∧ ∀ w', Same w w' → s.run Y.P w' = .ok u w') →
      ∃ u, QR W σ a (.val v) u ∧ ∀ w', Same w w' → (execOp a.eval o).run Y.P w' = .ok (.value u) w' := by
    rintro s v he ⟨u, h1, h2⟩
    exact ⟨u, h1, fun w' hw' => execV he (h2 w' hw')⟩
  cases hop : o.op with
  | move x => simp only [opQ, hop, Option.some.injEq] at hq; subst hq; exact ⟨_, h.ev x, fun w' _ => by simp [execOp, hop]⟩
  | assign x => simp only [opQ, hop, Option.some.injEq] at hq; subst hq; exact ⟨_, h.ev x, fun w' _ => by simp [execOp, hop]⟩
  | pick c x y =>
    simp only [opQ, hop] at hq
    split at hq
    · rename_i b hb
      simp at hq; subst hq
      have hc := h.ev c
      rw [hb] at hc
      generalize he : a.eval c = uc at hc
      cases hc
      refine ⟨if b then a.eval x else a.eval y, ?_, fun w' _ => by simp [execOp, hop, he, asBool]⟩
      cases b
      · exact h.ev y
      · exact h.ev x
    · cases hq
  | nilCheck x =>
    simp only [opQ, hop] at hq
    have hx := h.ev x
    split at hq
    · rename_i p hp
      simp at hq; subst hq
      rw [hp] at hx
      generalize he : a.eval x = ux at hx
      cases hx with
      | ps id off y hid ha => exact ⟨_, .ps id off y hid ha, fun w' _ => by simp [execOp, hop, he]⟩
    · rename_i cs hp
      simp at hq; subst hq
      rw [hp] at hx
      generalize he : a.eval x = ux at hx
      cases hx with
      | tpn y => exact ⟨_, .tpn y, fun w' _ => by simp [execOp, hop, he]⟩
      | tp _ blk off c e fr us hs hc hr => exact ⟨_, .tp cs blk off c e fr us hs hc hr, fun w' _ => by simp [execOp, hop, he]⟩
    · rename_i f fa fc hp
      simp at hq; subst hq
      rw [hp] at hx
      generalize he : a.eval x = ux at hx
      cases hx with
      | fn _ _ _ ua uc ha hc => exact ⟨_, .fn _ _ _ ua uc ha hc, fun w' _ => by simp [execOp, hop, he]⟩
    · split at hq
      · rename_i s off had
        simp at hq; subst hq
        obtain ⟨y, hy, b, hb, rfl⟩ := addr_ok h had
        exact ⟨_, ⟨b, hb, rfl⟩, fun w' _ => by simp [execOp, hop, hy]⟩
      · cases hq
    · cases hq
  | binOp op t x y yt =>
    simp only [opQ, hop, Option.map_eq_some_iff] at hq
    obtain ⟨v, hv, rfl⟩ := hq
    obtain ⟨u, h1, h2⟩ := binY_ok hY hv (h.ev x) (h.ev y)
    exact mk (by simp only [execOp, hop]) ⟨u, h1, fun w' _ => h2 w'⟩
  | unOp op t x =>
    simp only [opQ, hop, Option.map_eq_some_iff] at hq
    obtain ⟨v, hv, rfl⟩ := hq
    obtain ⟨u, h1, h2⟩ := unY_ok (Y := Y) hv (h.ev x)
    exact mk (by simp only [execOp, hop]) ⟨u, h1, fun w' _ => h2 w'⟩
  | makeFunc f fa fc =>
    simp only [opQ, hop, Option.some.injEq] at hq; subst hq
    refine ⟨.func f (fa.map a.eval) (fc.map a.eval), ?_, fun w' _ => by simp [execOp, hop, Instr.makeFunc]⟩
    have := VR.fn (W := W) f _ _ _ _ (h.evs fa.toList) (h.evs fc.toList)
    have e1 : (fa.toList.map a.eval).toArray = fa.map a.eval := by apply Array.ext'; simp
    have e2 : (fc.toList.map a.eval).toArray = fc.map a.eval := by apply Array.ext'; simp
    rw [e1, e2] at this
    exact this
  | makeInterface t x =>
    simp only [opQ, hop] at hq
    split at hq
    · cases hq
    · rename_i kd hnk hk
      simp at hq; subst hq
      obtain ⟨ti, hti, hk'⟩ := kd_of hk
      obtain ⟨i, d, z, ht⟩ := hY.ty t ti hti
      refine mk (v := .ifc t (ev σ.env x)) (s := Instr.makeInterface t (a.eval x)) (by simp only [execOp, hop]) ⟨.iface t (a.eval x), .ifc t _ _ (h.ev x), fun w' _ => ?_⟩
      have hkd := ht.kd
      have hni : ∀ ms, d ≠ .interface ms := by
        intro ms hd
        subst hd
        rw [hk'] at hkd
        cases kd <;> simp [KdOK] at hkd
        exact hnk rfl
      simp only [Instr.makeInterface, Sem.run_bind, run_underlying' ht.und, Result.andThen_ok]
      cases d <;> first | rfl | exact absurd rfl (hni _)
    · cases hq
  | build t parts =>
    simp only [opQ, hop] at hq
    split at hq
    · rename_i ti hti
      obtain ⟨i, d, z, ht⟩ := hY.ty t ti hti
      split at hq
      · rename_i fs hk
        have hkd := ht.kd
        rw [hk] at hkd
        obtain ⟨l, rfl, hfs, _⟩ := hkd
        split at hq
        · rename_i hall
          simp only [Option.map_eq_some_iff] at hq
          obtain ⟨_, ⟨r, hr, rfl⟩, rfl⟩ := hq
          obtain ⟨us, h1, h2⟩ := fill_ok h parts.toList _ _ _ (ht.zr W) hr
          refine mk (s := Instr.build t (parts.map fun p => (p.1, a.eval p.2))) (by simp only [execOp, hop]) ⟨_, .agg _ _ h1, fun w' _ => ?_⟩
          have hplaces : ∀ w, (l.mapM (fun f : Field => do pure (f.offset, ← sizeOf f.type) : Field → Sem (Nat × Nat))).run Y.P w = .ok (l.map fun f => (f.offset, ((Y.ty f.type).map (·.size)).getD 0)) w := by
            intro w
            rw [Array.mapM_eq_mapM_toList]
            have key : ∀ (fl : List Field), (∀ f ∈ fl, (Y.ty f.type).isSome = true) →
                (fl.mapM (fun f : Field => do pure (f.offset, ← sizeOf f.type) : Field → Sem (Nat × Nat))).run Y.P w = .ok (fl.map fun f => (f.offset, ((Y.ty f.type).map (·.size)).getD 0)) w := by
              intro fl
              induction fl with
              | nil => intro _; simp
              | cons f fl ih =>
                intro hf
                obtain ⟨tf, htf⟩ := Option.isSome_iff_exists.1 (hf f (by simp))
                obtain ⟨fi, fd, fz, hft⟩ := hY.ty _ tf htf
                simp only [List.mapM_cons, Sem.run_bind, run_sizeOf hft.info, Sem.run_pure, Result.andThen_ok, ih (fun g hg => hf g (by simp [hg])), List.map_cons, htf, Option.map_some, Option.getD_some, hft.size]
            have := key l.toList (fun f hf => by
              have := List.all_eq_true.1 hall (f.offset, f.type) (by rw [hfs]; exact List.mem_map.2 ⟨f, hf, rfl⟩)
              exact this)
            rw [Sem.run_map, this]
            simp only [Result.andThen_ok]
            congr 1
            apply Array.ext'
            simp
          have hz := ht.zero
          simp only [Instr.build, Sem.run_bind, run_zeroValue ht.info ht.zero, run_underlying' ht.und, Result.andThen_ok, hplaces]
          have hpl : ∀ j, (l.map fun f => (f.offset, ((Y.ty f.type).map (·.size)).getD 0))[j]? = placeS Y fs j := by
            intro j
            rw [hfs]
            unfold placeS
            rw [List.getElem?_map, Array.getElem?_map, Array.getElem?_toList]
            cases hj : l[j]? with
            | none => rfl
            | some f =>
              have hf := List.all_eq_true.1 hall (f.offset, f.type) (by rw [hfs]; exact List.mem_map.2 ⟨f, by simpa using Array.mem_of_getElem? hj, rfl⟩)
              obtain ⟨tf, htf⟩ := Option.isSome_iff_exists.1 hf
              simp [htf]
          have hfun : (fun x => (l.map fun f => (f.offset, ((Y.ty f.type).map (·.size)).getD 0))[x]?) = placeS Y fs := funext hpl
          have hzt : z.cells = z.cells.toList.toArray := by simp
          rw [hfun, hzt]
          have hpt : (parts.map fun p => (p.1, a.eval p.2)).toList = parts.toList.map fun p => (p.1, a.eval p.2) := by simp
          rw [hpt, h2]
          rfl
        · cases hq
      · rename_i n et hk
        have hkd := ht.kd
        rw [hk] at hkd
        obtain ⟨rfl, _⟩ := hkd
        split at hq
        · rename_i tf htf
          obtain ⟨fi, fd, fz, hft⟩ := hY.ty et tf htf
          simp only [Option.map_eq_some_iff] at hq
          obtain ⟨_, ⟨r, hr, rfl⟩, rfl⟩ := hq
          obtain ⟨us, h1, h2⟩ := fill_ok h parts.toList _ _ _ (ht.zr W) hr
          refine mk (s := Instr.build t (parts.map fun p => (p.1, a.eval p.2))) (by simp only [execOp, hop]) ⟨_, .agg _ _ h1, fun w' _ => ?_⟩
          simp only [Instr.build, Sem.run_bind, run_zeroValue ht.info ht.zero, run_underlying' ht.und, Result.andThen_ok, run_sizeOf hft.info, hft.size]
          have hzt : z.cells = z.cells.toList.toArray := by simp
          have hpt : (parts.map fun p => (p.1, a.eval p.2)).toList = parts.toList.map fun p => (p.1, a.eval p.2) := by simp
          rw [hzt, hpt, h2]
          rfl
        · cases hq
      · cases hq
    · cases hq
  | load t x =>
    simp only [opQ, hop] at hq
    split at hq
    · rename_i ti ad hti had
      simp only [Option.map_eq_some_iff] at hq
      obtain ⟨v, hv, rfl⟩ := hq
      exact mk (by simp only [execOp, hop]) (load_ok hY h hti had hv)
    · cases hq
  | fieldAddr t x f =>
    simp only [opQ, hop, Option.map_eq_some_iff] at hq
    obtain ⟨ad, had, rfl⟩ := hq
    obtain ⟨y, h1, h2⟩ := fieldA_ok hY h had
    exact ⟨_, h1.qr, fun w' hw' => execV (by simp only [execOp, hop]) (h2 w' hw')⟩
  | indexAddr t x ix =>
    simp only [opQ, hop, Option.map_eq_some_iff] at hq
    obtain ⟨ad, had, rfl⟩ := hq
    obtain ⟨y, h1, h2⟩ := indexA_ok hY h had
    exact ⟨_, h1.qr, fun w' hw' => execV (by simp only [execOp, hop]) (h2 w' hw')⟩
  | field t x f =>
    simp only [opQ, hop] at hq
    split at hq
    · rename_i fs cs hfs hcs
      obtain ⟨l, hl, rfl⟩ := fieldsOf_ok hY hfs
      split at hq
      · rename_i off ft hg
        split at hq
        · rename_i tf htf
          simp only [Option.map_eq_some_iff] at hq
          obtain ⟨v, hv, rfl⟩ := hq
          obtain ⟨fi, fd, fz, hft⟩ := hY.ty ft tf htf
          rw [List.getElem?_map, Option.map_eq_some_iff] at hg
          obtain ⟨fl, hfl, hfe⟩ := hg
          simp at hfe
          obtain ⟨rfl, rfl⟩ := hfe
          have hfl' : l[f]? = some fl := by simpa using hfl
          have hx := h.ev x
          rw [hcs] at hx
          generalize he : a.eval x = ux at hx
          cases hx with
          | agg _ us hr =>
            unfold partY at hv
            split at hv
            · rename_i l' hl'
              obtain ⟨u, hu, hp⟩ := partY_ok hft hr hl' hv
              exact mk (s := Instr.field t (.agg us.toArray) f) (by simp only [execOp, hop, he]) ⟨u, hu, fun w' _ => by
                simp only [Instr.field, Sem.run_bind, run_underlying' hl, Result.andThen_ok, hfl', asAgg, Sem.run_pure, hp]⟩
            · cases hv
        · cases hq
      · cases hq
    · cases hq
  | index t x ix =>
    simp only [opQ, hop] at hq
    have hx := h.ev x
    have hix := h.ev ix
    split at hq
    · rename_i l k i hk hxv hiv
      obtain ⟨ti, hti, hk'⟩ := kd_of hk
      obtain ⟨inf, d, z, ht⟩ := hY.ty t ti hti
      have hkd := ht.kd
      rw [hk'] at hkd
      cases hkd
      rw [hxv] at hx
      rw [hiv] at hix
      generalize he : a.eval x = ux at hx
      generalize hei : a.eval ix = ui at hix
      cases hx; cases hix
      split at hq
      · rename_i h0
        simp only [Option.map_eq_some_iff] at hq
        obtain ⟨_, ⟨c, hc, rfl⟩, rfl⟩ := hq
        refine mk (s := Instr.index t (.string ⟨l.toArray⟩) (.int k i)) (by simp only [execOp, hop, he, hei]) ⟨_, .i _ _, fun w' _ => ?_⟩
        have hg : (⟨l.toArray⟩ : ByteArray)[i.toNat]? = some c := by
          rw [List.getElem?_eq_some_iff] at hc
          obtain ⟨hlt, hc⟩ := hc
          rw [getElem?_pos _ _ (by exact hlt)]
          simp [← hc]
          rfl
        simp only [Instr.index, asIntOf, Sem.run_bind, Sem.run_pure, run_underlying' ht.und, Result.andThen_ok, h0, if_true, hg]
      · cases hq
    · rename_i n et cs k i hk hxv hiv
      obtain ⟨ti, hti, hk'⟩ := kd_of hk
      obtain ⟨inf, d, z, ht⟩ := hY.ty t ti hti
      have hkd := ht.kd
      rw [hk'] at hkd
      obtain ⟨rfl, _⟩ := hkd
      rw [hxv] at hx
      rw [hiv] at hix
      generalize he : a.eval x = ux at hx
      generalize hei : a.eval ix = ui at hix
      cases hix
      cases hx with
      | agg _ us hr =>
        split at hq
        · rename_i hin
          split at hq
          · rename_i tf htf
            obtain ⟨fi, fd, fz, hft⟩ := hY.ty et tf htf
            simp only [Option.map_eq_some_iff] at hq
            obtain ⟨v, hv, rfl⟩ := hq
            unfold partY at hv
            split at hv
            · rename_i l' hl'
              obtain ⟨u, hu, hp⟩ := partY_ok hft hr hl' hv
              exact mk (s := Instr.index t (.agg us.toArray) (.int k i)) (by simp only [execOp, hop, he, hei]) ⟨u, hu, fun w' _ => by
                simp only [Instr.index, asIntOf, Sem.run_bind, Sem.run_pure, run_underlying' ht.und, Result.andThen_ok, Sem.run_ite]
                rw [if_pos hin]
                simp only [run_sizeOf hft.info, Result.andThen_ok, hft.size, hp]⟩
            · cases hv
          · cases hq
        · cases hq
    · cases hq
  | extract t ix =>
    simp only [opQ, hop] at hq
    split at hq
    · rename_i vs hvs
      simp only [Option.map_eq_some_iff] at hq
      obtain ⟨v, hv, rfl⟩ := hq
      have ht := h.ev t
      rw [hvs] at ht
      generalize he : a.eval t = ut at ht
      cases ht with
      | tup _ us hr =>
        obtain ⟨u, hu, hvu⟩ := hr.get hv
        exact mk (s := Instr.extract (.tuple us.toArray) ix) (by simp only [execOp, hop, he]) ⟨u, hvu, fun w' _ => by simp [Instr.extract, hu]⟩
    · cases hq
  | slice t x lo hi mx =>
    simp only [opQ, hop, Option.map_eq_some_iff] at hq
    obtain ⟨v, hv, rfl⟩ := hq
    obtain ⟨u, h1, h2⟩ := slice_ok hY hv (h.ev x) (h.evo lo) (h.evo hi) (h.evo mx)
    exact mk (by simp only [execOp, hop]) ⟨u, h1, fun w' _ => h2 w'⟩
  | convert src dst x =>
    simp only [opQ, hop] at hq
    have hx := h.ev x
    split at hq
    · rename_i kd k k' n hks hkd hxv
      simp at hq; subst hq
      obtain ⟨ts, hts, hks'⟩ := kd_of hks
      obtain ⟨is, ds, zs, hs⟩ := hY.ty src ts hts
      obtain ⟨td, htd, hkd'⟩ := kd_of hkd
      obtain ⟨id, dd, zd, hd⟩ := hY.ty dst td htd
      have hdk := hd.kd
      rw [hkd'] at hdk
      cases hdk
      rw [hxv] at hx
      generalize he : a.eval x = ux at hx
      cases hx
      refine mk (s := convert src dst (.int k' n)) (by simp only [execOp, hop, he]) ⟨_, .i _ _, fun w' _ => ?_⟩
      simp [convert, run_underlying' hs.und, run_underlying' hd.und, Conv.intToInt]
    · rename_i l hks hkd hxv
      simp at hq; subst hq
      obtain ⟨ts, hts, hks'⟩ := kd_of hks
      obtain ⟨is, ds, zs, hs⟩ := hY.ty src ts hts
      obtain ⟨td, htd, hkd'⟩ := kd_of hkd
      obtain ⟨id, dd, zd, hd⟩ := hY.ty dst td htd
      have hdk := hd.kd
      have hsk := hs.kd
      rw [hkd'] at hdk
      rw [hks'] at hsk
      cases hdk; cases hsk
      rw [hxv] at hx
      generalize he : a.eval x = ux at hx
      cases hx
      refine mk (s := convert src dst (.string ⟨l.toArray⟩)) (by simp only [execOp, hop, he]) ⟨_, .s _, fun w' _ => ?_⟩
      simp [convert, run_underlying' hs.und, run_underlying' hd.und]
    · rename_i et hks hkd
      split at hq
      · rename_i hke
        simp only [Option.map_eq_some_iff] at hq
        obtain ⟨_, ⟨l, hl, rfl⟩, rfl⟩ := hq
        obtain ⟨⟨n, cs⟩, hel, hb⟩ := Option.bind_eq_some_iff.1 hl
        obtain ⟨ts, hts, hks'⟩ := kd_of hks
        obtain ⟨is, ds, zs, hs⟩ := hY.ty src ts hts
        obtain ⟨td, htd, hkd'⟩ := kd_of hkd
        obtain ⟨id, dd, zd, hd⟩ := hY.ty dst td htd
        obtain ⟨te, hte, hke'⟩ := kd_of hke
        obtain ⟨ie, de, ze, hee⟩ := hY.ty et te hte
        have hdk := hd.kd
        have hsk := hs.kd
        have hek := hee.kd
        rw [hkd'] at hdk
        rw [hks'] at hsk
        rw [hke'] at hek
        cases hdk; cases hsk; cases hek
        obtain ⟨us, h1, h2, h3⟩ := elemsS_ok h hel hx
        obtain ⟨ns, rfl, rfl⟩ := bytes_ints h1 hb
        have conv : ∀ (x : Value) w', (∃ y c, x = .slice (some y) n c) ∨ x = .slice none 0 0 → (convert src dst x).run Y.P w' = (Conv.bytesToString x).run Y.P w' := by
          intro x w' hx
          rcases hx with ⟨y, c, rfl⟩ | rfl <;> simp [convert, run_underlying' hs.und, run_underlying' hd.und, run_underlying' hee.und]
        refine mk (s := convert src dst (a.eval x)) (by simp only [execOp, hop]) ⟨_, .s _, fun w' hw' => ?_⟩
        rcases h3 with ⟨hu, rfl⟩ | ⟨y, cap, hu, hle, hc⟩
        · rw [hu, conv _ _ (.inr rfl)]
          simp at h2
          subst h2
          rfl
        · rw [hu, conv _ _ (.inl ⟨y, cap, rfl⟩)]
          have hlen : n = (ns.map (Value.int .u8)).length := by rw [h2]; simp
          have hrun : (loadCells y n).run Y.P w' = .ok (ns.map (Value.int .u8)).toArray w' := by
            rw [hlen]; exact run_loadCells_list w' y _ (hc.same hw')
          rw [run_bytesToString w' y n cap ns hrun, foldl_push]
          simp
      · cases hq
    · cases hq
  | call c =>
    obtain ⟨callee, args, argTypes⟩ := c
    cases callee with
    | value f => simp [opQ, hop] at hq
    | invoke r m => simp [opQ, hop] at hq
    | builtin b =>
      have hres : ∀ (b : Builtin) w', (resolve a.eval ⟨.builtin b, args, argTypes⟩ o.type).run Y.P w' = .ok { target := .builtin b argTypes o.type (args.map fun | .const _ => true | _ => false), args := args.map a.eval } w' := fun b w' => rfl
      cases b with
      | len =>
        simp only [opQ, hop] at hq
        split at hq
        · rename_i t x hat har
          have hat' : argTypes = #[t] := by apply Array.ext'; simpa using hat
          have har' : args = #[x] := by apply Array.ext'; simpa using har
          subst hat' har'
          have hx := h.ev x
          have fin : ∀ {v : V} {u : Value}, VR W v u → (∀ w', Same w w' → (Builtin.len_ #[t] o.type #[a.eval x]).run Y.P w' = .ok u w') →
              ∃ u, QR W σ a (.val v) u ∧ ∀ w', Same w w' → (execOp a.eval o).run Y.P w' = .ok (.value u) w' := by
            intro v u hv hr
            refine ⟨u, hv, fun w' hw' => ?_⟩
            have e1 := hres .len w'
            have e2 := hr w' hw'
            simp only [execOp, hop, Sem.run_bind, e1, Result.andThen_ok, invoke, builtin]
            have e3 : (#[x].map a.eval) = #[a.eval x] := by simp
            rw [e3]
            simp only [e2, Result.andThen_ok, Sem.run_pure]
          have kdt : ∀ {kd}, Y.kd t = some kd → ∃ d, Y.P.underlying t = some d ∧ KdOK Y t kd d := by
            intro kd hk
            obtain ⟨ti, hti, hk'⟩ := kd_of hk
            obtain ⟨i, d, z, ht⟩ := hY.ty t ti hti
            exact ⟨d, ht.und, hk' ▸ ht.kd⟩
          split at hq
          · rename_i l hk hxv
            simp at hq; subst hq
            obtain ⟨d, hd, hkd⟩ := kdt hk
            cases hkd
            rw [hxv] at hx
            generalize a.eval x = ux at hx fin
            cases hx
            exact fin (.i .i64 _) (fun w' _ => by simp only [Builtin.len_]; simp [run_underlying' hd, goInt]; rfl)
          · rename_i e q n c k hk hxv
            simp at hq; subst hq
            obtain ⟨d, hd, hkd⟩ := kdt hk
            cases hkd
            rw [hxv] at hx
            generalize a.eval x = ux at hx fin
            cases hx
            · exact fin (.i .i64 _) (fun w' _ => by simp [Builtin.len_, run_underlying' hd, goInt])
            · exact fin (.i .i64 _) (fun w' _ => by simp [Builtin.len_, run_underlying' hd, goInt])
          · rename_i e cs n c hk hxv
            simp at hq; subst hq
            obtain ⟨d, hd, hkd⟩ := kdt hk
            cases hkd
            rw [hxv] at hx
            generalize a.eval x = ux at hx fin
            cases hx
            · exact fin (.i .i64 _) (fun w' _ => by simp [Builtin.len_, run_underlying' hd, goInt])
            · exact fin (.i .i64 _) (fun w' _ => by simp [Builtin.len_, run_underlying' hd, goInt])
            · exact fin (.i .i64 _) (fun w' _ => by simp [Builtin.len_, run_underlying' hd, goInt])
          · rename_i e1 e2 hk hxv
            simp at hq; subst hq
            obtain ⟨d, hd, hkd⟩ := kdt hk
            cases hkd
            rw [hxv] at hx
            generalize a.eval x = ux at hx fin
            cases hx
            exact fin (.i .i64 _) (fun w' _ => by simp [Builtin.len_, run_underlying' hd, goInt])
          · rename_i e1 e2 r hk hxv
            split at hq
            · rename_i es hes
              simp at hq; subst hq
              obtain ⟨d, hd, hkd⟩ := kdt hk
              cases hkd
              rw [hxv] at hx
              generalize a.eval x = ux at hx fin
              cases hx with
              | mps _ r' hid hr =>
                have hlv : W.lv r := (h.heap.lv r).2 (by simp [hes])
                obtain ⟨m, clock, hb, hk1, hk2⟩ := h.heap.obj r _ hes
                have hlen : (es.length : Int) = (m.size : Int) := by have := hk1.length; simp at this; omega
                refine fin (.i .i64 _) (fun w' hw' => ?_)
                have hrr := hr hlv
                subst hrr
                simp [Builtin.len_, run_underlying' hd, goInt, map_run (hw' _ _ hb), hlen]
            · cases hq
          · rename_i n e hk
            simp at hq; subst hq
            obtain ⟨d, hd, hkd⟩ := kdt hk
            obtain ⟨rfl, _⟩ := hkd
            exact fin (.i .i64 _) (fun w' _ => by simp [Builtin.len_, run_underlying' hd, goInt])
          · cases hq
        · cases hq
      | cap =>
        simp only [opQ, hop] at hq
        split at hq
        · rename_i t x hat har
          have hat' : argTypes = #[t] := by apply Array.ext'; simpa using hat
          have har' : args = #[x] := by apply Array.ext'; simpa using har
          subst hat' har'
          have hx := h.ev x
          have fin : ∀ {v : V} {u : Value}, VR W v u → (∀ w', Same w w' → (Builtin.cap_ #[t] o.type #[a.eval x]).run Y.P w' = .ok u w') →
              ∃ u, QR W σ a (.val v) u ∧ ∀ w', Same w w' → (execOp a.eval o).run Y.P w' = .ok (.value u) w' := by
            intro v u hv hr
            refine ⟨u, hv, fun w' hw' => ?_⟩
            have e1 := hres .cap w'
            have e2 := hr w' hw'
            simp only [execOp, hop, Sem.run_bind, e1, Result.andThen_ok, invoke, builtin]
            have e3 : (#[x].map a.eval) = #[a.eval x] := by simp
            rw [e3]
            simp only [e2, Result.andThen_ok, Sem.run_pure]
          have kdt : ∀ {kd}, Y.kd t = some kd → ∃ d, Y.P.underlying t = some d ∧ KdOK Y t kd d := by
            intro kd hk
            obtain ⟨ti, hti, hk'⟩ := kd_of hk
            obtain ⟨i, d, z, ht⟩ := hY.ty t ti hti
            exact ⟨d, ht.und, hk' ▸ ht.kd⟩
          split at hq
          · rename_i e n c k hk hxv
            simp at hq; subst hq
            obtain ⟨d, hd, hkd⟩ := kdt hk
            cases hkd
            rw [hxv] at hx
            generalize a.eval x = ux at hx fin
            cases hx
            exact fin (.i .i64 _) (fun w' _ => by simp [Builtin.cap_, run_underlying' hd, goInt])
          · rename_i e q n c k hk hxv
            simp at hq; subst hq
            obtain ⟨d, hd, hkd⟩ := kdt hk
            cases hkd
            rw [hxv] at hx
            generalize a.eval x = ux at hx fin
            cases hx with
            | sls _ _ _ _ _ a' cap' hid hl hc ha hn hk' =>
              have hcc := hc c rfl
              subst hcc
              exact fin (.i .i64 _) (fun w' _ => by simp [Builtin.cap_, run_underlying' hd, goInt])
          · cases hq
        · cases hq
      | max =>
        simp only [opQ, hop, Option.map_eq_some_iff] at hq
        obtain ⟨v, hv, rfl⟩ := hq
        have hr := h.evs args.toList
        generalize args.toList.map (ev σ.env) = vs at hr hv
        unfold foldInt at hv
        split at hv
        · rename_i k x r
          generalize hus : args.toList.map a.eval = us at hr
          cases hr with
          | cons _ u _ us' h1 h2 =>
            cases h1
            obtain ⟨u', hu', hf⟩ := foldInt_ok (Y := Y) (f := Builtin.max2) (fun k x y => rfl) h2 hv
            refine ⟨u', hu', fun w' _ => ?_⟩
            have e1 := hres .max w'
            have e3 : (args.map a.eval).toList = .int k x :: us' := by rw [← hus]; simp
            simp only [execOp, hop, Sem.run_bind, e1, Result.andThen_ok, invoke, builtin, Builtin.max_, e3, hf, Sem.run_pure]
        · cases hv
      | min =>
        simp only [opQ, hop, Option.map_eq_some_iff] at hq
        obtain ⟨v, hv, rfl⟩ := hq
        have hr := h.evs args.toList
        generalize args.toList.map (ev σ.env) = vs at hr hv
        unfold foldInt at hv
        split at hv
        · rename_i k x r
          generalize hus : args.toList.map a.eval = us at hr
          cases hr with
          | cons _ u _ us' h1 h2 =>
            cases h1
            obtain ⟨u', hu', hf⟩ := foldInt_ok (Y := Y) (f := Builtin.min2) (fun k x y => rfl) h2 hv
            refine ⟨u', hu', fun w' _ => ?_⟩
            have e1 := hres .min w'
            have e3 : (args.map a.eval).toList = .int k x :: us' := by rw [← hus]; simp
            simp only [execOp, hop, Sem.run_bind, e1, Result.andThen_ok, invoke, builtin, Builtin.min_, e3, hf, Sem.run_pure]
        · cases hv
      | _ => simp [opQ, hop] at hq
  | _ => simp [opQ, hop] at hq
end
end Go.Y
