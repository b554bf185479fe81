/- New objects, whatever else there is. -/
import Derived.Test.YteennilbmmlikaaGreatDoorYExo
namespace Go.Y

structure PushH (h h' : Heap) (i : Nat) (o : YObj) : Prop where
  raw : ∀ j, h'.raw j = if j = i then some (some o) else h.raw j
  nx : h.nx ≤ h'.nx ∧ i < h'.nx
  tg : h'.tg = h.tg

section
variable {Y : YP} {W W' : Vw} {σ σ' : St} {a : Act} {w w' : World}

theorem HRel.newRowAt {h h' : Heap} (hr : HRel W h w) {i : Nat} (hi : ¬ W.kn i) {cs : List V} {us : List Value} (hv : VRs W cs us) (e : TypeId) (hp : PushH h h' i (.arr cs true)) :
    HRel (W.push i w.heap.size us.length) h' (w.alloc (.cells us.toArray e)) ∧ Stp W W.own w (W.push i w.heap.size us.length) (W.push i w.heap.size us.length).own (w.alloc (.cells us.toArray e)) := by
  refine hr.pushAt hi (ob := .cells us.toArray e) ⟨rfl, rfl, rfl⟩ (alloc_same _ _) (by simp) (alloc_at _ _) hp.raw hp.nx hp.tg ?_
  have hl := hv.length
  refine ⟨us.toArray, e, (0, 0), by simpa [Vw.push] using alloc_at w (.cells us.toArray e), by simp [Vw.push], by simp [Vw.push]; omega, fun j v hj => ?_, fun j _ _ => by simp⟩
  obtain ⟨u, hu, hr'⟩ := hv.get hj
  exact ⟨u, by simpa [Vw.push] using hu, hr'.mono (W.push_le hi _ _)⟩

theorem newO_ok (hY : YOK Y) (h : Rel W σ a w) {o : Oper} {x : YObj} {vf : Nat → V} (hs : newO Y σ o = some (x, vf)) {i : Nat} (hi : ¬ W.kn i) {h' : Heap} (hp : PushH σ.h h' i x) :
    StepR Y W σ a w o (putV { σ with h := h' } o.dst (vf i)) := by
  unfold newO at hs
  split at hs
  · rename_i t xl xc hop
    split at hs
    · rename_i et kl l kc c hk hl hc
      split at hs
      · rename_i te hte
        split at hs
        · rename_i hin
          simp only [Option.some.injEq, Prod.mk.injEq] at hs
          obtain ⟨rfl, rfl⟩ := hs
          obtain ⟨ti, hti, hk'⟩ := kd_of hk
          obtain ⟨ii, d, z, ht⟩ := hY.ty t ti hti
          have hkd := ht.kd
          rw [hk'] at hkd
          cases hkd
          obtain ⟨ie, de, ze, hee⟩ := hY.ty et te hte
          obtain ⟨i0, i1, i2, i3, i4⟩ := hin
          have hzl := (hee.zr W).length
          have hzl2 := hee.zl
          have hzs : ze.cells.size = te.size := by rw [← Array.length_toList, ← hzl, hzl2]
          have hrow := zero_row (hee.zr W) c.toNat
          obtain ⟨g1, g2⟩ := h.heap.newRowAt hi hrow et hp
          have hul : ((List.range (c.toNat * ze.cells.size)).map fun i => ze.cells[i % ze.cells.size]!).length = c.toNat * te.size := by simp [hzs]
          simp only [hul] at g1 g2
          have hval : VR (W.push i w.heap.size (c.toNat * te.size)) (.sl (some (i, 0)) l.toNat (some c.toNat) te.size) (.slice (some ⟨w.heap.size, 0, none⟩) l.toNat c.toNat) := by
            refine .sls _ _ _ _ _ _ _ (.inr rfl) (by omega) (fun c' hc => by simpa using hc) (fun _ _ => ?_) (fun _ hc => nomatch hc) (fun _ => ?_)
            · simp [Vw.at, Vw.push]
            · simp [Vw.push]
          refine StepR.heap h g1 g2 hval ?_ (.inl rfl)
          have hel := h.ev xl
          have hec := h.ev xc
          rw [hl] at hel
          rw [hc] at hec
          generalize hul2 : a.eval xl = ul at hel
          generalize huc2 : a.eval xc = uc at hec
          cases hel; cases hec
          have hb : (ie.bytes : Int) * c ≤ 281474976710656 := by
            rw [hee.bytes, Int.mul_comm]
            have : (most : Int) ≤ 281474976710656 := by decide
            omega
          have hm63 : c ≤ 9223372036854775807 := by
            have : (most : Int) ≤ 9223372036854775807 := by decide
            omega
          have hrun := run_make (P := Y.P) w t et ie ze ht.und hee.info hee.zero kl kc l c i1 i2 hb hm63
          have hcells : madeCells ze.cells (c.toNat * ie.size) = ((List.range (c.toNat * ze.cells.size)).map fun i => ze.cells[i % ze.cells.size]!).toArray := by
            rw [← range_map, madeCells, hee.size, hzs]
          simp only [execOp, hop, hul2, huc2, Sem.run_bind, hrun, Result.andThen_ok, Sem.run_pure, hcells]
        · cases hs
      · cases hs
    · cases hs
  · rename_i t hop
    simp only [Option.some.injEq, Prod.mk.injEq] at hs
    obtain ⟨rfl, rfl⟩ := hs
    obtain ⟨g1, g2⟩ := h.heap.pushAt (w' := w.alloc (.map #[] 0)) hi (ob := .map #[] 0) (sz := 0) ⟨rfl, rfl, rfl⟩ (alloc_same _ _) (by simp) (alloc_at _ _) hp.raw hp.nx hp.tg
      ⟨#[], 0, by simpa [Vw.push] using alloc_at w (.map #[] 0), .nil, .nil⟩
    refine StepR.heap h g1 g2 (u := .map (some w.heap.size)) (.mps _ _ (.inr rfl) (fun _ => by simp [Vw.push])) ?_ (.inl rfl)
    have e1 : (newObj (.map #[] 0)).run Y.P w = .ok w.heap.size (w.alloc (.map #[] 0)) := rfl
    simp only [execOp, hop, Option.map_none, Instr.makeMap, Sem.run_bind, Sem.run_pure, e1, Result.andThen_ok]
  · cases hs

theorem PushH.push (h : Heap) (o : YObj) : PushH h (h.push o) h.nx o := ⟨fun j => by simp, by simp, rfl⟩
end
end Go.Y

/- Maps; clear and copy of slices. -/
namespace Go.Y

def PlainD : Kd → TypeDesc → Prop
  | .int k, d => d = .int k
  | .str, d => d = .string
  | .bool, d => d = .bool
  | _, _ => False

theorem plainD {Y : YP} {t : TypeId} {kk : Kd} {d : TypeDesc} (h : KdOK Y t kk d) (hp : plainKind kk = true) : PlainD kk d := by
  cases kk <;> first | exact h | cases hp

theorem sameBits_int (j : IntKind) (a : Int) : Instr.sameBits 10000 (.int j a) (.int j a) = true := by simp [Instr.sameBits]
theorem ba_eq (x y : Array UInt8) : ((⟨x⟩ : ByteArray) == ⟨y⟩) = (x == y) := rfl
theorem sameBits_str (a : ByteArray) : Instr.sameBits 10000 (.string a) (.string a) = true := by
  have : (a == a) = true := by cases a; rw [ba_eq]; simp
  simp [Instr.sameBits, this]
theorem sameBits_bool (a : Bool) : Instr.sameBits 10000 (.bool a) (.bool a) = true := by simp [Instr.sameBits]

theorem same_ok {W : Vw} {kk : Kd} {d : TypeDesc} (hd : PlainD kk d) {k e : V} {u ue : Value} {r : Bool} (h : eqCellK kk k e = some r) (hk : VR W k u) (he : VR W e ue) :
    Instr.sameNow d u ue = some r ∧ (r = true → Instr.sameBits 10000 ue u = true) := by
  unfold eqCellK at h
  split at h
  · simp only [Option.some.injEq] at h
    subst h
    cases hk; cases he; cases hd
    refine ⟨rfl, fun h => ?_⟩
    have := eq_of_beq h
    subst this; exact sameBits_bool _
  · split at h
    · rename_i hj
      simp only [Option.some.injEq] at h
      subst h hj
      cases hk; cases he; cases hd
      refine ⟨by simp [Instr.sameNow], fun h => ?_⟩
      have := eq_of_beq h
      subst this; exact sameBits_int _ _
    · cases h
  · rename_i x y
    simp only [Option.some.injEq] at h
    subst h
    cases hk; cases he; cases hd
    have e1 : ((⟨x.toArray⟩ : ByteArray) == ⟨y.toArray⟩) = (x == y) := by rw [ba_eq]; simp
    refine ⟨by simp only [Instr.sameNow, e1], fun h => ?_⟩
    have := eq_of_beq h
    subst this; exact sameBits_str _
  · cases h

theorem map_ok {W : Vw} {kk : Kd} {d : TypeDesc} (hd : PlainD kk d) {k v : V} {u x : Value} (hk : VR W k u) (hv : VR W v x) : ∀ (es : List (V × V)) (m : List MapEntry) (i : Nat), VRs W (es.map (·.1)) (m.map (·.key)) → VRs W (es.map (·.2)) (m.map (·.val)) → keysPlain kk k es = true →
    (mapGet kk k es = none ∧ Instr.findNow d u m i = some none ∧ mapPut kk k v es = es ++ [(k, v)]) ∨
    ∃ j e v0, mapGet kk k es = some v0 ∧ VR W v0 e.val ∧ m[j]? = some e ∧ Instr.findNow d u m i = some (some (i + j, e.val)) ∧ Instr.sameBits 10000 e.key u = true ∧
      VRs W ((mapPut kk k v es).map (·.1)) ((m.modify j fun e => { e with key := u, val := x }).map (·.key)) ∧ VRs W ((mapPut kk k v es).map (·.2)) ((m.modify j fun e => { e with key := u, val := x }).map (·.val))
  | [], m, i, h1, _, _ => by
    cases m with
    | nil => exact .inl ⟨rfl, rfl, rfl⟩
    | cons e m => cases h1
  | e :: es, m, i, h1, h2, hp => by
    cases m with
    | nil => cases h1
    | cons e' m =>
      simp only [List.map_cons] at h1 h2
      cases h1 with | cons _ _ _ _ h1a h1b =>
      cases h2 with | cons _ _ _ _ h2a h2b =>
      simp only [keysPlain, Bool.and_eq_true] at hp
      obtain ⟨r, hr⟩ := Option.isSome_iff_exists.1 hp.1
      obtain ⟨hs, hb⟩ := same_ok hd hr hk h1a
      cases r with
      | true =>
        refine .inr ⟨0, e', e.2, ?_, h2a, rfl, ?_, hb rfl, ?_, ?_⟩
        · simp [mapGet, keyIs, hr]
        · simp [Instr.findNow, hs]
        · simp only [mapPut, keyIs, hr, if_true, List.map_cons, List.modify_zero_cons]
          exact .cons _ _ _ _ hk h1b
        · simp only [mapPut, keyIs, hr, if_true, List.map_cons, List.modify_zero_cons]
          exact .cons _ _ _ _ hv h2b
      | false =>
        rcases map_ok hd hk hv es m (i + 1) h1b h2b hp.2 with ⟨g1, g2, g3⟩ | ⟨j, e0, v0, g1, g2, g3, g4, g5, g6, g7⟩
        · refine .inl ⟨by simp [mapGet, keyIs, hr, g1], by simp [Instr.findNow, hs, g2], by simp [mapPut, keyIs, hr, g3]⟩
        · refine .inr ⟨j + 1, e0, v0, by simp [mapGet, keyIs, hr, g1], g2, by simpa using g3, ?_, g5, ?_, ?_⟩
          · simp only [Instr.findNow, hs, g4]
            rw [show i + 1 + j = i + (j + 1) by omega]
          · simp only [mapPut, keyIs, hr, Bool.false_eq_true, if_false, List.map_cons, List.modify_succ_cons]
            exact .cons _ _ _ _ h1a g6
          · simp only [mapPut, keyIs, hr, Bool.false_eq_true, if_false, List.map_cons, List.modify_succ_cons]
            exact .cons _ _ _ _ h2a g7

section
variable {Y : YP} {W W' : Vw} {σ σ' : St} {a : Act} {w w' : World}

theorem obj_get {P : Program} {r : Nat} {es : Array MapEntry} {k : Nat} (h : w.heap[r]? = some (.map es k)) : (getObj r).run P w = .ok (.map es k) w := by simp [getObj, Sem.run, h]
theorem obj_set {P : Program} {r : Nat} {es : Array MapEntry} {k : Nat} (o : Obj) (h : w.heap[r]? = some (.map es k)) : (setObj r o).run P w = .ok () (w.putB r o) := by simp [setObj, Sem.run, h, World.putB]

theorem bytes_vrs : ∀ l : List UInt8, VRs W (l.map fun c => V.i .u8 c.toNat) (l.map fun c => Value.int .u8 c.toNat)
  | [] => .nil
  | _ :: l => .cons _ _ _ _ (.i _ _) (bytes_vrs l)

theorem run_checkKey {P : Program} {b : Bool} {t : TypeId} {d : TypeDesc} (hd : P.underlying t = some d) {kk : Kd} (hk : PlainD kk d) (u : Value) (w : World) : (Instr.checkKey b 10000 t u).run P w = .ok () w := by
  have : ∀ n, (Instr.checkKey b (n + 1) t u).run P w = .ok () w := fun n => by
    simp only [Instr.checkKey, Sem.run_bind, run_underlying hd, Result.andThen_ok]
    cases kk <;> simp only [PlainD] at hk <;> first | exact hk.elim | (subst hk; rfl)
  exact this 9999

theorem run_findKey {P : Program} {t : TypeId} {d : TypeDesc} (hd : P.underlying t = some d) {u : Value} {m : List MapEntry} {r : Option (Nat × Value)} (h : Instr.findNow d u m 0 = some r) (w : World) : (Instr.findKey t u m).run P w = .ok r w := by
  simp only [Instr.findKey, Sem.run_bind, run_underlying hd, Result.andThen_ok, h, Sem.run_pure]

theorem zeroV_ok (hY : YOK Y) {t : TypeId} {ti : TI} (h : Y.ty t = some ti) : ∃ z, (∀ w, (zeroValue t).run Y.P w = .ok z w) ∧ ∀ W, VR W (zeroV Y t) z := by
  obtain ⟨i, d, z, ht⟩ := hY.ty t ti h
  refine ⟨z, run_zeroValue ht.info ht.zero, fun W => ?_⟩
  unfold zeroV
  simp only [ht.info, Option.bind_some, ht.zero]
  exact VR.ofC W z

theorem mapH_ok (hY : YOK Y) (h : Rel W σ a w) {o : Oper} {v : V} {h' : Heap} (hs : mapH Y σ o = some (h', v)) : StepR Y W σ a w o (putV { σ with h := h' } o.dst v) := by
  unfold mapH at hs
  have upd : ∀ (t : TypeId) (m k x : Operand), (execOp a.eval o = do let _ ← Instr.mapUpdate t (a.eval m) (a.eval k) (a.eval x); pure .skip) →
      ((match Y.kd t, ev σ.env m with
      | some (.map kt _), .mp (some r) => match Y.kd kt, σ.h.get r with
        | some kk, some (.map es) => if plainKind kk && keysPlain kk (ev σ.env k) es then some (σ.h.set r (some (.map (mapPut kk (ev σ.env k) (ev σ.env x) es))), V.undef) else none
        | _, _ => none
      | _, _ => none) = some (h', v)) → StepR Y W σ a w o (putV { σ with h := h' } o.dst v) := by
    intro t m k x hex hs
    split at hs
    · rename_i kt et r hk hm
      split at hs
      · rename_i kk es hkk hg
        split at hs
        · rename_i hc
          simp only [Bool.and_eq_true] at hc
          simp only [Option.some.injEq, Prod.mk.injEq] at hs
          obtain ⟨rfl, rfl⟩ := hs
          obtain ⟨ti, hti, hk'⟩ := kd_of hk
          obtain ⟨i, d, z, ht⟩ := hY.ty t ti hti
          have hkd := ht.kd
          rw [hk'] at hkd
          cases hkd
          obtain ⟨tk, htk, hkk'⟩ := kd_of hkk
          obtain ⟨ik, dk, zk, htkk⟩ := hY.ty kt tk htk
          have hkd2 := htkk.kd
          rw [hkk'] at hkd2
          have hpl := plainD hkd2 hc.1
          have hmv := h.ev m
          rw [hm] at hmv
          generalize hum : a.eval m = um at hmv hex
          have hlv : W.lv r := (h.heap.lv r).2 (by simp [hg])
          obtain ⟨me, clock, hb, hks, hvs⟩ := h.heap.obj r _ hg
          cases hmv with
          | mps _ rr hid hr =>
            have hrr := hr hlv
            subst hrr
            have hblk := lt_of_block hb
            have wr : ∀ (me' : Array MapEntry) (clock' : Nat), VRs W ((mapPut kk (ev σ.env k) (ev σ.env x) es).map (·.1)) (me'.toList.map (·.key)) → VRs W ((mapPut kk (ev σ.env k) (ev σ.env x) es).map (·.2)) (me'.toList.map (·.val)) →
                (Instr.mapUpdate t (.map (some (W.mu r).1)) (a.eval k) (a.eval x)).run Y.P w = .ok () (w.putB (W.mu r).1 (.map me' clock')) →
                StepR Y W σ a w o (putV { σ with h := σ.h.set r (some (.map (mapPut kk (ev σ.env k) (ev σ.env x) es))) } o.dst .undef) := by
              intro me' clock' q1 q2 hrun
              obtain ⟨g1, g2⟩ := h.heap.write (w' := w.putB (W.mu r).1 (.map me' clock')) ⟨rfl, rfl, rfl⟩ hlv (o := .map (mapPut kk (ev σ.env k) (ev σ.env x) es)) (putB_others _ _ _) (putB_size _ _ _) (fun c e fr hcc => by rw [hb] at hcc; cases hcc)
                ⟨me', clock', putB_same _ _ _ hblk, q1, q2⟩
              refine StepR.heap h g1 g2 (n := .skip) (.undef Go.undef) ?_ (.inr ⟨rfl, rfl⟩)
              rw [hex]
              simp only [Sem.run_bind, hrun, Result.andThen_ok, Sem.run_pure]
            have hset : ∀ (me' : Array MapEntry) (clock' : Nat), (setObj (W.mu r).1 (.map me' clock')).run Y.P w = .ok () (w.putB (W.mu r).1 (.map me' clock')) := fun me' clock' => obj_set _ hb
            rcases map_ok hpl (h.ev k) (h.ev x) es me.toList 0 hks hvs hc.2 with ⟨g1, g2, g3⟩ | ⟨j, e, v0, g1, g2, g3, g4, g5, g6, g7⟩
            · refine wr (me.push { key := a.eval k, val := a.eval x, born := clock }) (clock + 1) ?_ ?_ ?_
              · rw [g3]
                simp only [List.map_append, Array.toList_push]
                exact hks.append (.cons _ _ _ _ (h.ev k) .nil)
              · rw [g3]
                simp only [List.map_append, Array.toList_push]
                exact hvs.append (.cons _ _ _ _ (h.ev x) .nil)
              · simp only [Instr.mapUpdate, Sem.run_bind, run_underlying ht.und, Result.andThen_ok, obj_get hb, run_checkKey htkk.und hpl, run_findKey htkk.und g2, hset]
            · refine wr (me.modify j fun e => { e with key := a.eval k, val := a.eval x }) clock (by rw [Array.toList_modify]; exact g6) (by rw [Array.toList_modify]; exact g7) ?_
              have hj : me[j]? = some e := by simpa using g3
              rw [Nat.zero_add] at g4
              have hkt : (Instr.keyThatStays e.key (a.eval k)).run Y.P w = .ok (a.eval k) w := by
                simp only [Instr.keyThatStays, g5, if_true, Sem.run_pure]
              simp only [Instr.mapUpdate, Sem.run_bind, run_underlying ht.und, Result.andThen_ok, obj_get hb, run_checkKey htkk.und hpl, run_findKey htkk.und g4, hj, Option.map_some, Option.getD_some, hkt, hset]
        · cases hs
      · cases hs
    · cases hs
  split at hs
  · rename_i t m k ok hop
    split at hs
    · rename_i kt et r hk hm
      split at hs
      · rename_i kk es hkk hes
        split at hs
        · rename_i hc
          simp only [Bool.and_eq_true] at hc
          obtain ⟨te, hte⟩ := Option.isSome_iff_exists.1 hc.2
          obtain ⟨z, hz, hzr⟩ := zeroV_ok hY hte
          obtain ⟨ti, hti, hk'⟩ := kd_of hk
          obtain ⟨i, d, zz, ht⟩ := hY.ty t ti hti
          have hkd := ht.kd
          rw [hk'] at hkd
          cases hkd
          obtain ⟨tk, htk, hkk'⟩ := kd_of hkk
          obtain ⟨ik, dk, zk, htkk⟩ := hY.ty kt tk htk
          have hkd2 := htkk.kd
          rw [hkk'] at hkd2
          have hpl := plainD hkd2 hc.1.1
          have hmv := h.ev m
          rw [hm] at hmv
          have look : ∃ me : Array MapEntry, VRs W (es.map (·.1)) (me.toList.map (·.key)) ∧ VRs W (es.map (·.2)) (me.toList.map (·.val)) ∧ ∀ r, Instr.findNow dk (a.eval k) me.toList 0 = some r →
              (Instr.lookup t (a.eval m) (a.eval k) ok).run Y.P w = (match r with
                | some (_, v) => .ok (if ok then .tuple #[v, .bool true] else v) w
                | none => .ok (if ok then .tuple #[z, .bool false] else z) w) := by
            generalize a.eval m = um at hmv
            cases hmv with
            | mpn =>
              simp only [mapAt, Option.some.injEq] at hes
              subst hes
              refine ⟨#[], .nil, .nil, fun r hr => ?_⟩
              simp only [Instr.lookup, Sem.run_bind, run_underlying ht.und, Result.andThen_ok, Sem.run_pure, run_checkKey htkk.und hpl, run_findKey htkk.und hr]
              cases r with
              | none => simp only [hz w, Sem.run_bind, Result.andThen_ok, Sem.run_pure]
              | some p => rfl
            | mps id rr hid hr0 =>
              simp only [mapAt] at hes
              split at hes
              · rename_i es' hg
                simp only [Option.some.injEq] at hes
                subst hes
                obtain ⟨me, clock, hb, hks, hvs⟩ := h.heap.obj id _ hg
                have hrr := hr0 ((h.heap.lv id).2 (by simp [hg]))
                subst hrr
                refine ⟨me, hks, hvs, fun r hr => ?_⟩
                simp only [Instr.lookup, Sem.run_bind, run_underlying ht.und, Result.andThen_ok, Sem.run_pure, obj_get hb, run_checkKey htkk.und hpl, run_findKey htkk.und hr]
                cases r with
                | none => simp only [hz w, Sem.run_bind, Result.andThen_ok, Sem.run_pure]
                | some p => rfl
              · cases hes
          obtain ⟨me, hks, hvs, hl⟩ := look
          have fin : ∀ (x : V) (u : Value), VR W x u → h' = σ.h → v = x → (Instr.lookup t (a.eval m) (a.eval k) ok).run Y.P w = .ok u w → StepR Y W σ a w o (putV { σ with h := h' } o.dst v) := by
            intro x u hxu e1 e2 hrun
            subst e1 e2
            refine StepR.heap h h.heap (Stp.refl W _ w) hxu ?_ (.inl rfl)
            simp only [execOp, hop, Sem.run_bind, hrun, Result.andThen_ok, Sem.run_pure]
          rcases map_ok hpl (h.ev k) (.undef Go.undef) es me.toList 0 hks hvs hc.1.2 with ⟨g1, g2, _⟩ | ⟨j, e, v0, g1, g2, g3, g4, _⟩
          · rw [g1] at hs
            simp only [Option.some.injEq, Prod.mk.injEq] at hs
            refine fin _ (if ok then .tuple #[z, .bool false] else z) ?_ hs.1.symm hs.2.symm (hl _ g2)
            cases ok
            · exact hzr W
            · exact .tup _ [z, .bool false] (.cons _ _ _ _ (hzr W) (.cons _ _ _ _ (.b false) .nil))
          · rw [g1] at hs
            simp only [Option.some.injEq, Prod.mk.injEq] at hs
            refine fin _ (if ok then .tuple #[e.val, .bool true] else e.val) ?_ hs.1.symm hs.2.symm (hl _ g4)
            cases ok
            · exact g2
            · exact .tup _ [e.val, .bool true] (.cons _ _ _ _ g2 (.cons _ _ _ _ (.b true) .nil))
        · cases hs
      · cases hs
    · cases hs
  · rename_i t m k x hop
    exact upd t m k x (by simp only [execOp, hop]) hs
  · rename_i t m k x hop
    exact upd t m k x (by simp only [execOp, hop]) hs
  · rename_i args ats hop
    split at hs
    · rename_i x t har hat
      have har' : args = #[x] := by apply Array.ext'; simpa using har
      have hat' : ats = #[t] := by apply Array.ext'; simpa using hat
      subst har' hat'
      have hrun : ∀ u w', (Builtin.clear_ #[t] o.type #[a.eval x]).run Y.P w = .ok u w' → (execOp a.eval o).run Y.P w = .ok (.value u) w' := by
        intro u w' hu
        have e1 : (resolve a.eval ⟨.builtin .clear, #[x], #[t]⟩ o.type).run Y.P w = .ok { target := .builtin .clear #[t] o.type (#[x].map fun | .const _ => true | _ => false), args := #[x].map a.eval } w := rfl
        have e3 : (#[x].map a.eval) = #[a.eval x] := by simp
        simp only [execOp, hop, Sem.run_bind, e1, Result.andThen_ok, invoke, builtin]
        rw [e3]
        simp only [hu, Result.andThen_ok, Sem.run_pure]
      split at hs
      · rename_i e q1 q2 q3 hk hxv
        simp only [Option.some.injEq, Prod.mk.injEq] at hs
        obtain ⟨rfl, rfl⟩ := hs
        obtain ⟨ti, hti, hk'⟩ := kd_of hk
        obtain ⟨i, d, zz, ht⟩ := hY.ty t ti hti
        have hx := h.ev x
        rw [hxv] at hx
        generalize a.eval x = ux at hx hrun
        cases hx
        refine StepR.heap h h.heap (Stp.refl W _ w) (u := .tuple #[]) (.tup [] [] .nil) (hrun _ _ ?_) (.inl rfl)
        have hkd := ht.kd
        rw [hk'] at hkd
        cases hkd
        simp [Builtin.clear_, run_underlying ht.und]
      · rename_i e id off len q1 k hk hxv
        obtain ⟨ti, hti, hk'⟩ := kd_of hk
        obtain ⟨i, d, zz, ht⟩ := hY.ty t ti hti
        have hkd := ht.kd
        rw [hk'] at hkd
        cases hkd
        have hx := h.ev x
        rw [hxv] at hx
        generalize a.eval x = ux at hx hrun
        split at hs
        · rename_i te hte
          split at hs
          · rename_i hl0
            subst hl0
            simp only [Option.some.injEq, Prod.mk.injEq] at hs
            obtain ⟨rfl, rfl⟩ := hs
            cases hx with
            | sls _ _ _ _ _ y cap' hid hl hc ha hn hkk =>
              refine StepR.heap h h.heap (Stp.refl W _ w) (u := .tuple #[]) (.tup [] [] .nil) (hrun _ _ ?_) (.inl rfl)
              simp [Builtin.clear_, run_underlying ht.und]
          · rename_i hl0
            split at hs
            · rename_i hkt
              subst hkt
              split at hs
              · rename_i cs hg
                split at hs
                · rename_i hb
                  simp only [Option.some.injEq, Prod.mk.injEq] at hs
                  obtain ⟨rfl, rfl⟩ := hs
                  obtain ⟨ie, de, ze, hee⟩ := hY.ty e te hte
                  have hlv : W.lv id := (h.heap.lv id).2 (by simp [hg])
                  have hrow := zero_row (hee.zr W) len
                  have hac : allCells (List.replicate len te.zero).flatten = true := by
                    clear hb hrow
                    have hz := hee.zc
                    have happ : ∀ l m : List V, allCells (l ++ m) = (allCells l && allCells m) := fun l m => by
                      induction l with
                      | nil => rfl
                      | cons v r ih => simp only [List.cons_append, allCells, ih, Bool.and_assoc]
                    have : ∀ n, allCells (List.replicate n te.zero).flatten = true := fun n => by
                      induction n with
                      | zero => rfl
                      | succ n ih => rw [List.replicate_succ, List.flatten_cons, happ, hz, ih]; rfl
                    exact this len
                  have h1 := oneCells_ok hrow hac
                  obtain ⟨w', g1, g2, g3⟩ := h.heap.spliceAt hg (off := off) (new := (List.replicate len te.zero).flatten) (by rw [flat_length, hee.zl]; exact hb) hrow h1 Y.P
                  cases hx with
                  | sls _ _ _ _ _ y cap' hid hl hc ha hn hkk =>
                    have hy := ha hlv (by omega)
                    subst hy
                    refine StepR.heap h g2 g3 (u := .tuple #[]) (.tup [] [] .nil) (hrun _ _ ?_) (.inl rfl)
                    have hzc : (Builtin.zeroCells ze.cells len).toList = (List.range (len * ze.cells.size)).map fun i => ze.cells[i % ze.cells.size]! := by
                      rw [Builtin.zeroCells, range_map]
                    obtain ⟨n, rfl⟩ : ∃ n, len = n + 1 := ⟨len - 1, by omega⟩
                    simp only [Builtin.clear_, Sem.run_bind, run_underlying ht.und, Result.andThen_ok, run_zeroValue hee.info hee.zero, hzc, g1, Sem.run_pure, List.getElem?_toArray, List.getElem?_cons_zero]
                · cases hs
              · cases hs
            · cases hs
        · cases hs
      · cases hs
    · cases hs
  · rename_i args ats hop
    split at hs
    · rename_i d x st rest har hat
      have har' : args = #[d, x] := by apply Array.ext'; simpa using har
      have hat' : ats = (st :: rest).toArray := by apply Array.ext'; simpa using hat
      subst har' hat'
      have hrun : ∀ u w', (Builtin.copy_ (st :: rest).toArray o.type #[a.eval d, a.eval x]).run Y.P w = .ok u w' → (execOp a.eval o).run Y.P w = .ok (.value u) w' := by
        intro u w' hu
        have e1 : (resolve a.eval ⟨.builtin .copy, #[d, x], (st :: rest).toArray⟩ o.type).run Y.P w = .ok { target := .builtin .copy (st :: rest).toArray o.type (#[d, x].map fun | .const _ => true | _ => false), args := #[d, x].map a.eval } w := rfl
        have e3 : (#[d, x].map a.eval) = #[a.eval d, a.eval x] := by simp
        simp only [execOp, hop, Sem.run_bind, e1, Result.andThen_ok, invoke, builtin]
        rw [e3]
        simp only [hu, Result.andThen_ok, Sem.run_pure]
      split at hs
      · rename_i e id off len q1 k hk hdv
        obtain ⟨ti, hti, hk'⟩ := kd_of hk
        obtain ⟨i, dd, zz, ht⟩ := hY.ty st ti hti
        have hkd := ht.kd
        rw [hk'] at hkd
        cases hkd
        split at hs
        · rename_i te hte
          obtain ⟨ie, de, ze, hee⟩ := hY.ty e te hte
          split at hs
          · rename_i n cs hel
            split at hs
            · rename_i hc
              obtain ⟨rfl, hsz, hac⟩ := hc
              split at hs
              · rename_i cs0 hg
                split at hs
                · rename_i hb
                  simp only [Option.some.injEq, Prod.mk.injEq] at hs
                  obtain ⟨rfl, rfl⟩ := hs
                  have hlv : W.lv id := (h.heap.lv id).2 (by simp [hg])
                  -- the source
                  have src : ∃ us : List Value, VRs W cs us ∧ (Builtin.lenOf (a.eval x)).run Y.P w = .ok n w ∧ (Builtin.firstCells te.size (min n len) (a.eval x)).run Y.P w = .ok (us.take (min n len * te.size)).toArray w := by
                    have hx := h.ev x
                    unfold elems at hel
                    split at hel
                    · rename_i l hxv
                      rw [hxv] at hx
                      split at hel
                      · rename_i hk1
                        simp only [Option.some.injEq, Prod.mk.injEq] at hel
                        obtain ⟨rfl, rfl⟩ := hel
                        generalize a.eval x = ux at hx
                        cases hx
                        refine ⟨l.map fun c => Value.int .u8 c.toNat, ?_, rfl, ?_⟩
                        · exact bytes_vrs l
                        · simp only [Builtin.firstCells, Sem.run_pure, hk1, Nat.mul_one]
                          congr 1
                          apply Array.ext'
                          simp [ByteArray.data_extract]
                      · cases hel
                    · obtain ⟨us, h1, h2, h3⟩ := elemsS_ok h hel hx
                      refine ⟨us, h1, ?_, ?_⟩
                      · rcases h3 with ⟨he, rfl⟩ | ⟨y, cap, he, _, _⟩ <;> rw [he] <;> rfl
                      · rcases h3 with ⟨he, rfl⟩ | ⟨y, cap, he, _, hcw⟩
                        · rw [he]
                          have : us = [] := by simpa using h2
                          subst this
                          simp [Builtin.firstCells]
                        · rw [he]
                          refine run_firstCells_some w te.size (min n len) y n cap _ ?_ fun j v hj => ?_
                          · rw [List.length_take, h2]
                            exact Nat.min_eq_left (Nat.mul_le_mul_right _ (Nat.min_le_left _ _))
                          · rw [List.getElem?_take] at hj
                            split at hj
                            · exact hcw j v hj
                            · cases hj
                  obtain ⟨us, hv, hln, hfc⟩ := src
                  have h1 := oneCells_ok hv hac
                  obtain ⟨w', g1, g2, g3⟩ := h.heap.spliceAt hg (off := off) (new := cs.take (min n len * te.size)) hb (hv.take _) (fun u hu => h1 u (List.mem_of_mem_take hu)) Y.P
                  have hd := h.ev d
                  rw [hdv] at hd
                  generalize a.eval d = ud at hd hrun
                  cases hd with
                  | sls _ _ _ _ _ y cap' hid hl hcc ha hn hkk =>
                    have hst : (storeCells y (us.take (min n len * te.size))).run Y.P w = .ok () w' := by
                      by_cases hl0 : 0 < cap'
                      · rw [ha hlv hl0]; exact g1
                      · have : len = 0 := by omega
                        subst this
                        simp only [Nat.min_zero, Nat.zero_mul, List.take_zero] at g1 ⊢
                        have e1 : ∀ y, (storeCells y []).run Y.P w = .ok () w := fun y => rfl
                        rw [e1] at g1 ⊢
                        exact g1
                    refine StepR.heap h g2 g3 (u := .int .i64 ((min n len : Nat) : Int)) (.i _ _) (hrun _ _ ?_) (.inl rfl)
                    have e4 : Nat.min n len = min n len := rfl
                    simp only [Builtin.copy_, List.getElem?_toArray, List.getElem?_cons_zero, List.getElem?_cons_succ, Sem.run_bind, run_underlying ht.und, Result.andThen_ok, hln, run_sizeOf hee.info, hee.size, e4, hfc, hst, Sem.run_pure]
                    rfl
                · cases hs
              · cases hs
            · cases hs
          · cases hs
        · cases hs
      · cases hs
    · cases hs
  · cases hs

theorem lookQ_same {o : Oper} {v : V} (hs : lookQ Y σ o = some v) : mapH Y σ o = some (σ.h, v) := by
  unfold lookQ at hs
  split at hs
  · rename_i t m k ok hop
    simp only [Option.map_eq_some_iff] at hs
    obtain ⟨⟨h', v'⟩, h1, h2⟩ := hs
    simp only at h2
    subst h2
    have h3 := h1
    unfold mapH at h3
    rw [hop] at h3
    simp only at h3
    repeat' (split at h3 <;> try (cases h3; done))
    all_goals (simp only [Option.some.injEq, Prod.mk.injEq] at h3; obtain ⟨rfl, _⟩ := h3; exact h1)
  · cases hs

theorem lookQ_ok (hY : YOK Y) (h : Rel W σ a w) {o : Oper} {v : V} (hs : lookQ Y σ o = some v) : StepR Y W σ a w o (putV σ o.dst v) := mapH_ok hY h (lookQ_same hs)
end
end Go.Y
