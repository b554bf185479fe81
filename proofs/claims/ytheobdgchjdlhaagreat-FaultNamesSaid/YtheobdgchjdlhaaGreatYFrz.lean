/- What a function hands back becomes read-only; slices.Clone. -/
import Derived.Test.YtheobdgchjdlhaaGreatYRow
namespace Go.Y

/-- A value, some of whose memory becomes read-only; a tuple of such. -/
def FrzT (h : Heap) (v v' : V) : Prop := FrzA h v v' ∨ ∃ vs vs', v = .tup vs ∧ v' = .tup vs' ∧ FrzAL h vs vs'

theorem FrzT.vr {W W' : Vw} {h : Heap} {w : World} (z : Fz W h w W') (hle : Le W W') {v v' : V} (f : FrzT h v v') {u : Value} (r : VR W v u) : VR W' v' u := by
  rcases f with f | ⟨vs, vs', rfl, rfl, f⟩
  · exact f.vr z hle r
  · cases r with | tup _ us h1 => exact .tup _ _ (f.vr z hle h1)

/-- What is to be shown of the value and of memory, once some objects are read-only. -/
def AfterZ (Q : V → Heap → Prop) (v : V) (h : Heap) : Prop := ∃ (D : List Nat) (v' : V), FrzT (takeD h D) v v' ∧ Q v' (killD h D)

theorem AfterZ.now {Q : V → Heap → Prop} {v : V} {h : Heap} (hq : Q v h) : AfterZ Q v h := ⟨[], v, .inl (.same v), hq⟩

theorem Con.freeze {Y : YP} {f : FuncId} {args : List V} {h : Heap} {Q : V → Heap → Prop} (c : Con Y f args h (AfterZ Q)) : Con Y f args h Q :=
  ⟨c.body, fun W w us hr hv => (c.tr W w us hr hv).mono fun e w' ⟨v, h1, W', u, ⟨D, v', hf, hq⟩, he, hh, hvu, hst⟩ => by
    obtain ⟨g1, g2⟩ := hh.frzD D
    exact ⟨v', _, _, u, hq, he, g1, hf.vr (Fz.of hh D) (frzD_le hh D) hvu, hst.trans g2⟩⟩

/-- A function over memory. -/
theorem conz_of {Y : YP} (hY : YOK Y) {f : FuncId} {fn : Func} (hf : Y.P.funcs[f]? = some fn) (hb : fn.body.isSome = true) {args : List V} {h : Heap} {Q : V → Heap → Prop}
    (ht : TriL Y (flat (bodyOf fn)) ⟨args ++ List.replicate (fn.ntmps - args.length) .undef, [], h⟩ (FinS Y fn (AfterZ Q))) : Con Y f args h Q := Con.freeze (con_of hY hf hb ht)

/-- The end of a function over memory. -/
theorem finC {Y : YP} {fn : Func} {slots : List Nat} {Q : V → Heap → Prop} {o : Out} {n : Nat} {vs : List V} {h : Heap} {v : V} (ho : o = .normal ∨ o = .ret) (hv : resV Y fn (slots.zip vs) = some v) (hq : AfterZ Q v h) :
    Fin Y fn slots (AfterZ Q) o n vs h := ⟨ho, v, hv, hq⟩

/-! ### slices.Clone -/
def cloneV (k : Nat) : List V → Heap → Option (V × Heap)
  | [.sl none 0 _ _], h => some (.sl none 0 (some 0) 0, h)
  | [.ts _ 0 _], h => some (.ts [] 0 (some 0), h)
  | [.ts cs (n + 1) _], h => match takeX ((n + 1) * k) cs with
    | some c => if allCells c = true ∧ n + 1 ≤ 2 ^ 30 then some (.sl (some (h.nx, 0)) (n + 1) none k, h.push (.arr c true)) else none
    | none => none
  | _, _ => none

theorem clone_app0 {Y : YP} {st e : TypeId} {te : TI} (hk : Y.kd st = some (.slice e)) (hte : Y.ty e = some te) (h0 : te.size ≠ 0) (cs : List V) (cap : Option Nat) (h : Heap) :
    appendH Y h st st (.ts [] 0 (some 0)) (.ts cs 0 cap) = some (.ts [] 0 (some 0), h) := by
  simp [appendH, appendY, hk, hte, source, elems, elemsS, takeX, allCells, h0]

theorem clone_app {Y : YP} {st e : TypeId} {te : TI} (hk : Y.kd st = some (.slice e)) (hte : Y.ty e = some te) (h0 : te.size ≠ 0) (hb : te.bytes ≤ 1024) {cs c : List V} {n : Nat} {cap : Option Nat} (hc : takeX ((n + 1) * te.size) cs = some c) (ha : allCells c = true) (hn : n + 1 ≤ 2 ^ 30)
    (h : Heap) : appendH Y h st st (.ts [] 0 (some 0)) (.ts cs (n + 1) cap) = some (.sl (some (h.nx, 0)) (n + 1) none te.size, h.push (.arr c true)) := by
  have hsrc : source Y ⟨[], [], h⟩ te st (.ts cs (n + 1) cap) = some (n + 1, c) := by
    simp only [source, hk, elems, elemsS, hc]; rfl
  have hm : most = 1099511627776 := by decide
  have h1 : (n + 1) * te.bytes ≤ 2 ^ 30 * 1024 := Nat.mul_le_mul hn hb
  have h2 : ¬ ((0 + (n + 1)) * te.bytes > most ∨ 0 + (n + 1) > most) := by rw [Nat.zero_add, hm]; omega
  have h3 : ¬ (0 + (n + 1) ≤ 0) := by omega
  simp only [appendH, appendY, hk, hte, hsrc]
  rw [if_neg (by simp [ha, h0])]
  simp only [Nat.succ_ne_zero, if_false]
  rw [if_neg h2]
  simp [takeX]

theorem clone_con {Y : YP} (hY : YOK Y) {f : FuncId} {fn : Func} (hf : Y.P.funcs[f]? = some fn) (hb : fn.body.isSome = true) {st e : TypeId} {te : TI} {k : Nat} (hk : Y.kd st = some (.slice e)) (hte : Y.ty e = some te) (hk0 : te.size = k) (h0 : k ≠ 0) (hby : te.bytes ≤ 1024)
    (t0 : ∀ (c : Option Nat) (k : Nat) (h : Heap) (K : Out → Nat → List V → Heap → Prop), K .ret 8 [V.sl none 0 (some 0) 0] h → TriL Y (flat (bodyOf fn)) ⟨[V.sl none 0 c k] ++ List.replicate (fn.ntmps - 1) .undef, [], h⟩ (VQ [2] K))
    (t1 : ∀ (cs : List V) (n : Nat) (c : Option Nat) (h : Heap) (K : Out → Nat → List V → Heap → Prop), ((n = 0 → K Out.ret 8 [V.sl none 0 (some 0) 0] h) ∧
      ((∃ (a : Option (Nat × Nat)), ∃ (l : Nat), ∃ (c_1 : Option Nat), ∃ (k : Nat), ∃ (h_1 : Heap), appendH Y h st st (V.ts [] 0 (some 0)) (V.ts cs n c) = some (V.sl a l c_1 k, h_1) ∧ K Out.ret 8 [V.sl a l c_1 k] h_1) ∨
        appendH Y h st st (V.ts [] 0 (some 0)) (V.ts cs n c) = some (V.ts [] 0 (some 0), h) ∧ K Out.ret 8 [V.ts [] 0 (some 0)] h)) → TriL Y (flat (bodyOf fn)) ⟨[V.ts cs n c] ++ List.replicate (fn.ntmps - 1) .undef, [], h⟩ (VQ [2] K))
    (hr : fn.results.toList = [.tmp 2]) {args : List V} {h : Heap} {v : V} {h' : Heap} (hv : cloneV k args h = some (v, h')) : Con Y f args h fun v' k' => v' = v ∧ k' = h' := by
  have hres : ∀ v : V, v.plain = v → v ≠ .undef → resV Y fn ([2].zip [v]) = some v := by
    intro v h1 h2
    simp only [resV, hr, resVs, resV1, List.zip_cons_cons, List.zip_nil_right, lookV, if_true, Option.map_some, h1]
  have view : ∀ {args : List V} {h : Heap} {Q : V → Heap → Prop}, TriL Y (flat (bodyOf fn)) ⟨args ++ List.replicate (fn.ntmps - args.length) .undef, [], h⟩ (VQ [2] (Fin Y fn [2] (AfterZ Q))) → Con Y f args h Q := fun ht =>
    conz_of hY hf hb (TriL.mono ht fun o σ' ho => fin_ok ho σ' rfl rfl rfl)
  unfold cloneV at hv
  split at hv
  · simp only [Option.some.injEq, Prod.mk.injEq] at hv
    obtain ⟨rfl, rfl⟩ := hv
    exact view (t0 _ _ _ _ (finC (.inr rfl) (hres _ rfl (fun e => nomatch e)) (.now ⟨rfl, rfl⟩)))
  · simp only [Option.some.injEq, Prod.mk.injEq] at hv
    obtain ⟨rfl, rfl⟩ := hv
    refine view (t1 _ _ _ _ _ ⟨fun _ => finC (.inr rfl) (hres _ rfl (fun e => nomatch e)) ⟨[], _, .inl (.frz _ _ (.sln _ _ _ fun x hx => by simpa using hx.symm)), rfl, rfl⟩, .inr ⟨?_, finC (.inr rfl) (hres _ rfl (fun e => nomatch e)) (.now ⟨rfl, rfl⟩)⟩⟩)
    exact clone_app0 hk hte (by omega) _ _ _
  · split at hv
    · rename_i c hc
      split at hv
      · rename_i hcond
        simp only [Option.some.injEq, Prod.mk.injEq] at hv
        obtain ⟨rfl, rfl⟩ := hv
        refine view (t1 _ _ _ _ _ ⟨fun hz => absurd hz (by omega), .inl ⟨_, _, _, _, _, clone_app hk hte (by omega) hby (by rw [hk0]; exact hc) hcond.1 hcond.2 _, ?_⟩⟩)
        rw [hk0]
        exact finC (.inr rfl) (hres _ rfl (fun e => nomatch e)) (.now ⟨rfl, rfl⟩)
      · cases hv
    · cases hv
  · cases hv

theorem clone_tame {k : Nat} {args : List V} {h : Heap} {v : V} {h' : Heap} (hv : cloneV k args h = some (v, h')) : Tame h h' := by
  unfold cloneV at hv
  repeat' (split at hv <;> try (cases hv; done))
  all_goals (simp only [Option.some.injEq, Prod.mk.injEq] at hv; obtain ⟨_, rfl⟩ := hv)
  all_goals first
    | exact .refl _
    | exact .push _ _
end Go.Y
