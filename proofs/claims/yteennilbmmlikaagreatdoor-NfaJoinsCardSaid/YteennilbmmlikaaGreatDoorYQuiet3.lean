/- The operations that turn nothing: operators, slices, conversions. -/
import Derived.Test.YteennilbmmlikaaGreatDoorYQuiet
import Derived.Laws.Entries
import Derived.Laws.Slices
namespace Go.Y
section
variable {Y : YP} {W : Vw} {σ : St} {a : Act} {w : World}

theorem eqIn_bool {t : TypeId} (hd : Y.P.underlying t = some .bool) {x y : Bool} {u v : Value} (hx : VR W (.b x) u) (hy : VR W (.b y) v) (n : Nat) (w : World) :
    (Op.equalIn (n + 1) t u v).run Y.P w = .ok (x == y) w := by
  cases hx; cases hy; exact run_equalIn_bool' w n t _ _ hd
theorem eqIn_ptr0 {t : TypeId} {e : TypeId} (hd : Y.P.underlying t = some (.pointer e))   {u v : Value} (hx : VR W (.p none) u) (hy : VR W (.p none) v) (n : Nat) (w : World) :
    (Op.equalIn (n + 1) t u v).run Y.P w = .ok true w := by
  cases hx <;> cases hy <;> simp only [Op.equalIn, Sem.run_bind, run_underlying' hd, Result.andThen_ok, Sem.run_pure] <;> rfl
theorem eqIn_ptr1 {t : TypeId} {e : TypeId} (hd : Y.P.underlying t = some (.pointer e))  {q : Nat × Nat} {u v : Value} (hx : VR W (.p none) u) (hy : VR W (.p (some q)) v) (n : Nat) (w : World) :
    (Op.equalIn (n + 1) t u v).run Y.P w = .ok false w := by
  cases hx <;> cases hy <;> simp only [Op.equalIn, Sem.run_bind, run_underlying' hd, Result.andThen_ok, Sem.run_pure] <;> rfl
theorem eqIn_ptr2 {t : TypeId} {e : TypeId} (hd : Y.P.underlying t = some (.pointer e)) {q : Nat × Nat}  {u v : Value} (hx : VR W (.p (some q)) u) (hy : VR W (.p none) v) (n : Nat) (w : World) :
    (Op.equalIn (n + 1) t u v).run Y.P w = .ok false w := by
  cases hx <;> cases hy <;> simp only [Op.equalIn, Sem.run_bind, run_underlying' hd, Result.andThen_ok, Sem.run_pure] <;> rfl
theorem eqIn_ptr3 {t : TypeId} {e : TypeId} (hd : Y.P.underlying t = some (.pointer e))  {cs : List V} {u v : Value} (hx : VR W (.p none) u) (hy : VR W (.tp cs) v) (n : Nat) (w : World) :
    (Op.equalIn (n + 1) t u v).run Y.P w = .ok false w := by
  cases hx <;> cases hy <;> simp only [Op.equalIn, Sem.run_bind, run_underlying' hd, Result.andThen_ok, Sem.run_pure] <;> rfl
theorem eqIn_ptr4 {t : TypeId} {e : TypeId} (hd : Y.P.underlying t = some (.pointer e)) {cs : List V}  {u v : Value} (hx : VR W (.tp cs) u) (hy : VR W (.p none) v) (n : Nat) (w : World) :
    (Op.equalIn (n + 1) t u v).run Y.P w = .ok false w := by
  cases hx <;> cases hy <;> simp only [Op.equalIn, Sem.run_bind, run_underlying' hd, Result.andThen_ok, Sem.run_pure] <;> rfl
theorem eqIn_slice0 {t : TypeId} {e : TypeId} (hd : Y.P.underlying t = some (.slice e)) {l : Nat} {c : Option Nat} {k : Nat} {l' : Nat} {c' : Option Nat} {k' : Nat} {u v : Value} (hx : VR W (.sl none l c k) u) (hy : VR W (.sl none l' c' k') v) (n : Nat) (w : World) :
    (Op.equalIn (n + 1) t u v).run Y.P w = .ok true w := by
  cases hx <;> cases hy <;> simp only [Op.equalIn, Sem.run_bind, run_underlying' hd, Result.andThen_ok, Sem.run_pure] <;> rfl
theorem eqIn_slice1 {t : TypeId} {e : TypeId} (hd : Y.P.underlying t = some (.slice e)) {l : Nat} {c : Option Nat} {k : Nat} {q : Nat × Nat} {l' : Nat} {c' : Option Nat} {k' : Nat} {u v : Value} (hx : VR W (.sl none l c k) u) (hy : VR W (.sl (some q) l' c' k') v) (n : Nat) (w : World) :
    (Op.equalIn (n + 1) t u v).run Y.P w = .ok false w := by
  cases hx <;> cases hy <;> simp only [Op.equalIn, Sem.run_bind, run_underlying' hd, Result.andThen_ok, Sem.run_pure] <;> rfl
theorem eqIn_slice2 {t : TypeId} {e : TypeId} (hd : Y.P.underlying t = some (.slice e)) {q : Nat × Nat} {l : Nat} {c : Option Nat} {k : Nat} {l' : Nat} {c' : Option Nat} {k' : Nat} {u v : Value} (hx : VR W (.sl (some q) l c k) u) (hy : VR W (.sl none l' c' k') v) (n : Nat) (w : World) :
    (Op.equalIn (n + 1) t u v).run Y.P w = .ok false w := by
  cases hx <;> cases hy <;> simp only [Op.equalIn, Sem.run_bind, run_underlying' hd, Result.andThen_ok, Sem.run_pure] <;> rfl
theorem eqIn_slice3 {t : TypeId} {e : TypeId} (hd : Y.P.underlying t = some (.slice e)) {l : Nat} {c : Option Nat} {k : Nat} {cs : List V} {l' : Nat} {c' : Option Nat} {u v : Value} (hx : VR W (.sl none l c k) u) (hy : VR W (.ts cs l' c') v) (h0 : l' ≠ 0) (n : Nat) (w : World) :
    (Op.equalIn (n + 1) t u v).run Y.P w = .ok false w := by
  cases hx <;> cases hy <;> first | exact absurd rfl h0 | (simp only [Op.equalIn, Sem.run_bind, run_underlying' hd, Result.andThen_ok, Sem.run_pure] <;> rfl)
theorem eqIn_slice4 {t : TypeId} {e : TypeId} (hd : Y.P.underlying t = some (.slice e)) {cs : List V} {l : Nat} {c : Option Nat} {l' : Nat} {c' : Option Nat} {k' : Nat} {u v : Value} (hx : VR W (.ts cs l c) u) (hy : VR W (.sl none l' c' k') v) (h0 : l ≠ 0) (n : Nat) (w : World) :
    (Op.equalIn (n + 1) t u v).run Y.P w = .ok false w := by
  cases hx <;> cases hy <;> first | exact absurd rfl h0 | (simp only [Op.equalIn, Sem.run_bind, run_underlying' hd, Result.andThen_ok, Sem.run_pure] <;> rfl)
theorem eqIn_map0 {t : TypeId} {k e : TypeId} (hd : Y.P.underlying t = some (.map k e))   {u v : Value} (hx : VR W (.mp none) u) (hy : VR W (.mp none) v) (n : Nat) (w : World) :
    (Op.equalIn (n + 1) t u v).run Y.P w = .ok true w := by
  cases hx <;> cases hy <;> simp only [Op.equalIn, Sem.run_bind, run_underlying' hd, Result.andThen_ok, Sem.run_pure] <;> rfl
theorem eqIn_map1 {t : TypeId} {k e : TypeId} (hd : Y.P.underlying t = some (.map k e))  {q : Nat} {u v : Value} (hx : VR W (.mp none) u) (hy : VR W (.mp (some q)) v) (n : Nat) (w : World) :
    (Op.equalIn (n + 1) t u v).run Y.P w = .ok false w := by
  cases hx <;> cases hy <;> simp only [Op.equalIn, Sem.run_bind, run_underlying' hd, Result.andThen_ok, Sem.run_pure] <;> rfl
theorem eqIn_map2 {t : TypeId} {k e : TypeId} (hd : Y.P.underlying t = some (.map k e)) {q : Nat}  {u v : Value} (hx : VR W (.mp (some q)) u) (hy : VR W (.mp none) v) (n : Nat) (w : World) :
    (Op.equalIn (n + 1) t u v).run Y.P w = .ok false w := by
  cases hx <;> cases hy <;> simp only [Op.equalIn, Sem.run_bind, run_underlying' hd, Result.andThen_ok, Sem.run_pure] <;> rfl
theorem eqIn_func0 {t : TypeId} {ps rs : Array TypeId} {b : Bool} (hd : Y.P.underlying t = some (.func ps rs b))   {u v : Value} (hx : VR W (.nilfn) u) (hy : VR W (.nilfn) v) (n : Nat) (w : World) :
    (Op.equalIn (n + 1) t u v).run Y.P w = .ok true w := by
  cases hx <;> cases hy <;> simp only [Op.equalIn, Sem.run_bind, run_underlying' hd, Result.andThen_ok, Sem.run_pure] <;> rfl
theorem eqIn_func1 {t : TypeId} {ps rs : Array TypeId} {b : Bool} (hd : Y.P.underlying t = some (.func ps rs b))  {f : Fn} {a c : List V} {u v : Value} (hx : VR W (.nilfn) u) (hy : VR W (.fn f a c) v) (n : Nat) (w : World) :
    (Op.equalIn (n + 1) t u v).run Y.P w = .ok false w := by
  cases hx <;> cases hy <;> simp only [Op.equalIn, Sem.run_bind, run_underlying' hd, Result.andThen_ok, Sem.run_pure] <;> rfl
theorem eqIn_func2 {t : TypeId} {ps rs : Array TypeId} {b : Bool} (hd : Y.P.underlying t = some (.func ps rs b)) {f : Fn} {a c : List V}  {u v : Value} (hx : VR W (.fn f a c) u) (hy : VR W (.nilfn) v) (n : Nat) (w : World) :
    (Op.equalIn (n + 1) t u v).run Y.P w = .ok false w := by
  cases hx <;> cases hy <;> simp only [Op.equalIn, Sem.run_bind, run_underlying' hd, Result.andThen_ok, Sem.run_pure] <;> rfl
theorem eqIn_iface0 {t : TypeId} {ms : Array (String × TypeId)} (hd : Y.P.underlying t = some (.interface ms))  {e : TypeId} {x : V} {u v : Value} (hx : VR W (.nilifc) u) (hy : VR W (.ifc e x) v) (n : Nat) (w : World) :
    (Op.equalIn (n + 1) t u v).run Y.P w = .ok false w := by
  cases hx <;> cases hy <;> simp only [Op.equalIn, Sem.run_bind, run_underlying' hd, Result.andThen_ok, Sem.run_pure] <;> rfl
theorem eqIn_iface1 {t : TypeId} {ms : Array (String × TypeId)} (hd : Y.P.underlying t = some (.interface ms)) {e : TypeId} {x : V}  {u v : Value} (hx : VR W (.ifc e x) u) (hy : VR W (.nilifc) v) (n : Nat) (w : World) :
    (Op.equalIn (n + 1) t u v).run Y.P w = .ok false w := by
  cases hx <;> cases hy <;> simp only [Op.equalIn, Sem.run_bind, run_underlying' hd, Result.andThen_ok, Sem.run_pure] <;> rfl
theorem eqV_in {t : TypeId} {ti : TI} {i : TypeInfo} {d : TypeDesc} {z : Value} (ht : TIOK Y t ti i d z) {x y : V} {r : Bool} (h : eqV ti.kd x y = some r) {u v : Value}
    (hx : VR W x u) (hy : VR W y v) (n : Nat) (w : World) : (Op.equalIn (n + 1) t u v).run Y.P w = .ok r w := by
  have hd := ht.und
  have hk := ht.kd
  generalize ti.kd = kd at h hk
  unfold eqV at h
  split at h <;> (try split at h) <;> simp only [Option.some.injEq, reduceCtorEq] at h <;> simp only [KdOK] at hk <;> subst h
  case h_1 => subst hk; exact eqIn_bool hd hx hy n w
  case h_2 => subst hk; exact eqIn_ptr0 hd hx hy n w
  case h_3 => subst hk; exact eqIn_ptr1 hd hx hy n w
  case h_4 => subst hk; exact eqIn_ptr2 hd hx hy n w
  case h_5 => subst hk; exact eqIn_ptr3 hd hx hy n w
  case h_6 => subst hk; exact eqIn_ptr4 hd hx hy n w
  case h_7 => subst hk; exact eqIn_slice0 hd hx hy n w
  case h_8 => subst hk; exact eqIn_slice1 hd hx hy n w
  case h_9 => subst hk; exact eqIn_slice2 hd hx hy n w
  case h_10 => subst hk; exact eqIn_slice3 hd hx hy (by assumption) n w
  case h_11 => subst hk; exact eqIn_slice4 hd hx hy (by assumption) n w
  case h_12 => subst hk; exact eqIn_map0 hd hx hy n w
  case h_13 => subst hk; exact eqIn_map1 hd hx hy n w
  case h_14 => subst hk; exact eqIn_map2 hd hx hy n w
  case h_15 => obtain ⟨_, _, _, rfl⟩ := hk; exact eqIn_func0 hd hx hy n w
  case h_16 => obtain ⟨_, _, _, rfl⟩ := hk; exact eqIn_func1 hd hx hy n w
  case h_17 => obtain ⟨_, _, _, rfl⟩ := hk; exact eqIn_func2 hd hx hy n w
  case h_18 => obtain ⟨_, rfl⟩ := hk; exact eqIn_iface0 hd hx hy n w
  case h_19 => obtain ⟨_, rfl⟩ := hk; exact eqIn_iface1 hd hx hy n w

theorem eqV_ok {t : TypeId} {ti : TI} {i : TypeInfo} {d : TypeDesc} {z : Value} (ht : TIOK Y t ti i d z) {x y : V} {r : Bool} (h : eqV ti.kd x y = some r) {u v : Value}
    (hx : VR W x u) (hy : VR W y v) (w : World) :
    (binOp .eql t u v).run Y.P w = .ok (.bool r) w ∧ (binOp .neq t u v).run Y.P w = .ok (.bool (!r)) w ∧ ∀ op xo yo, eqGuard op t xo yo u v = pure () := by
  have he : (Op.equal t u v).run Y.P w = .ok r w := eqV_in ht h hx hy 9999 w
  unfold eqV at h
  split at h <;> (try split at h) <;> first | (cases h; done) | skip
  all_goals cases hx <;> cases hy
  all_goals first | (exfalso; contradiction) | skip
  all_goals exact ⟨by simp only [binOp, Sem.run_bind, he, Result.andThen_ok, Sem.run_pure], by simp only [binOp, Sem.run_bind, he, Result.andThen_ok, Sem.run_pure], fun op _ _ => by cases op <;> rfl⟩

theorem binY_ok (hY : YOK Y) {op : BinOp} {t : TypeId} {xo yo : Operand} {x y v : V} (h : binY Y op t xo yo x y = some v) {u1 u2 : Value} (hx : VR W x u1) (hy : VR W y u2) :
    ∃ u, VR W v u ∧ ∀ w, (do eqGuard op t xo yo u1 u2; binOp op t u1 u2 : Sem Value).run Y.P w = .ok u w := by
  unfold binY at h
  split at h
  · rename_i k m k' n
    cases hx; cases hy
    have hg : ∀ w, (eqGuard op t xo yo (.int k m) (.int k' n)).run Y.P w = .ok () w := fun w => by cases op <;> rfl
    split at h
    · split at h
      · cases h
      · rename_i hn
        simp at h; subst h
        exact ⟨_, .i _ _, fun w => by simp only [Sem.run_bind, hg, Result.andThen_ok]; simp [binOp, Op.shift, hn]⟩
    · split at h
      · cases h
      · rename_i hn
        simp at h; subst h
        exact ⟨_, .i _ _, fun w => by simp only [Sem.run_bind, hg, Result.andThen_ok]; simp [binOp, Op.shift, hn]⟩
    · split at h
      · rename_i hk
        subst hk
        obtain ⟨u, hu, he⟩ := intBin_ok (Y := Y) (W := W) h t
        exact ⟨u, hu, fun w => by simp only [Sem.run_bind, hg, Result.andThen_ok, he]⟩
      · cases h
  · rename_i l m
    cases hx; cases hy
    have hg : ∀ w, (eqGuard op t xo yo (.string ⟨l.toArray⟩) (.string ⟨m.toArray⟩)).run Y.P w = .ok () w := fun w => by cases op <;> rfl
    obtain ⟨u, hu, he⟩ := strBin_ok (Y := Y) (W := W) h t
    exact ⟨u, hu, fun w => by simp only [Sem.run_bind, hg, Result.andThen_ok, he]⟩
  · cases hx; cases hy
    have hg : (isConst xo || isConst yo) = true → ∀ w, (eqGuard op t xo yo .nilIface .nilIface).run Y.P w = .ok () w := by
      intro hc w
      cases xo <;> cases yo <;> simp [isConst] at hc <;> cases op <;> rfl
    have he : ∀ ms, Y.P.underlying t = some (.interface ms) → ∀ w, (Op.equal t .nilIface .nilIface).run Y.P w = .ok true w := fun ms hd w => by
      show (Op.equalIn (9999 + 1) t .nilIface .nilIface).run Y.P w = .ok true w
      generalize 9999 = n
      simp only [Op.equalIn, Sem.run_bind, run_underlying' hd, Result.andThen_ok, Sem.run_pure]
    split at h
    · rename_i hk
      obtain ⟨ti, hti, hk'⟩ := kd_of hk
      obtain ⟨i, d, z, ht⟩ := hY.ty t ti hti
      have hkd := ht.kd
      rw [hk'] at hkd
      obtain ⟨ms, rfl⟩ := hkd
      split at h
      · rename_i hc
        simp at h; subst h
        exact ⟨_, .b _, fun w => by simp only [Sem.run_bind, hg hc, Result.andThen_ok, binOp, he ms ht.und, Sem.run_pure]⟩
      · cases h
    · rename_i hk
      obtain ⟨ti, hti, hk'⟩ := kd_of hk
      obtain ⟨i, d, z, ht⟩ := hY.ty t ti hti
      have hkd := ht.kd
      rw [hk'] at hkd
      obtain ⟨ms, rfl⟩ := hkd
      split at h
      · rename_i hc
        simp at h; subst h
        exact ⟨_, .b _, fun w => by simp only [Sem.run_bind, hg hc, Result.andThen_ok, binOp, he ms ht.und, Sem.run_pure, Bool.not_true]⟩
      · cases h
    · cases h
  · rename_i xs ys
    cases hx with
    | agg _ us hxs =>
      cases hy with
      | agg _ vs hys =>
        cases hk : Y.kd t with
        | none => simp [hk] at h
        | some kd =>
        simp only [hk] at h
        obtain ⟨ti, hti, hk'⟩ := kd_of hk
        obtain ⟨i, d, z, ht⟩ := hY.ty t ti hti
        have hkd := ht.kd
        rw [hk'] at hkd
        split at h
        case isFalse => cases h
        rename_i hag
        have hgt : Y.P.eqGuardType Y.P.depth t = false := by
          cases kd <;> simp [Kd.agg] at hag
          · exact hkd.2
          · obtain ⟨_, _, _, _, _, hg⟩ := hkd; exact hg
        rw [← hk'] at hag
        have key : ∀ r, eqTy Y 8 t xs ys = some r → (∀ w, (Op.equal t (.agg us.toArray) (.agg vs.toArray)).run Y.P w = .ok r w) ∧ ∀ op w, (eqGuard op t xo yo (.agg us.toArray) (.agg vs.toArray)).run Y.P w = .ok () w := by
          intro r hr
          refine ⟨fun w => ?_, fun op w => run_eqGuard_agg w op t xo yo _ _ hgt⟩
          exact eqTy_ok hY 8 t xs ys r hr us vs hxs hys ti hti _ _ (by simp [hag]) (by simp [hag]) 10000 w (by omega)
        split at h
        · rename_i r hr
          simp at h; subst h
          obtain ⟨h1, h2⟩ := key r hr
          exact ⟨_, .b _, fun w => by simp only [Sem.run_bind, h2, Result.andThen_ok, binOp, h1, Sem.run_pure]⟩
        · rename_i r hr
          simp at h; subst h
          obtain ⟨h1, h2⟩ := key r hr
          exact ⟨_, .b _, fun w => by simp only [Sem.run_bind, h2, Result.andThen_ok, binOp, h1, Sem.run_pure]⟩
        · cases h
  · split at h
    · rename_i kd hk
      obtain ⟨ti, hti, hk'⟩ := kd_of hk
      obtain ⟨i, d, z, ht⟩ := hY.ty t ti hti
      subst hk'
      split at h
      · rename_i r hr
        simp at h; subst h
        exact ⟨_, .b _, fun w => by
          obtain ⟨h1, h2, h3⟩ := eqV_ok ht hr hx hy w
          simp only [Sem.run_bind, h3, Sem.run_pure, Result.andThen_ok, h1]⟩
      · rename_i r hr
        simp at h; subst h
        exact ⟨_, .b _, fun w => by
          obtain ⟨h1, h2, h3⟩ := eqV_ok ht hr hx hy w
          simp only [Sem.run_bind, h3, Sem.run_pure, Result.andThen_ok, h2]⟩
      · cases h
    · cases h
end
end Go.Y

/- The operations that turn nothing, all of them. -/
namespace Go.Y
section
variable {Y : YP} {W : Vw} {σ : St} {a : Act} {w : World}

theorem unY_ok {op : UnOp} {x v : V} (h : unY op x = some v) {u1 : Value} (hx : VR W x u1) : ∃ u, VR W v u ∧ ∀ w, (Op.unary op u1).run Y.P w = .ok u w := by
  unfold unY at h
  split at h
  · cases hx; simp at h; subst h; exact ⟨_, .b _, fun w => rfl⟩
  · cases hx; simp at h; subst h; exact ⟨_, .i _ _, fun w => by simp [Op.unary, Op.intArith]⟩
  · cases hx; simp only [Option.some.injEq] at h; subst h; exact ⟨_, .i _ _, fun w => rfl⟩
  · cases h

theorem load_ok (hY : YOK Y) (h : Rel W σ a w) {t : TypeId} {x : Operand} {ti : TI} (hti : Y.ty t = some ti) {ad : Ad} (had : addr σ x = some ad) {v : V}
    (hv : (cellsAt σ ti.size ad).bind (ofCells ti.kd.agg) = some v) : ∃ u, VR W v u ∧ ∀ w', Same w w' → (Instr.loadAt t (a.eval x)).run Y.P w' = .ok u w' := by
  obtain ⟨i, d, z, ht⟩ := hY.ty t ti hti
  obtain ⟨y, hy, hr⟩ := addr_ok h had
  obtain ⟨l, hl, hv⟩ := Option.bind_eq_some_iff.1 hv
  obtain ⟨us, h1, h2, h3⟩ := cellsAt_ok h hr hl
  obtain ⟨u, hu, he⟩ := ofCells_ok h1 hv
  refine ⟨u, hu, fun w' hw' => ?_⟩
  rw [hy]
  simp only [Instr.loadAt, Instr.sureAddr, Sem.run_bind, Sem.run_pure, Result.andThen_ok]
  exact run_loadVarY ht.und ht.info w' y us (by rw [h2, ht.size]) (h3.same hw') u (by rw [ht.agg]; exact he)

theorem fieldsOf_ok (hY : YOK Y) {t : TypeId} {fs : List (Nat × TypeId)} (h : fieldsOf Y t = some fs) :
    ∃ l : Array Field, Y.P.underlying t = some (.struct l) ∧ fs = l.toList.map (fun f => (f.offset, f.type)) := by
  unfold fieldsOf at h
  split at h
  · rename_i fs' hk
    simp at h; subst h
    obtain ⟨ti, hti, hk'⟩ := kd_of hk
    obtain ⟨i, d, z, ht⟩ := hY.ty t ti hti
    have hkd := ht.kd
    rw [hk'] at hkd
    obtain ⟨l, rfl, hfs, _⟩ := hkd
    exact ⟨l, ht.und, hfs⟩
  · cases h

theorem fieldA_ok (hY : YOK Y) (h : Rel W σ a w) {t : TypeId} {x : Operand} {f : Nat} {ad : Ad} (hf : fieldA Y σ t x f = some ad) :
    ∃ y, AdR W σ a ad y ∧ ∀ w', Same w w' → (Instr.fieldAt t (a.eval x) f).run Y.P w' = .ok (.pointer (some y)) w' := by
  unfold fieldA at hf
  split at hf
  · rename_i fs hfs
    obtain ⟨l, hl, rfl⟩ := fieldsOf_ok hY hfs
    split at hf
    · rename_i off ft a0 hg ha
      obtain ⟨y, hy, hr⟩ := addr_ok h ha
      split at hf
      · rename_i ti hti
        split at hf
        · rename_i hs
          simp at hf; subst hf
          obtain ⟨i, d, z, ht⟩ := hY.ty ft ti hti
          rw [List.getElem?_map, Option.map_eq_some_iff] at hg
          obtain ⟨fd, hfd, he⟩ := hg
          simp at he
          obtain ⟨rfl, rfl⟩ := he
          refine ⟨_, hr.shift _, fun w' _ => ?_⟩
          have hfd' : l[f]? = some fd := by simpa using hfd
          have hs' : i.size ≠ 0 := by rw [ht.size]; exact hs
          rw [hy]
          simp only [Instr.fieldAt, Sem.run_bind, run_underlying' hl, Result.andThen_ok, hfd', Instr.sureAddr, Sem.run_pure, fieldPlace, run_sizeOf ht.info, Sem.run_ite, hs', if_false]
        · cases hf
      · cases hf
    · cases hf
  · cases hf

theorem indexA_ok (hY : YOK Y) (h : Rel W σ a w) {t : TypeId} {x ix : Operand} {ad : Ad} (hf : indexA Y σ t x (ev σ.env ix) = some ad) :
    ∃ y, AdR W σ a ad y ∧ ∀ w', Same w w' → (Instr.indexAt t (a.eval x) (a.eval ix)).run Y.P w' = .ok (.pointer (some y)) w' := by
  have hix := h.ev ix
  unfold indexA at hf
  split at hf
  · rename_i n e k i hk hi
    rw [hi] at hix
    generalize a.eval ix = ui at hix
    cases hix
    obtain ⟨ti, hti, hk'⟩ := kd_of hk
    obtain ⟨inf, d, z, ht⟩ := hY.ty t ti hti
    have hkd := ht.kd
    rw [hk'] at hkd
    obtain ⟨rfl, _⟩ := hkd
    split at hf
    · rename_i te a0 hte ha
      split at hf
      · rename_i hc
        simp at hf; subst hf
        obtain ⟨ie, de, ze, hte'⟩ := hY.ty e te hte
        obtain ⟨y, hy, hr⟩ := addr_ok h ha
        refine ⟨_, hr.shift _, fun w' _ => ?_⟩
        rw [hy]
        simp only [Instr.indexAt, asIntOf, Sem.run_bind, run_underlying' ht.und, Result.andThen_ok, Instr.sureAddr, Sem.run_pure, Sem.run_ite]
        rw [if_pos ⟨hc.1, hc.2.1⟩]
        simp only [run_sizeOf hte'.info, Result.andThen_ok, hte'.size]
      · cases hf
    · cases hf
  · rename_i e k i hk hi
    rw [hi] at hix
    generalize a.eval ix = ui at hix
    cases hix
    obtain ⟨ti, hti, hk'⟩ := kd_of hk
    obtain ⟨inf, d, z, ht⟩ := hY.ty t ti hti
    have hkd := ht.kd
    rw [hk'] at hkd
    cases hkd
    have hx := h.ev x
    split at hf
    · rename_i te id o len cap k' hte hxv
      rw [hxv] at hx
      generalize a.eval x = ux at hx
      split at hf
      · rename_i hc
        obtain ⟨h0, h1, h2, rfl⟩ := hc
        simp at hf; subst hf
        obtain ⟨ie, de, ze, hte'⟩ := hY.ty e te hte
        cases hx with
        | sls _ _ _ _ _ y cap' hid hl _ ha _ _ =>
          refine ⟨y.add (i.toNat * te.size), ⟨hid, fun hv => ?_⟩, fun w' _ => ?_⟩
          · rw [ha hv (by omega)]; unfold Vw.at; rw [add_at, Nat.add_assoc]
          · simp only [Instr.indexAt, asIntOf, Sem.run_bind, run_underlying' ht.und, Result.andThen_ok, Sem.run_pure, Sem.run_ite]
            rw [if_pos ⟨h0, h1⟩]
            simp only [run_sizeOf hte'.info, Result.andThen_ok, hte'.size]
      · cases hf
    · rename_i te cs len cap hte hxv
      rw [hxv] at hx
      generalize a.eval x = ux at hx
      split at hf
      · rename_i hc
        obtain ⟨h0, h1, h2⟩ := hc
        simp at hf; subst hf
        obtain ⟨ie, de, ze, hte'⟩ := hY.ty e te hte
        have run : ∀ (y : Addr) (cap' : Nat) w', (Instr.indexAt t (.slice (some y) len cap') (.int k i)).run Y.P w' = .ok (.pointer (some (y.add (i.toNat * te.size)))) w' := by
          intro y cap' w'
          simp only [Instr.indexAt, asIntOf, Sem.run_bind, run_underlying' ht.und, Result.andThen_ok, Sem.run_pure, Sem.run_ite]
          rw [if_pos ⟨h0, h1⟩]
          simp only [run_sizeOf hte'.info, Result.andThen_ok, hte'.size]
        cases hx with
        | tsn _ _ y cap' => exact ⟨_, .inl (by simp), fun w' _ => run y cap' w'⟩
        | tsz => omega
        | ts _ _ _ cap' blk off c et fr us hl hcap hs hcc hr =>
          have hr' : AdR W σ a (.ro cs) ⟨blk, off, none⟩ := .inr ⟨blk, off, c, et, fr, us, rfl, hs, hcc, hr⟩
          exact ⟨_, hr'.shift _, fun w' _ => run _ cap' w'⟩
      · cases hf
    · cases hf
  · cases hf

theorem cells_ok {v : V} {u : Value} (h : VR W v u) (hc : allCells v.cells = true) : VRs W v.cells u.cells.toList := by
  cases h with
  | agg cs us h => simpa [V.cells, Value.cells] using h
  | undef u => simp [V.cells, allCells, V.cellOK] at hc
  | tup cs us h => simp [V.cells, allCells, V.cellOK] at hc
  | b x => exact .cons _ _ _ _ (.b x) .nil
  | i k n => exact .cons _ _ _ _ (.i k n) .nil
  | s l => exact .cons _ _ _ _ (.s l) .nil
  | pn => exact .cons _ _ _ _ .pn .nil
  | ps id off a hid ha => exact .cons _ _ _ _ (.ps id off a hid ha) .nil
  | tpn a => exact .cons _ _ _ _ (.tpn a) .nil
  | tp cs blk off c e fr us hs hc' hr => exact .cons _ _ _ _ (.tp cs blk off c e fr us hs hc' hr) .nil
  | sln c k => exact .cons _ _ _ _ (.sln c k) .nil
  | sls id off len cap k a cap' hid hl hc' ha hn hk => exact .cons _ _ _ _ (.sls id off len cap k a cap' hid hl hc' ha hn hk) .nil
  | tsn len cap a cap' hl hc' => exact .cons _ _ _ _ (.tsn len cap a cap' hl hc') .nil
  | tsz cap hc' => exact .cons _ _ _ _ (.tsz cap hc') .nil
  | ts cs len cap cap' blk off c e fr us hl hcap hs hc' hr => exact .cons _ _ _ _ (.ts cs len cap cap' blk off c e fr us hl hcap hs hc' hr) .nil
  | mpn => exact .cons _ _ _ _ .mpn .nil
  | mps id r hid hr => exact .cons _ _ _ _ (.mps id r hid hr) .nil
  | fn f a c ua uc ha hc' => exact .cons _ _ _ _ (.fn f a c ua uc ha hc') .nil
  | nilfn => exact .cons _ _ _ _ .nilfn .nil
  | ifc t v u h => exact .cons _ _ _ _ (.ifc t v u h) .nil
  | nilifc => exact .cons _ _ _ _ .nilifc .nil
  | yl id l hid hl => exact .cons _ _ _ _ (.yl id l hid hl) .nil

theorem oneCells_ok : ∀ {cs : List V} {us : List Value}, VRs W cs us → allCells cs = true → ∀ u ∈ us, u.oneCell' = true
  | _, _, .nil, _, u, hu => by simp at hu
  | _, _, .cons v u' l m h hs, hc, u, hu => by
    simp only [allCells, Bool.and_eq_true] at hc
    rcases List.mem_cons.1 hu with rfl | hu
    · cases h <;> first | rfl | (simp [V.cellOK] at hc)
    · exact oneCells_ok hs hc.2 u hu

theorem foldl_set (n : Nat) : ∀ (vs : List Value) (k : Nat) (cs : Array Value), n + k + vs.length ≤ cs.size →
    ((vs.zipIdx k).foldl (fun cs (p : Value × Nat) => cs.setIfInBounds (n + p.2) p.1) cs).toList = splice cs.toList (n + k) vs
  | [], k, cs, h => by
    apply List.ext_getElem?
    intro j
    rw [splice_get _ _ _ _ (by simpa using h)]
    simp only [List.zipIdx_nil, List.foldl_nil]
    split
    · rename_i hj; simp at hj; omega
    · rfl
  | v :: vs, k, cs, h => by
    simp only [List.length_cons] at h
    simp only [List.zipIdx_cons, List.foldl_cons]
    rw [foldl_set n vs (k + 1) _ (by simp; omega)]
    apply List.ext_getElem?
    intro j
    rw [splice_get _ _ _ _ (by simp; omega), splice_get _ _ _ _ (by simp; omega)]
    simp only [List.length_cons, Array.getElem?_toList, Array.getElem?_setIfInBounds]
    by_cases hj : j = n + k
    · subst hj
      rw [if_neg (by omega), if_pos (by omega)]
      simp; omega
    · by_cases hc : n + (k + 1) ≤ j ∧ j < n + (k + 1) + vs.length
      · rw [if_pos hc, if_pos (by omega)]
        obtain ⟨q, hq⟩ : ∃ q, j = n + k + (q + 1) := ⟨j - (n + k + 1), by omega⟩
        subst hq
        rw [show n + k + (q + 1) - (n + (k + 1)) = q by omega, show n + k + (q + 1) - (n + k) = q + 1 by omega]
        simp
      · rw [if_neg hc, if_neg (by omega : ¬ (n + k ≤ j ∧ j < n + k + (vs.length + 1))), if_neg (fun e : n + k = j => hj e.symm)]

theorem fill_ok (h : Rel W σ a w) {place : Nat → Option (Nat × Nat)} : ∀ (parts : List (Nat × Operand)) (cs r : List V) (us : List Value), VRs W cs us →
    fillY (ev σ.env) place parts cs = some r → ∃ us', VRs W r us' ∧ Instr.fill place us.toArray (parts.map fun p => (p.1, a.eval p.2)) = some us'.toArray
  | [], cs, r, us, hr, hf => by simp [fillY] at hf; subst hf; exact ⟨us, hr, by simp [Instr.fill]⟩
  | p :: rest, cs, r, us, hr, hf => by
    simp only [fillY] at hf
    split at hf
    · rename_i off size hp
      split at hf
      · rename_i hc
        obtain ⟨h1, h2, h3⟩ := hc
        have hv := cells_ok (h.ev p.2) h3
        have hl := hv.length
        have hl2 := hr.length
        have hsp := hr.splice hv off h2
        obtain ⟨us', h4, h5⟩ := fill_ok h rest _ r _ hsp hf
        refine ⟨us', h4, ?_⟩
        simp only [List.map_cons, Instr.fill, hp]
        have e1 : (a.eval p.2).cells.size = size := by rw [← Array.length_toList, ← hl, h1]
        have e2 : ¬ ((a.eval p.2).cells.size ≠ size ∨ off + (a.eval p.2).cells.size > us.toArray.size) := by
          rw [e1]; simp; omega
        rw [if_neg (by simpa using e2)]
        rw [← h5]
        congr 1
        have hz : (a.eval p.2).cells.zipIdx.foldl (fun cs x => cs.setIfInBounds (off + x.2) x.1) us.toArray = (splice us off (a.eval p.2).cells.toList).toArray := by
          apply Array.ext'
          rw [← Array.foldl_toList, Array.toList_zipIdx]
          rw [foldl_set off _ 0 _ (by simp; omega)]
          simp
        exact hz
      · cases hf
    · cases hf
end
end Go.Y
