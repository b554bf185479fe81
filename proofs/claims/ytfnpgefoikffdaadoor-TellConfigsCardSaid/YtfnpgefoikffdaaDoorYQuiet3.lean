/- The operations that turn nothing: operators, slices, conversions. -/
import Derived.Test.YtfnpgefoikffdaaDoorYQuiet
namespace Go.Y
section
variable {Y : YP} {W : Vw} {σ : St} {a : Act} {w : World}

theorem eqIn_bool {t : TypeId} (hd : Y.P.underlying t = some .bool) {x y : Bool} {u v : Value} (hx : VR W (.b x) u) (hy : VR W (.b y) v) (n : Nat) (w : World) :
    (Op.equalIn (n + 1) t u v).run Y.P w = .ok (x == y) w := by
  cases hx; cases hy; exact run_equalIn_bool' w n t _ _ hd
theorem eqIn_ptr0 {t : TypeId} {e : TypeId} (hd : Y.P.underlying t = some (.pointer e))   {u v : Value} (hx : VR W (.p none) u) (hy : VR W (.p none) v) (n : Nat) (w : World) :
    (Op.equalIn (n + 1) t u v).run Y.P w = .ok true w := by
  cases hx <;> cases hy <;> simp only [Op.equalIn, Sem.run_bind, run_underlying' hd, Result.andThen_ok, Sem.run_pure] <;> rfl
theorem eqIn_ptr1 {t : TypeId} {e : TypeId} (hd : Y.P.underlying t = some (.pointer e))  {q : Nat × Nat} {u v : Value} (hx : VR W (.p none) u) (hy : VR W (.p (some q)) v) (n : Nat) (w : World) :
    (Op.equalIn (n + 1) t u v).run Y.P w = .ok false w := by
  cases hx <;> cases hy <;> simp only [Op.equalIn, Sem.run_bind, run_underlying' hd, Result.andThen_ok, Sem.run_pure] <;> rfl
theorem eqIn_ptr2 {t : TypeId} {e : TypeId} (hd : Y.P.underlying t = some (.pointer e)) {q : Nat × Nat}  {u v : Value} (hx : VR W (.p (some q)) u) (hy : VR W (.p none) v) (n : Nat) (w : World) :
    (Op.equalIn (n + 1) t u v).run Y.P w = .ok false w := by
  cases hx <;> cases hy <;> simp only [Op.equalIn, Sem.run_bind, run_underlying' hd, Result.andThen_ok, Sem.run_pure] <;> rfl
theorem eqIn_ptr3 {t : TypeId} {e : TypeId} (hd : Y.P.underlying t = some (.pointer e))  {cs : List V} {u v : Value} (hx : VR W (.p none) u) (hy : VR W (.tp cs) v) (n : Nat) (w : World) :
    (Op.equalIn (n + 1) t u v).run Y.P w = .ok false w := by
  cases hx <;> cases hy <;> simp only [Op.equalIn, Sem.run_bind, run_underlying' hd, Result.andThen_ok, Sem.run_pure] <;> rfl
theorem eqIn_ptr4 {t : TypeId} {e : TypeId} (hd : Y.P.underlying t = some (.pointer e)) {cs : List V}  {u v : Value} (hx : VR W (.tp cs) u) (hy : VR W (.p none) v) (n : Nat) (w : World) :
    (Op.equalIn (n + 1) t u v).run Y.P w = .ok false w := by
  cases hx <;> cases hy <;> simp only [Op.equalIn, Sem.run_bind, run_underlying' hd, Result.andThen_ok, Sem.run_pure] <;> rfl
theorem eqIn_slice0 {t : TypeId} {e : TypeId} (hd : Y.P.underlying t = some (.slice e)) {l : Nat} {c : Option Nat} {k : Nat} {l' : Nat} {c' : Option Nat} {k' : Nat} {u v : Value} (hx : VR W (.sl none l c k) u) (hy : VR W (.sl none l' c' k') v) (n : Nat) (w : World) :
    (Op.equalIn (n + 1) t u v).run Y.P w = .ok true w := by
  cases hx <;> cases hy <;> simp only [Op.equalIn, Sem.run_bind, run_underlying' hd, Result.andThen_ok, Sem.run_pure] <;> rfl
theorem eqIn_slice1 {t : TypeId} {e : TypeId} (hd : Y.P.underlying t = some (.slice e)) {l : Nat} {c : Option Nat} {k : Nat} {q : Nat × Nat} {l' : Nat} {c' : Option Nat} {k' : Nat} {u v : Value} (hx : VR W (.sl none l c k) u) (hy : VR W (.sl (some q) l' c' k') v) (n : Nat) (w : World) :
    (Op.equalIn (n + 1) t u v).run Y.P w = .ok false w := by
  cases hx <;> cases hy <;> simp only [Op.equalIn, Sem.run_bind, run_underlying' hd, Result.andThen_ok, Sem.run_pure] <;> rfl
theorem eqIn_slice2 {t : TypeId} {e : TypeId} (hd : Y.P.underlying t = some (.slice e)) {q : Nat × Nat} {l : Nat} {c : Option Nat} {k : Nat} {l' : Nat} {c' : Option Nat} {k' : Nat} {u v : Value} (hx : VR W (.sl (some q) l c k) u) (hy : VR W (.sl none l' c' k') v) (n : Nat) (w : World) :
    (Op.equalIn (n + 1) t u v).run Y.P w = .ok false w := by
  cases hx <;> cases hy <;> simp only [Op.equalIn, Sem.run_bind, run_underlying' hd, Result.andThen_ok, Sem.run_pure] <;> rfl
theorem eqIn_slice3 {t : TypeId} {e : TypeId} (hd : Y.P.underlying t = some (.slice e)) {l : Nat} {c : Option Nat} {k : Nat} {cs : List V} {l' : Nat} {c' : Option Nat} {u v : Value} (hx : VR W (.sl none l c k) u) (hy : VR W (.ts cs l' c') v) (h0 : l' ≠ 0) (n : Nat) (w : World) :
    (Op.equalIn (n + 1) t u v).run Y.P w = .ok false w := by
  cases hx <;> cases hy <;> first | exact absurd rfl h0 | (simp only [Op.equalIn, Sem.run_bind, run_underlying' hd, Result.andThen_ok, Sem.run_pure] <;> rfl)
theorem eqIn_slice4 {t : TypeId} {e : TypeId} (hd : Y.P.underlying t = some (.slice e)) {cs : List V} {l : Nat} {c : Option Nat} {l' : Nat} {c' : Option Nat} {k' : Nat} {u v : Value} (hx : VR W (.ts cs l c) u) (hy : VR W (.sl none l' c' k') v) (h0 : l ≠ 0) (n : Nat) (w : World) :
    (Op.equalIn (n + 1) t u v).run Y.P w = .ok false w := by
  cases hx <;> cases hy <;> first | exact absurd rfl h0 | (simp only [Op.equalIn, Sem.run_bind, run_underlying' hd, Result.andThen_ok, Sem.run_pure] <;> rfl)
theorem eqIn_map0 {t : TypeId} {k e : TypeId} (hd : Y.P.underlying t = some (.map k e))   {u v : Value} (hx : VR W (.mp none) u) (hy : VR W (.mp none) v) (n : Nat) (w : World) :
    (Op.equalIn (n + 1) t u v).run Y.P w = .ok true w := by
  cases hx <;> cases hy <;> simp only [Op.equalIn, Sem.run_bind, run_underlying' hd, Result.andThen_ok, Sem.run_pure] <;> rfl
theorem eqIn_map1 {t : TypeId} {k e : TypeId} (hd : Y.P.underlying t = some (.map k e))  {q : Nat} {u v : Value} (hx : VR W (.mp none) u) (hy : VR W (.mp (some q)) v) (n : Nat) (w : World) :
    (Op.equalIn (n + 1) t u v).run Y.P w = .ok false w := by
  cases hx <;> cases hy <;> simp only [Op.equalIn, Sem.run_bind, run_underlying' hd, Result.andThen_ok, Sem.run_pure] <;> rfl
theorem eqIn_map2 {t : TypeId} {k e : TypeId} (hd : Y.P.underlying t = some (.map k e)) {q : Nat}  {u v : Value} (hx : VR W (.mp (some q)) u) (hy : VR W (.mp none) v) (n : Nat) (w : World) :
    (Op.equalIn (n + 1) t u v).run Y.P w = .ok false w := by
  cases hx <;> cases hy <;> simp only [Op.equalIn, Sem.run_bind, run_underlying' hd, Result.andThen_ok, Sem.run_pure] <;> rfl
theorem eqIn_func0 {t : TypeId} {ps rs : Array TypeId} {b : Bool} (hd : Y.P.underlying t = some (.func ps rs b))   {u v : Value} (hx : VR W (.nilfn) u) (hy : VR W (.nilfn) v) (n : Nat) (w : World) :
    (Op.equalIn (n + 1) t u v).run Y.P w = .ok true w := by
  cases hx <;> cases hy <;> simp only [Op.equalIn, Sem.run_bind, run_underlying' hd, Result.andThen_ok, Sem.run_pure] <;> rfl
theorem eqIn_func1 {t : TypeId} {ps rs : Array TypeId} {b : Bool} (hd : Y.P.underlying t = some (.func ps rs b))  {f : Fn} {a c : List V} {u v : Value} (hx : VR W (.nilfn) u) (hy : VR W (.fn f a c) v) (n : Nat) (w : World) :
    (Op.equalIn (n + 1) t u v).run Y.P w = .ok false w := by
  cases hx <;> cases hy <;> simp only [Op.equalIn, Sem.run_bind, run_underlying' hd, Result.andThen_ok, Sem.run_pure] <;> rfl
theorem eqIn_func2 {t : TypeId} {ps rs : Array TypeId} {b : Bool} (hd : Y.P.underlying t = some (.func ps rs b)) {f : Fn} {a c : List V}  {u v : Value} (hx : VR W (.fn f a c) u) (hy : VR W (.nilfn) v) (n : Nat) (w : World) :
    (Op.equalIn (n + 1) t u v).run Y.P w = .ok false w := by
  cases hx <;> cases hy <;> simp only [Op.equalIn, Sem.run_bind, run_underlying' hd, Result.andThen_ok, Sem.run_pure] <;> rfl
theorem eqIn_iface0 {t : TypeId} {ms : Array (String × TypeId)} (hd : Y.P.underlying t = some (.interface ms))  {e : TypeId} {x : V} {u v : Value} (hx : VR W (.nilifc) u) (hy : VR W (.ifc e x) v) (n : Nat) (w : World) :
    (Op.equalIn (n + 1) t u v).run Y.P w = .ok false w := by
  cases hx <;> cases hy <;> simp only [Op.equalIn, Sem.run_bind, run_underlying' hd, Result.andThen_ok, Sem.run_pure] <;> rfl
theorem eqIn_iface1 {t : TypeId} {ms : Array (String × TypeId)} (hd : Y.P.underlying t = some (.interface ms)) {e : TypeId} {x : V}  {u v : Value} (hx : VR W (.ifc e x) u) (hy : VR W (.nilifc) v) (n : Nat) (w : World) :
    (Op.equalIn (n + 1) t u v).run Y.P w = .ok false w := by
  cases hx <;> cases hy <;> simp only [Op.equalIn, Sem.run_bind, run_underlying' hd, Result.andThen_ok, Sem.run_pure] <;> rfl
theorem eqV_in {t : TypeId} {ti : TI} {i : TypeInfo} {d : TypeDesc} {z : Value} (ht : TIOK Y t ti i d z) {x y : V} {r : Bool} (h : eqV ti.kd x y = some r) {u v : Value}
    (hx : VR W x u) (hy : VR W y v) (n : Nat) (w : World) : (Op.equalIn (n + 1) t u v).run Y.P w = .ok r w := by
  have hd := ht.und
  have hk := ht.kd
  generalize ti.kd = kd at h hk
  unfold eqV at h
  split at h <;> (try split at h) <;> simp only [Option.some.injEq, reduceCtorEq] at h <;> simp only [KdOK] at hk <;> subst h
  case h_1 => subst hk; exact eqIn_bool hd hx hy n w
  case h_2 => subst hk; exact eqIn_ptr0 hd hx hy n w
  case h_3 => subst hk; exact eqIn_ptr1 hd hx hy n w
  case h_4 => subst hk; exact eqIn_ptr2 hd hx hy n w
  case h_5 => subst hk; exact eqIn_ptr3 hd hx hy n w
  case h_6 => subst hk; exact eqIn_ptr4 hd hx hy n w
  case h_7 => subst hk; exact eqIn_slice0 hd hx hy n w
  case h_8 => subst hk; exact eqIn_slice1 hd hx hy n w
  case h_9 => subst hk; exact eqIn_slice2 hd hx hy n w
  case h_10 => subst hk; exact eqIn_slice3 hd hx hy (by assumption) n w
  case h_11 => subst hk; exact eqIn_slice4 hd hx hy (by assumption) n w
  case h_12 => subst hk; exact eqIn_map0 hd hx hy n w
  case h_13 => subst hk; exact eqIn_map1 hd hx hy n w
  case h_14 => subst hk; exact eqIn_map2 hd hx hy n w
  case h_15 => obtain ⟨_, _, _, rfl⟩ := hk; exact eqIn_func0 hd hx hy n w
  case h_16 => obtain ⟨_, _, _, rfl⟩ := hk; exact eqIn_func1 hd hx hy n w
  case h_17 => obtain ⟨_, _, _, rfl⟩ := hk; exact eqIn_func2 hd hx hy n w
  case h_18 => obtain ⟨_, rfl⟩ := hk; exact eqIn_iface0 hd hx hy n w
  case h_19 => obtain ⟨_, rfl⟩ := hk; exact eqIn_iface1 hd hx hy n w

theorem eqV_ok {t : TypeId} {ti : TI} {i : TypeInfo} {d : TypeDesc} {z : Value} (ht : TIOK Y t ti i d z) {x y : V} {r : Bool} (h : eqV ti.kd x y = some r) {u v : Value}
    (hx : VR W x u) (hy : VR W y v) (w : World) :
    (binOp .eql t u v).run Y.P w = .ok (.bool r) w ∧ (binOp .neq t u v).run Y.P w = .ok (.bool (!r)) w ∧ ∀ op xo yo, eqGuard op t xo yo u v = pure () := by
  have he : (Op.equal t u v).run Y.P w = .ok r w := eqV_in ht h hx hy 9999 w
  unfold eqV at h
  split at h <;> (try split at h) <;> first | (cases h; done) | skip
  all_goals cases hx <;> cases hy
  all_goals first | (exfalso; contradiction) | skip
  all_goals exact ⟨by simp only [binOp, Sem.run_bind, he, Result.andThen_ok, Sem.run_pure], by simp only [binOp, Sem.run_bind, he, Result.andThen_ok, Sem.run_pure], fun op _ _ => by cases op <;> rfl⟩

theorem binY_ok (hY : YOK Y) {op : BinOp} {t : TypeId} {xo yo : Operand} {x y v : V} (h : binY Y op t xo yo x y = some v) {u1 u2 : Value} (hx : VR W x u1) (hy : VR W y u2) :
    ∃ u, VR W v u ∧ ∀ w, (do eqGuard op t xo yo u1 u2; binOp op t u1 u2 : Sem Value).run Y.P w = .ok u w := by
  unfold binY at h
  split at h
  · rename_i k m k' n
    cases hx; cases hy
    have hg : ∀ w, (eqGuard op t xo yo (.int k m) (.int k' n)).run Y.P w = .ok () w := fun w => by cases op <;> rfl
    split at h
    · split at h
      · cases h
      · rename_i hn
        simp at h; subst h
        exact ⟨_, .i _ _, fun w => by simp only [Sem.run_bind, hg, Result.andThen_ok]; simp [binOp, Op.shift, hn]⟩
    · split at h
      · cases h
      · rename_i hn
        simp at h; subst h
        exact ⟨_, .i _ _, fun w => by simp only [Sem.run_bind, hg, Result.andThen_ok]; simp [binOp, Op.shift, hn]⟩
    · split at h
      · rename_i hk
        subst hk
        obtain ⟨u, hu, he⟩ := intBin_ok (Y := Y) (W := W) h t
        exact ⟨u, hu, fun w => by simp only [Sem.run_bind, hg, Result.andThen_ok, he]⟩
      · cases h
  · rename_i l m
    cases hx; cases hy
    have hg : ∀ w, (eqGuard op t xo yo (.string ⟨l.toArray⟩) (.string ⟨m.toArray⟩)).run Y.P w = .ok () w := fun w => by cases op <;> rfl
    obtain ⟨u, hu, he⟩ := strBin_ok (Y := Y) (W := W) h t
    exact ⟨u, hu, fun w => by simp only [Sem.run_bind, hg, Result.andThen_ok, he]⟩
  · cases hx; cases hy
    have hg : (isConst xo || isConst yo) = true → ∀ w, (eqGuard op t xo yo .nilIface .nilIface).run Y.P w = .ok () w := by
      intro hc w
      cases xo <;> cases yo <;> simp [isConst] at hc <;> cases op <;> rfl
    have he : ∀ ms, Y.P.underlying t = some (.interface ms) → ∀ w, (Op.equal t .nilIface .nilIface).run Y.P w = .ok true w := fun ms hd w => by
      show (Op.equalIn (9999 + 1) t .nilIface .nilIface).run Y.P w = .ok true w
      generalize 9999 = n
      simp only [Op.equalIn, Sem.run_bind, run_underlying' hd, Result.andThen_ok, Sem.run_pure]
    split at h
    · rename_i hk
      obtain ⟨ti, hti, hk'⟩ := kd_of hk
      obtain ⟨i, d, z, ht⟩ := hY.ty t ti hti
      have hkd := ht.kd
      rw [hk'] at hkd
      obtain ⟨ms, rfl⟩ := hkd
      split at h
      · rename_i hc
        simp at h; subst h
        exact ⟨_, .b _, fun w => by simp only [Sem.run_bind, hg hc, Result.andThen_ok, binOp, he ms ht.und, Sem.run_pure]⟩
      · cases h
    · rename_i hk
      obtain ⟨ti, hti, hk'⟩ := kd_of hk
      obtain ⟨i, d, z, ht⟩ := hY.ty t ti hti
      have hkd := ht.kd
      rw [hk'] at hkd
      obtain ⟨ms, rfl⟩ := hkd
      split at h
      · rename_i hc
        simp at h; subst h
        exact ⟨_, .b _, fun w => by simp only [Sem.run_bind, hg hc, Result.andThen_ok, binOp, he ms ht.und, Sem.run_pure, Bool.not_true]⟩
      · cases h
    · cases h
  · rename_i xs ys
    cases hx with
    | agg _ us hxs =>
      cases hy with
      | agg _ vs hys =>
        cases hk : Y.kd t with
        | none => simp [hk] at h
        | some kd =>
        simp only [hk] at h
        obtain ⟨ti, hti, hk'⟩ := kd_of hk
        obtain ⟨i, d, z, ht⟩ := hY.ty t ti hti
        have hkd := ht.kd
        rw [hk'] at hkd
        split at h
        case isFalse => cases h
        rename_i hag
        have hgt : Y.P.eqGuardType Y.P.depth t = false := by
          cases kd <;> simp [Kd.agg] at hag
          · exact hkd.2
          · obtain ⟨_, _, _, _, _, hg⟩ := hkd; exact hg
        rw [← hk'] at hag
        have key : ∀ r, eqTy Y 8 t xs ys = some r → (∀ w, (Op.equal t (.agg us.toArray) (.agg vs.toArray)).run Y.P w = .ok r w) ∧ ∀ op w, (eqGuard op t xo yo (.agg us.toArray) (.agg vs.toArray)).run Y.P w = .ok () w := by
          intro r hr
          refine ⟨fun w => ?_, fun op w => run_eqGuard_agg w op t xo yo _ _ hgt⟩
          exact eqTy_ok hY 8 t xs ys r hr us vs hxs hys ti hti _ _ (by simp [hag]) (by simp [hag]) 10000 w (by omega)
        split at h
        · rename_i r hr
          simp at h; subst h
          obtain ⟨h1, h2⟩ := key r hr
          exact ⟨_, .b _, fun w => by simp only [Sem.run_bind, h2, Result.andThen_ok, binOp, h1, Sem.run_pure]⟩
        · rename_i r hr
          simp at h; subst h
          obtain ⟨h1, h2⟩ := key r hr
          exact ⟨_, .b _, fun w => by simp only [Sem.run_bind, h2, Result.andThen_ok, binOp, h1, Sem.run_pure]⟩
        · cases h
  · split at h
    · rename_i kd hk
      obtain ⟨ti, hti, hk'⟩ := kd_of hk
      obtain ⟨i, d, z, ht⟩ := hY.ty t ti hti
      subst hk'
      split at h
      · rename_i r hr
        simp at h; subst h
        exact ⟨_, .b _, fun w => by
          obtain ⟨h1, h2, h3⟩ := eqV_ok ht hr hx hy w
          simp only [Sem.run_bind, h3, Sem.run_pure, Result.andThen_ok, h1]⟩
      · rename_i r hr
        simp at h; subst h
        exact ⟨_, .b _, fun w => by
          obtain ⟨h1, h2, h3⟩ := eqV_ok ht hr hx hy w
          simp only [Sem.run_bind, h3, Sem.run_pure, Result.andThen_ok, h2]⟩
      · cases h
    · cases h
end
end Go.Y
