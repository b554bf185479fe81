/- A nil slice may be taken for an empty one that is read-only. -/
import Derived.Test.YtdoanndgjipbmaaGCool
import Derived.Test.YtdoanndgjipbmaaYTryP
import Derived.Test.YtdoanndgjipbmaaYFun
namespace Go.Y

def Wk0 (v v' : V) : Prop := v = v' ∨ (∃ c k c', v = .sl none 0 c k ∧ v' = .ts [] 0 c' ∧ ∀ x, c' = some x → x = 0) ∨ ∃ cs n c, v = .ts cs n c ∧ v' = .ts cs n none
inductive WkL : List V → List V → Prop
  | nil : WkL [] []
  | cons (v v' : V) (l l' : List V) (h : Wk0 v v') (hl : WkL l l') : WkL (v :: l) (v' :: l')
def Wk (v v' : V) : Prop := Wk0 v v' ∨ ∃ cs cs', v = .lb cs ∧ v' = .lb cs' ∧ WkL cs cs'

theorem Wk0.refl (v : V) : Wk0 v v := .inl rfl
theorem Wk.refl (v : V) : Wk v v := .inl (.inl rfl)
theorem Wk0.vr {W : Vw} {v v' : V} (h : Wk0 v v') {u : Value} (r : VR W v u) : VR W v' u := by
  rcases h with rfl | ⟨c, k, c', rfl, rfl, hc⟩ | ⟨cs, n, c, rfl, rfl⟩
  · exact r
  · cases r; exact .tsz _ hc
  · cases r with
    | tsn _ _ a cap' hl hc => exact .tsn _ _ a cap' hl (fun c h => by cases h)
    | tsz _ hc => exact .tsz _ (fun c h => by cases h)
    | ts _ _ _ cap' blk off c e fr us hl hcap hs hc hr => exact .ts _ _ _ cap' blk off c e fr us hl (fun c h => by cases h) hs hc hr
theorem WkL.vr {W : Vw} : ∀ {l l' : List V} {us : List Value}, WkL l l' → VRs W l us → VRs W l' us
  | _, _, _, .nil, r => by cases r; exact .nil
  | _, _, _, .cons _ _ _ _ h hl, r => by cases r with | cons _ _ _ _ h1 h2 => exact .cons _ _ _ _ (h.vr h1) (hl.vr h2)

/-- What is handed in may be known less well. -/
inductive WkA : List V → List V → Prop
  | nil : WkA [] []
  | one (v v' : V) (l l' : List V) (h : Wk0 v v') (hl : WkA l l') : WkA (v :: l) (v' :: l')
  | agg (cs cs' l l' : List V) (h : WkL cs cs') (hl : WkA l l') : WkA (.agg cs :: l) (.agg cs' :: l')
theorem WkA.vr {W : Vw} : ∀ {l l' : List V} {us : List Value}, WkA l l' → VRs W l us → VRs W l' us
  | _, _, _, .nil, r => by cases r; exact .nil
  | _, _, _, .one _ _ _ _ h hl, r => by cases r with | cons _ _ _ _ h1 h2 => exact .cons _ _ _ _ (h.vr h1) (hl.vr h2)
  | _, _, _, .agg _ _ _ _ h hl, r => by cases r with | cons _ _ _ _ h1 h2 => cases h1 with | agg _ _ h1 => exact .cons _ _ _ _ (.agg _ _ (h.vr h1)) (hl.vr h2)
theorem PCon.wk {Y : YP} {f : FuncId} {args args' : List V} {P : V → Prop} (hw : WkA args args') (h : PCon Y f args' P) : PCon Y f args P :=
  ⟨h.body, fun W w us hs hv => h.tr W w us hs (hw.vr hv)⟩
theorem WkL.refl : ∀ l : List V, WkL l l
  | [] => .nil
  | v :: l => .cons _ _ _ _ (.refl v) (WkL.refl l)

inductive WkE : List V → List V → Prop
  | nil : WkE [] []
  | cons (v v' : V) (l l' : List V) (h : Wk v v') (hl : WkE l l') : WkE (v :: l) (v' :: l')
theorem WkE.refl : ∀ l : List V, WkE l l
  | [] => .nil
  | v :: l => .cons _ _ _ _ (.refl v) (WkE.refl l)
theorem WkE.length : ∀ {l l' : List V}, WkE l l' → l.length = l'.length
  | _, _, .nil => rfl
  | _, _, .cons _ _ _ _ _ hl => by simp [hl.length]
theorem WkE.get : ∀ {l l' : List V}, WkE l l' → ∀ {t : Nat} {v' : V}, l'[t]? = some v' → ∃ v, l[t]? = some v ∧ Wk v v'
  | _, _, .nil, t, v', h => by simp at h
  | _, _, .cons v v1 l l' hv hl, 0, v', h => by simp at h; subst h; exact ⟨v, rfl, hv⟩
  | _, _, .cons v v1 l l' hv hl, t + 1, v', h => by simp at h; simpa using hl.get h
theorem WkE.set : ∀ {l l' : List V} (t : Nat) {v v' : V}, WkE l l' → Wk v v' → WkE (l.set t v) (l'.set t v')
  | _, _, _, _, _, .nil, _ => .nil
  | _, _, 0, _, _, .cons _ _ _ _ _ hl, h => .cons _ _ _ _ h hl
  | _, _, t + 1, _, _, .cons _ _ _ _ h1 hl, h => .cons _ _ _ _ h1 (hl.set t h)
theorem WkE.mk {n : Nat} : ∀ (sl : List Nat) {vs vs' : List V}, WkE vs vs' → WkE (mk n (sl.zip vs)) (mk n (sl.zip vs')) := by
  intro sl vs vs' h
  have key : ∀ (sl : List Nat) {vs vs' : List V} {e e' : List V}, WkE vs vs' → WkE e e' → WkE ((sl.zip vs).foldl (fun e p => e.set p.1 p.2) e) ((sl.zip vs').foldl (fun e p => e.set p.1 p.2) e') := by
    intro sl
    induction sl with
    | nil => intro vs vs' e e' _ he; simpa using he
    | cons s sl ih =>
      intro vs vs' e e' h he
      cases h with
      | nil => simpa using he
      | cons v v' l l' hv hl => simp only [List.zip_cons_cons, List.foldl_cons]; exact ih hl (he.set s hv)
  exact key sl h (.refl _)

theorem tri_wk {Y : YP} {e e' : List V} {h : Heap} {c : Code} {Q : Out → St → Prop} (hw : WkE e e') (ht : Tri Y c ⟨e', [], h⟩ Q) : Tri Y c ⟨e, [], h⟩ Q := by
  intro W a w W0 own0 w0 hr hs
  have hbox : ∀ t b, boxAt ⟨e', [], h⟩ a t b → boxAt ⟨e, [], h⟩ a t b := by
    rintro t b ⟨⟨cs, h1⟩, h2⟩
    obtain ⟨v, h3, h4⟩ := hw.get h1
    rcases h4 with (rfl | ⟨_, _, _, _, h5, _⟩ | ⟨_, _, _, _, h5⟩) | ⟨cs0, _, rfl, _, _⟩
    · exact ⟨⟨cs, h3⟩, h2⟩
    · cases h5
    · cases h5
    · exact ⟨⟨cs0, h3⟩, h2⟩
  have hr' : Rel W ⟨e', [], h⟩ a w := by
    refine ⟨hr.heap, by rw [hr.size]; exact hw.length, fun t v ht => ?_, fun t t' b h1 h2 => hr.box t t' b (hbox _ _ h1) (hbox _ _ h2), fun _ _ _ hm => by simp at hm, hr.defers⟩
    obtain ⟨v0, h3, h4⟩ := hw.get ht
    obtain ⟨u, h5, h6⟩ := hr.env t v0 h3
    refine ⟨u, h5, ?_⟩
    rcases h4 with h4 | ⟨cs, cs', rfl, rfl, hl⟩
    · rcases h4 with rfl | h4
      · exact h6
      · have h7 := Wk0.vr (v := v0) (v' := v) (.inr h4) (W := W) (u := u)
        rcases h4 with ⟨c, k, c', rfl, rfl, hc⟩ | ⟨cs, n, c, rfl, rfl⟩
        · exact h7 h6
        · exact h7 h6
    · obtain ⟨b, cc, et, hu, hb, hv, hsn⟩ := h6
      exact ⟨b, cc, et, hu, hb, hl.vr hv, hsn⟩
  exact ht W a w W0 own0 w0 hr' (hs.weaken fun b hb => by
    rcases hb with h1 | ⟨t, h1⟩ | h1
    · exact .inl h1
    · exact .inr (.inl ⟨t, hbox _ _ h1⟩)
    · exact .inr (.inr h1))

theorem view_wk {Y : YP} {n : Nat} (sl : List Nat) {σ : St} {l : List Code} {Q : Out → St → Prop} {vs : List V} (vs' : List V) (hc : l.isEmpty = false) (hn : σ.env.length = n) (hv : (sl.map fun i => lv i σ) = vs) (hw : WkE vs vs')
    (h : TriL Y l ⟨mk n (sl.zip vs'), [], σ.h⟩ Q) : TriL Y l σ Q := by
  refine view_rule sl hc hn hv ?_
  match l, hc, h with
  | c :: r, _, h => exact tri_wk (hw.mk sl) h
section
variable {Y : YP}
/-- A round of a loop, up to nil. -/
def RoundX (Y : YP) (n : Nat) (so sl : List Nat) (I : Nat → List V → Heap → Prop) (m id : Nat) (r : List Code) (Q : Out → St → Prop) (o : Out) (len : Nat) (vs : List V) (h : Heap) : Prop :=
  match o with
  | .normal => len = n ∧ ∃ m', m' < m ∧ ∃ vs', WkE (pick so sl vs) vs' ∧ I m' vs' h
  | .exit j => if j = id then len = n ∧ ∃ sl' : List Nat, sl'.all so.contains = true ∧ TriL Y r ⟨mk n (sl'.zip (pick so sl' vs)), [], h⟩ Q else AtV so Q (.exit j) len vs h
  | .ret => AtV so Q .ret len vs h

theorem loop3 {n : Nat} (sl so : List Nat) {σ : St} {l : List Code} {Q : Out → St → Prop} (hsub : sl.all so.contains = true) (hl : isLoop l = true) (I : Nat → List V → Heap → Prop) (m0 : Nat) (hn : σ.env.length = n)
    (h0 : ∃ vs', WkE (sl.map fun i => lv i σ) vs' ∧ I m0 vs' σ.h)
    (round : ∀ m vs h, I m vs h → TriL Y (flat (loopB l)) ⟨mk n (sl.zip vs), [], h⟩ (VQ so (RoundX Y n so sl I m (loopId l) (l.drop 1) Q))) : TriL Y l σ Q := by
  obtain ⟨h1, h2⟩ := isLoop_eq hl
  rw [h1]
  refine triL_block (tri_loop (fun m τ => τ.env.length = n ∧ ∃ vs', WkE (sl.map fun i => lv i τ) vs' ∧ I m vs' τ.h) (n := m0) ⟨hn, h0⟩ ?_)
  rintro m τ ⟨hτ, vs', hw, hI⟩
  have hr := triL_flat (c := loopB l) (r := []) (by rw [List.append_nil]; exact round m _ _ hI)
  refine (tri_view hτ rfl rfl (tri_wk (hw.mk sl) hr)).mono ?_
  intro o σ' ho
  cases o with
  | normal =>
    obtain ⟨h1, m', h2, vs2, h3, h4⟩ := ho
    exact ⟨m', h2, h1, vs2, by rw [pick_ok hsub rfl]; exact h3, h4⟩
  | exit j =>
    have ho : RoundX Y n so sl I m (loopId l) (l.drop 1) Q (.exit j) σ'.env.length (so.map fun i => lv i σ') σ'.h := ho
    simp only [RoundX] at ho
    by_cases hj : j = loopId l
    · rw [if_pos hj] at ho
      simp only [if_pos hj]
      obtain ⟨h3, sl', h4, h5⟩ := ho
      exact triL_view h2 h3 (pick_ok h4 rfl) rfl h5
    · rw [if_neg hj] at ho
      simp only [if_neg hj]
      exact ho σ' rfl rfl rfl
  | ret => exact ho σ' rfl rfl rfl

theorem roundX_exit {n : Nat} {so sl : List Nat} {I : Nat → List V → Heap → Prop} {m id j : Nat} {r : List Code} {Q : Out → St → Prop} {len : Nat} {vs : List V} {h : Heap} (sl' : List Nat) (hj : j = id) (hn : len = n) (hs : sl'.all so.contains = true)
    (ht : TriL Y r ⟨mk n (sl'.zip (pick so sl' vs)), [], h⟩ Q) : RoundX Y n so sl I m id r Q (.exit j) len vs h := by
  simp only [RoundX]
  rw [if_pos hj]
  exact ⟨hn, sl', hs, ht⟩
end
end Go.Y

/- What is handed in may be known less well, however deep. -/
namespace Go.Y

mutual
inductive WkD : V → V → Prop
  | same (v : V) : WkD v v
  | nil (c : Option Nat) (k : Nat) : WkD (.sl none 0 c k) (.ts [] 0 none)
  | ts (cs cs' : List V) (n : Nat) (c : Option Nat) (h : WkDs cs cs') : WkD (.ts cs n c) (.ts cs' n none)
  | agg (cs cs' : List V) (h : WkDs cs cs') : WkD (.agg cs) (.agg cs')
inductive WkDs : List V → List V → Prop
  | nil : WkDs [] []
  | cons (v v' : V) (l l' : List V) (h : WkD v v') (hl : WkDs l l') : WkDs (v :: l) (v' :: l')
end

mutual
theorem WkD.vr {W : Vw} {v v' : V} (h : WkD v v') {u : Value} (r : VR W v u) : VR W v' u := by
  cases h with
  | same => exact r
  | nil c k => cases r; exact .tsz _ (fun c h => by cases h)
  | ts cs cs' n c h =>
    cases r with
    | tsn _ _ a cap' hl hc => cases h; exact .tsn _ _ a cap' hl (fun c h => by cases h)
    | tsz _ hc => cases h; exact .tsz _ (fun c h => by cases h)
    | ts _ _ _ cap' blk off c e fr us hl hcap hs hc hr => exact .ts _ _ _ cap' blk off c e fr us hl (fun c h => by cases h) hs hc (WkDs.vr h hr)
  | agg cs cs' h => cases r with | agg _ us h1 => exact .agg _ _ (WkDs.vr h h1)
theorem WkDs.vr {W : Vw} {l l' : List V} (h : WkDs l l') {us : List Value} (r : VRs W l us) : VRs W l' us := by
  cases h with
  | nil => cases r; exact .nil
  | cons v v' l l' h hl => cases r with | cons _ _ _ _ h1 h2 => exact .cons _ _ _ _ (WkD.vr h h1) (WkDs.vr hl h2)
end
theorem PCon.wkD {Y : YP} {f : FuncId} {args args' : List V} {P : V → Prop} (hw : WkDs args args') (h : PCon Y f args' P) : PCon Y f args P :=
  ⟨h.body, fun W w us hs hv => h.tr W w us hs (hw.vr hv)⟩
end Go.Y

/- What the pieces of functions come to: printed by program. -/
namespace Go.Y
open Go.Proofs
set_option maxRecDepth 100000
set_option maxHeartbeats 0
theorem f8_0 (cs0Next : List V) (n0Next : Nat) (h : Heap) (K : Out → Nat → List V → Heap → Prop) : (codeP Try.Y (Try.Y.loc 8) 100 (pre (flat (bodyOf Try.f8))) ⟨(V.agg [V.ts cs0Next n0Next none] :: List.replicate 56 .undef), [], h⟩ (VQ [1, 2, 3, 12] K)) =
  (K Out.normal 57 [V.lb [V.ts cs0Next n0Next none], V.b false, V.i IntKind.i64 (0 : Int), V.undef] h) := by kernel_rfl
theorem f8_1 (cs0Next : List V) (n0Next : Nat) (x3 : Int) (v12 : V) (h : Heap) (K : Out → Nat → List V → Heap → Prop) : (codeP Try.Y (Try.Y.loc 8) 100 (pre (flat (loopB (post (flat (bodyOf Try.f8)))))) ⟨mk 57 (([1, 2, 3, 12] : List Nat).zip [V.lb [V.ts cs0Next n0Next none], V.b false, V.i IntKind.i64 x3, v12]), [], h⟩ (VQ [1, 2, 3, 9, 12] K)) =
  (If (ltI x3 (↑n0Next : Int))
  (K Out.normal 57
 [V.lb [V.ts cs0Next n0Next none], V.b false, V.i IntKind.i64 x3, V.i IntKind.i64 (↑n0Next : Int), v12] h)
  (K (Out.exit 0) 57
 [V.lb [V.ts cs0Next n0Next none], V.b false, V.i IntKind.i64 x3, V.i IntKind.i64 (↑n0Next : Int), v12] h)) := by kernel_rfl
theorem f8_2 (cs0Next : List V) (n0Next : Nat) (x3 : Int) (v12 : V) (h : Heap) (K : Out → Nat → List V → Heap → Prop) : (codeP Try.Y (Try.Y.loc 8) 100 (pre (flat (blockB (post (flat (loopB (post (flat (bodyOf Try.f8))))))))) ⟨mk 57 (([1, 2, 3, 9, 12] : List Nat).zip [V.lb [V.ts cs0Next n0Next none], V.b false, V.i IntKind.i64 x3, V.i IntKind.i64 (↑n0Next : Int), v12]), [], h⟩ (VQ [1, 2, 3, 4, 9, 12] K)) =
  (K Out.normal 57
  [V.lb [V.ts cs0Next n0Next none], V.b false, V.i IntKind.i64 x3, V.i IntKind.i64 (0 : Int),
 V.i IntKind.i64 (↑n0Next : Int), v12]
  h) := by kernel_rfl
theorem f8_3 (cs0Next : List V) (n0Next : Nat) (x3 : Int) (v12 : V) (x4z2 : Int) (h : Heap) (K : Out → Nat → List V → Heap → Prop) : (codeP Try.Y (Try.Y.loc 8) 100 ((flat (loopB (post (flat (blockB (post (flat (loopB (post (flat (bodyOf Try.f8)))))))))))) ⟨mk 57 (([1, 2, 3, 4, 9, 12] : List Nat).zip [V.lb [V.ts cs0Next n0Next none], V.b false, V.i IntKind.i64 x3, V.i IntKind.i64 x4z2, V.i IntKind.i64 (↑n0Next : Int), v12]), [], h⟩ (VQ [1, 2, 3, 4, 9, 12] K)) =
  (((0 : Int) ≤ x3 ∧ x3 < (↑n0Next : Int)) ∧
  ∃ (cs : List V),
 ∃ (l : Nat),
 ∃ (c : Option Nat),
 takeX 1 (List.drop (x3.toNat * (1 : Nat)) cs0Next) = some [V.ts cs l c] ∧
 If (ltI x4z2 (↑l : Int))
 (((0 : Int) ≤ x3 ∧ x3 < (↑n0Next : Int)) ∧
 ∃ (cs : List V),
 ∃ (l : Nat),
 ∃ (c : Option Nat),
 takeX 1 (List.drop (x3.toNat * (1 : Nat)) cs0Next) = some [V.ts cs l c] ∧
 ((0 : Int) ≤ x4z2 ∧ x4z2 < (↑l : Int)) ∧
 ∃ (n : Int),
 takeX 1 (List.drop (x4z2.toNat * (1 : Nat)) cs) = some [V.i IntKind.i64 n] ∧
 If (ltI n (0 : Int))
 (K Out.ret 57
 [V.lb [V.ts cs0Next n0Next none], V.b false, V.i IntKind.i64 x3, V.i IntKind.i64 x4z2,
 V.i IntKind.i64 (↑n0Next : Int), v12]
 h)
 (If (leI (↑n0Next : Int) n)
 (K Out.ret 57
 [V.lb [V.ts cs0Next n0Next none], V.b false, V.i IntKind.i64 x3, V.i IntKind.i64 x4z2,
 V.i IntKind.i64 (↑n0Next : Int), v12]
 h)
 (If (ltI (0 : Int) x4z2)
 (((0 : Int) ≤ x3 ∧ x3 < (↑n0Next : Int)) ∧
 ∃ (cs : List V),
 ∃ (l : Nat),
 ∃ (c : Option Nat),
 takeX 1 (List.drop (x3.toNat * (1 : Nat)) cs0Next) =
 some [V.ts cs l c] ∧
 ((0 : Int) ≤ IntKind.i64.wrap (x4z2 - (1 : Int)) ∧
 IntKind.i64.wrap (x4z2 - (1 : Int)) < (↑l : Int)) ∧
 ∃ (n_1 : Int),
 takeX 1
 (List.drop
 ((IntKind.i64.wrap (x4z2 - (1 : Int))).toNat * (1 : Nat)) cs) =
 some [V.i IntKind.i64 n_1] ∧
 If (leI n n_1)
 (K Out.ret 57
 [V.lb [V.ts cs0Next n0Next none], V.b false, V.i IntKind.i64 x3,
 V.i IntKind.i64 x4z2, V.i IntKind.i64 (↑n0Next : Int), v12]
 h)
 (K Out.normal 57
 [V.lb [V.ts cs0Next n0Next none], V.b false, V.i IntKind.i64 x3,
 V.i IntKind.i64 (IntKind.i64.wrap (x4z2 + (1 : Int))),
 V.i IntKind.i64 (↑n0Next : Int), v12]
 h))
 (K Out.normal 57
 [V.lb [V.ts cs0Next n0Next none], V.b false, V.i IntKind.i64 x3,
 V.i IntKind.i64 (IntKind.i64.wrap (x4z2 + (1 : Int))),
 V.i IntKind.i64 (↑n0Next : Int), v12]
 h))))
 (K (Out.exit 2) 57
 [V.lb [V.ts cs0Next n0Next none], V.b false, V.i IntKind.i64 x3, V.i IntKind.i64 x4z2,
 V.i IntKind.i64 (↑n0Next : Int), v12]
 h)) := by kernel_rfl
theorem f8_4 (cs0Next : List V) (n0Next : Nat) (x3 : Int) (h : Heap) (K : Out → Nat → List V → Heap → Prop) : (codeP Try.Y (Try.Y.loc 8) 100 (((post (flat (loopB (post (flat (bodyOf Try.f8)))))).drop 1)) ⟨mk 57 (([1, 2, 3] : List Nat).zip [V.lb [V.ts cs0Next n0Next none], V.b false, V.i IntKind.i64 x3]), [], h⟩ (VQ [1, 2, 3, 12] K)) =
  (K Out.normal 57
  [V.lb [V.ts cs0Next n0Next none], V.b false, V.i IntKind.i64 (IntKind.i64.wrap (x3 + (1 : Int))),
 V.i IntKind.i64 (IntKind.i64.wrap (x3 + (1 : Int)))]
  h) := by kernel_rfl
theorem f8_5  (h : Heap) (K : Out → Nat → List V → Heap → Prop) : (codeP Try.Y (Try.Y.loc 8) 100 (((post (flat (bodyOf Try.f8))).drop 1)) ⟨mk 57 (([] : List Nat).zip []), [], h⟩ (VQ [2] K)) =
  (K Out.ret 57 [V.b true] h) := by kernel_rfl
theorem f9_0 (cs0 : List V) (n0 : Nat) (cs1 : List V) (n1 : Nat) (h : Heap) (K : Out → Nat → List V → Heap → Prop) : (codeP Try.Y (Try.Y.loc 9) 100 (pre (flat (bodyOf Try.f9))) ⟨(V.ts cs0 n0 none :: V.ts cs1 n1 none :: List.replicate 24 .undef), [], h⟩ (VQ [0, 1, 4, 5] K)) =
  (If ((↑n0 : Int) != (↑n1 : Int)) (K Out.ret 26 [V.ts cs0 n0 none, V.ts cs1 n1 none, V.b false, V.undef] h)
  (K Out.normal 26 [V.ts cs0 n0 none, V.ts cs1 n1 none, V.b false, V.i IntKind.i64 (0 : Int)] h)) := by kernel_rfl
theorem f9_1 (cs0 : List V) (n0 : Nat) (cs1 : List V) (n1 : Nat) (x5 : Int) (h : Heap) (K : Out → Nat → List V → Heap → Prop) : (codeP Try.Y (Try.Y.loc 9) 100 ((flat (loopB (post (flat (bodyOf Try.f9)))))) ⟨mk 26 (([0, 1, 5] : List Nat).zip [V.ts cs0 n0 none, V.ts cs1 n1 none, V.i IntKind.i64 x5]), [], h⟩ (VQ [0, 1, 4, 5] K)) =
  (If (ltI x5 (↑n0 : Int))
  (((0 : Int) ≤ x5 ∧ x5 < (↑n0 : Int)) ∧
 ∃ (n : Int),
 takeX 1 (List.drop (x5.toNat * (1 : Nat)) cs0) = some [V.i IntKind.i64 n] ∧
 ((0 : Int) ≤ x5 ∧ x5 < (↑n1 : Int)) ∧
 ∃ (n_1 : Int),
 takeX 1 (List.drop (x5.toNat * (1 : Nat)) cs1) = some [V.i IntKind.i64 n_1] ∧
 If (n != n_1)
 (K Out.ret 26 [V.ts cs0 n0 none, V.ts cs1 n1 none, V.b false, V.i IntKind.i64 x5] h)
 (K Out.normal 26
 [V.ts cs0 n0 none, V.ts cs1 n1 none, V.undef, V.i IntKind.i64 (IntKind.i64.wrap (x5 + (1 : Int)))] h))
  (K (Out.exit 0) 26 [V.ts cs0 n0 none, V.ts cs1 n1 none, V.undef, V.i IntKind.i64 x5] h)) := by kernel_rfl
theorem f9_2  (h : Heap) (K : Out → Nat → List V → Heap → Prop) : (codeP Try.Y (Try.Y.loc 9) 100 (((post (flat (bodyOf Try.f9))).drop 1)) ⟨mk 26 (([] : List Nat).zip []), [], h⟩ (VQ [4] K)) =
  (K Out.ret 26 [V.b true] h) := by kernel_rfl
theorem f12_0 (cs0 : List V) (n0 : Nat) (cs1 : List V) (n1 : Nat) (h : Heap) (K : Out → Nat → List V → Heap → Prop) : (codeP Try.Y (Try.Y.loc 12) 100 (pre (flat (bodyOf Try.f12))) ⟨(V.ts cs0 n0 none :: V.ts cs1 n1 none :: List.replicate 25 .undef), [], h⟩ (VQ [0, 1, 4, 12, 13] K)) =
  (If ((↑n0 : Int) != (↑n1 : Int))
  (K Out.ret 27 [V.ts cs0 n0 none, V.ts cs1 n1 none, V.b false, V.undef, V.undef] h)
  (K Out.normal 27
 [V.ts cs0 n0 none, V.ts cs1 n1 none, V.b false, V.i IntKind.i64 (↑n0 : Int), V.i IntKind.i64 (0 : Int)] h)) := by kernel_rfl
theorem f12_1 (cs0 : List V) (n0 : Nat) (cs1 : List V) (n1 : Nat) (x13 : Int) (h : Heap) (K : Out → Nat → List V → Heap → Prop) : (codeP Try.Y (Try.Y.loc 12) 100 ((flat (loopB (post (flat (bodyOf Try.f12)))))) ⟨mk 27 (([0, 1, 12, 13] : List Nat).zip [V.ts cs0 n0 none, V.ts cs1 n1 none, V.i IntKind.i64 (↑n0 : Int), V.i IntKind.i64 x13]), [], h⟩ (VQ [0, 1, 4, 12, 13] K)) =
  (If (ltI x13 (↑n0 : Int))
  (((0 : Int) ≤ x13 ∧ x13 < (↑n0 : Int)) ∧
 ∃ (cs : List V),
 ∃ (l : Nat),
 ∃ (c : Option Nat),
 takeX 1 (List.drop (x13.toNat * (1 : Nat)) cs0) = some [V.ts cs l c] ∧
 ((0 : Int) ≤ x13 ∧ x13 < (↑n1 : Int)) ∧
 ∃ (cs_1 : List V),
 ∃ (l_1 : Nat),
 ∃ (c_1 : Option Nat),
 takeX 1 (List.drop (x13.toNat * (1 : Nat)) cs1) = some [V.ts cs_1 l_1 c_1] ∧
 ∃ (b : Bool),
 (PCon Try.Y (9 : Nat) [V.ts cs l c, V.ts cs_1 l_1 c_1] fun (v : V) => v = V.b b) ∧
 If (!b)
 (K Out.ret 27
 [V.ts cs0 n0 none, V.ts cs1 n1 none, V.b false, V.i IntKind.i64 (↑n0 : Int),
 V.i IntKind.i64 x13]
 h)
 (K Out.normal 27
 [V.ts cs0 n0 none, V.ts cs1 n1 none, V.undef, V.i IntKind.i64 (↑n0 : Int),
 V.i IntKind.i64 (IntKind.i64.wrap (x13 + (1 : Int)))]
 h))
  (K (Out.exit 0) 27
 [V.ts cs0 n0 none, V.ts cs1 n1 none, V.undef, V.i IntKind.i64 (↑n0 : Int), V.i IntKind.i64 x13] h)) := by kernel_rfl
theorem f12_2  (h : Heap) (K : Out → Nat → List V → Heap → Prop) : (codeP Try.Y (Try.Y.loc 12) 100 (((post (flat (bodyOf Try.f12))).drop 1)) ⟨mk 27 (([] : List Nat).zip []), [], h⟩ (VQ [4] K)) =
  (K Out.ret 27 [V.b true] h) := by kernel_rfl
theorem f15_0 (cs0Next : List V) (n0Next : Nat) (h : Heap) (K : Out → Nat → List V → Heap → Prop) : (codeP Try.Y (Try.Y.loc 15) 100 (pre (flat (bodyOf Try.f15))) ⟨(V.agg [V.ts cs0Next n0Next none] :: List.replicate 25 .undef), [], h⟩ (VQ [1, 3, 7, 8, 9] K)) =
  (K Out.normal 26
  [V.lb [V.ts cs0Next n0Next none], V.sl none 0 (some 0) 0, V.ts cs0Next n0Next none,
 V.i IntKind.i64 (↑n0Next : Int), V.i IntKind.i64 (0 : Int)]
  h) := by kernel_rfl
theorem f15_1 (cs0Next : List V) (n0Next : Nat) (a3z2 : Option (Nat × Nat)) (l3z2 : Nat) (c3z2 : Option Nat) (k3z2 : Nat) (x9z2 : Int) (h : Heap) (K : Out → Nat → List V → Heap → Prop) : (codeP Try.Y (Try.Y.loc 15) 100 ((flat (loopB (post (flat (bodyOf Try.f15)))))) ⟨mk 26 (([1, 3, 7, 8, 9] : List Nat).zip [V.lb [V.ts cs0Next n0Next none], V.sl a3z2 l3z2 c3z2 k3z2, V.ts cs0Next n0Next none, V.i IntKind.i64 (↑n0Next : Int), V.i IntKind.i64 x9z2]), [], h⟩ (VQ [1, 3, 7, 8, 9] K)) =
  (If (ltI x9z2 (↑n0Next : Int))
  (((0 : Int) ≤ x9z2 ∧ x9z2 < (↑n0Next : Int)) ∧
 ∃ (cs : List V),
 ∃ (l : Nat),
 ∃ (c : Option Nat),
 takeX 1 (List.drop (x9z2.toNat * (1 : Nat)) cs0Next) = some [V.ts cs l c] ∧
 If ((↑l : Int) == (0 : Int))
 (∃ (a : Option (Nat × Nat)),
 ∃ (l : Nat),
 ∃ (c : Option Nat),
 ∃ (k : Nat),
 ∃ (h_1 : Heap),
 appendH Try.Y h 26 26 (V.sl a3z2 l3z2 c3z2 k3z2)
 (V.ts [V.i IntKind.i64 x9z2] 1 (some 1)) =
 some (V.sl a l c k, h_1) ∧
 K Out.normal 26
 [V.lb [V.ts cs0Next n0Next none], V.sl a l c k, V.ts cs0Next n0Next none,
 V.i IntKind.i64 (↑n0Next : Int), V.i IntKind.i64 (IntKind.i64.wrap (x9z2 + (1 : Int)))]
 h_1)
 (K Out.normal 26
 [V.lb [V.ts cs0Next n0Next none], V.sl a3z2 l3z2 c3z2 k3z2, V.ts cs0Next n0Next none,
 V.i IntKind.i64 (↑n0Next : Int), V.i IntKind.i64 (IntKind.i64.wrap (x9z2 + (1 : Int)))]
 h))
  (K (Out.exit 0) 26
 [V.lb [V.ts cs0Next n0Next none], V.sl a3z2 l3z2 c3z2 k3z2, V.ts cs0Next n0Next none,
 V.i IntKind.i64 (↑n0Next : Int), V.i IntKind.i64 x9z2]
 h)) := by kernel_rfl
theorem f15_2 (cs0Next : List V) (n0Next : Nat) (a3z2 : Option (Nat × Nat)) (l3z2 : Nat) (c3z2 : Option Nat) (k3z2 : Nat) (h : Heap) (K : Out → Nat → List V → Heap → Prop) : (codeP Try.Y (Try.Y.loc 15) 100 (((post (flat (bodyOf Try.f15))).drop 1)) ⟨mk 26 (([1, 3] : List Nat).zip [V.lb [V.ts cs0Next n0Next none], V.sl a3z2 l3z2 c3z2 k3z2]), [], h⟩ (VQ [2] K)) =
  (∃ (b : Bool),
  (PCon Try.Y (7 : Nat) [V.agg [V.ts cs0Next n0Next none]] fun (v : V) => v = V.b b) ∧
 If (!b) (K Out.ret 26 [V.sl none 0 (some 0) 0] h)
 (K Out.ret 26 [V.sl a3z2 l3z2 c3z2 k3z2] h)) := by kernel_rfl
theorem f16_0 (cs0Next : List V) (n0Next : Nat) (h : Heap) (K : Out → Nat → List V → Heap → Prop) : (codeP Try.Y (Try.Y.loc 16) 100 (pre (flat (bodyOf Try.f16))) ⟨(V.agg [V.ts cs0Next n0Next none] :: List.replicate 27 .undef), [], h⟩ (VQ [1, 2, 3, 4] K)) =
  (K Out.normal 28
  [V.lb [V.ts cs0Next n0Next none], V.sl none 0 (some 0) 0,
 V.sl none 0 (some 0) 0, V.i IntKind.i64 (0 : Int)]
  h) := by kernel_rfl
theorem f16_1 (cs0Next : List V) (n0Next : Nat) (a3z2 : Option (Nat × Nat)) (l3z2 : Nat) (c3z2 : Option Nat) (k3z2 : Nat) (x4z2 : Int) (h : Heap) (K : Out → Nat → List V → Heap → Prop) : (codeP Try.Y (Try.Y.loc 16) 100 ((flat (loopB (post (flat (bodyOf Try.f16)))))) ⟨mk 28 (([1, 2, 3, 4] : List Nat).zip [V.lb [V.ts cs0Next n0Next none], V.sl none 0 (some 0) 0, V.sl a3z2 l3z2 c3z2 k3z2, V.i IntKind.i64 x4z2]), [], h⟩ (VQ [1, 2, 3, 4] K)) =
  (∃ (b : Bool),
  (PCon Try.Y (8 : Nat) [V.agg [V.ts cs0Next n0Next none]] fun (v : V) => v = V.b b) ∧
 If b
 (If (ltI x4z2 (↑n0Next : Int))
 (((0 : Int) ≤ x4z2 ∧ x4z2 < (↑n0Next : Int)) ∧
 ∃ (cs : List V),
 ∃ (l : Nat),
 ∃ (c : Option Nat),
 takeX 1 (List.drop (x4z2.toNat * (1 : Nat)) cs0Next) = some [V.ts cs l c] ∧
 If ((↑l : Int) == (0 : Int))
 (∃ (a : Option (Nat × Nat)),
 ∃ (l : Nat),
 ∃ (c : Option Nat),
 ∃ (k : Nat),
 ∃ (h_1 : Heap),
 appendH Try.Y h 26 26 (V.sl a3z2 l3z2 c3z2 k3z2)
 (V.ts [V.i IntKind.i64 x4z2] 1 (some 1)) =
 some (V.sl a l c k, h_1) ∧
 K Out.normal 28
 [V.lb [V.ts cs0Next n0Next none],
 V.sl none 0 (some 0) 0, V.sl a l c k,
 V.i IntKind.i64 (IntKind.i64.wrap (x4z2 + (1 : Int)))]
 h_1)
 (K Out.normal 28
 [V.lb [V.ts cs0Next n0Next none], V.sl none 0 (some 0) 0,
 V.sl a3z2 l3z2 c3z2 k3z2, V.i IntKind.i64 (IntKind.i64.wrap (x4z2 + (1 : Int)))]
 h))
 (K (Out.exit 0) 28
 [V.lb [V.ts cs0Next n0Next none], V.sl none 0 (some 0) 0,
 V.sl a3z2 l3z2 c3z2 k3z2, V.i IntKind.i64 x4z2]
 h))
 (K (Out.exit 0) 28
 [V.lb [V.ts cs0Next n0Next none], V.sl none 0 (some 0) 0,
 V.sl a3z2 l3z2 c3z2 k3z2, V.i IntKind.i64 x4z2]
 h)) := by kernel_rfl
theorem f16_2 (a3z2 : Option (Nat × Nat)) (l3z2 : Nat) (c3z2 : Option Nat) (k3z2 : Nat) (h : Heap) (K : Out → Nat → List V → Heap → Prop) : (codeP Try.Y (Try.Y.loc 16) 100 (((post (flat (bodyOf Try.f16))).drop 1)) ⟨mk 28 (([3] : List Nat).zip [V.sl a3z2 l3z2 c3z2 k3z2]), [], h⟩ (VQ [2] K)) =
  (K Out.ret 28 [V.sl a3z2 l3z2 c3z2 k3z2] h) := by kernel_rfl
theorem f22_0 (cs0 : List V) (n0 : Nat) (x1 : Int) (h : Heap) (K : Out → Nat → List V → Heap → Prop) : (codeP Try.Y (Try.Y.loc 22) 100 (pre (flat (bodyOf Try.f22))) ⟨(V.ts cs0 n0 none :: V.i IntKind.i64 x1 :: List.replicate 16 .undef), [], h⟩ (VQ [0, 1, 5] K)) =
  (K Out.normal 18 [V.ts cs0 n0 none, V.i IntKind.i64 x1, V.i IntKind.i64 (0 : Int)] h) := by kernel_rfl
theorem f22_1 (cs0 : List V) (n0 : Nat) (x1 : Int) (x5 : Int) (h : Heap) (K : Out → Nat → List V → Heap → Prop) : (codeP Try.Y (Try.Y.loc 22) 100 ((flat (loopB (post (flat (bodyOf Try.f22)))))) ⟨mk 18 (([0, 1, 5] : List Nat).zip [V.ts cs0 n0 none, V.i IntKind.i64 x1, V.i IntKind.i64 x5]), [], h⟩ (VQ [0, 1, 4, 5] K)) =
  (If (ltI x5 (↑n0 : Int))
  (((0 : Int) ≤ x5 ∧ x5 < (↑n0 : Int)) ∧
 ∃ (n : Int),
 takeX 1 (List.drop (x5.toNat * (1 : Nat)) cs0) = some [V.i IntKind.i64 n] ∧
 If (n == x1) (K Out.ret 18 [V.ts cs0 n0 none, V.i IntKind.i64 x1, V.b true, V.i IntKind.i64 x5] h)
 (K Out.normal 18
 [V.ts cs0 n0 none, V.i IntKind.i64 x1, V.undef, V.i IntKind.i64 (IntKind.i64.wrap (x5 + (1 : Int)))] h))
  (K (Out.exit 0) 18 [V.ts cs0 n0 none, V.i IntKind.i64 x1, V.undef, V.i IntKind.i64 x5] h)) := by kernel_rfl
theorem f22_2  (h : Heap) (K : Out → Nat → List V → Heap → Prop) : (codeP Try.Y (Try.Y.loc 22) 100 (((post (flat (bodyOf Try.f22))).drop 1)) ⟨mk 18 (([] : List Nat).zip []), [], h⟩ (VQ [4] K)) =
  (K Out.ret 18 [V.b false] h) := by kernel_rfl
theorem f25_0 (cs0 : List V) (n0 : Nat) (x1 : Int) (h : Heap) (K : Out → Nat → List V → Heap → Prop) : (codeP Try.Y (Try.Y.loc 25) 100 ((flat (bodyOf Try.f25))) ⟨(V.ts cs0 n0 none :: V.i IntKind.i64 x1 :: List.replicate 7 .undef), [], h⟩ (VQ [4] K)) =
  (∃ (n : Int),
  (PCon Try.Y (30 : Nat) [V.ts cs0 n0 none, V.i IntKind.i64 x1] fun (v : V) => v = V.i IntKind.i64 n) ∧
 K Out.ret 9 [V.b (leI (0 : Int) n)] h) := by kernel_rfl
theorem f30_0 (cs0 : List V) (n0 : Nat) (x1 : Int) (h : Heap) (K : Out → Nat → List V → Heap → Prop) : (codeP Try.Y (Try.Y.loc 30) 100 (pre (flat (bodyOf Try.f30))) ⟨(V.ts cs0 n0 none :: V.i IntKind.i64 x1 :: List.replicate 17 .undef), [], h⟩ (VQ [0, 1, 7, 8] K)) =
  (K Out.normal 19 [V.ts cs0 n0 none, V.i IntKind.i64 x1, V.i IntKind.i64 (↑n0 : Int), V.i IntKind.i64 (0 : Int)]
  h) := by kernel_rfl
theorem f30_1 (cs0 : List V) (n0 : Nat) (x1 : Int) (x8 : Int) (h : Heap) (K : Out → Nat → List V → Heap → Prop) : (codeP Try.Y (Try.Y.loc 30) 100 ((flat (loopB (post (flat (bodyOf Try.f30)))))) ⟨mk 19 (([0, 1, 7, 8] : List Nat).zip [V.ts cs0 n0 none, V.i IntKind.i64 x1, V.i IntKind.i64 (↑n0 : Int), V.i IntKind.i64 x8]), [], h⟩ (VQ [0, 1, 4, 7, 8] K)) =
  (If (ltI x8 (↑n0 : Int))
  (((0 : Int) ≤ x8 ∧ x8 < (↑n0 : Int)) ∧
 ∃ (n : Int),
 takeX 1 (List.drop (x8.toNat * (1 : Nat)) cs0) = some [V.i IntKind.i64 n] ∧
 If (x1 == n)
 (K Out.ret 19
 [V.ts cs0 n0 none, V.i IntKind.i64 x1, V.i IntKind.i64 x8, V.i IntKind.i64 (↑n0 : Int), V.i IntKind.i64 x8]
 h)
 (K Out.normal 19
 [V.ts cs0 n0 none, V.i IntKind.i64 x1, V.undef, V.i IntKind.i64 (↑n0 : Int),
 V.i IntKind.i64 (IntKind.i64.wrap (x8 + (1 : Int)))]
 h))
  (K (Out.exit 0) 19
 [V.ts cs0 n0 none, V.i IntKind.i64 x1, V.undef, V.i IntKind.i64 (↑n0 : Int), V.i IntKind.i64 x8] h)) := by kernel_rfl
theorem f30_2  (h : Heap) (K : Out → Nat → List V → Heap → Prop) : (codeP Try.Y (Try.Y.loc 30) 100 (((post (flat (bodyOf Try.f30))).drop 1)) ⟨mk 19 (([] : List Nat).zip []), [], h⟩ (VQ [4] K)) =
  (K Out.ret 19 [V.i IntKind.i64 (-1 : Int)] h) := by kernel_rfl
end Go.Y
