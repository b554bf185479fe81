/- Closed runs in parts: calls whose results are known. -/
import Derived.Test.YtlnpmefmmiacaaaGreatDoorGCool
import Derived.Test.YtlnpmefmmiacaaaGreatDoorGN2
namespace Go.Y

mutual
def eqW : Nat → V → V → Bool
  | 0, _, _ => false
  | n + 1, a, b => match a, b with
    | .undef, .undef => true
    | .b x, .b y => x == y
    | .i k x, .i k' y => decide (k = k') && decide (x = y)
    | .s l, .s l' => decide (l = l')
    | .p none, .p none => true
    | .sl none x c k, .sl none x' c' k' => decide (x = x') && decide (c = c') && decide (k = k')
    | .ts cs x c, .ts cs' x' c' => decide (x = x') && decide (c = c') && eqWs n cs cs'
    | .tp cs, .tp cs' => eqWs n cs cs'
    | .agg cs, .agg cs' => eqWs n cs cs'
    | .tup cs, .tup cs' => eqWs n cs cs'
    | _, _ => false
def eqWs : Nat → List V → List V → Bool
  | 0, _, _ => false
  | n + 1, l, l' => match l, l' with
    | [], [] => true
    | a :: r, b :: r' => eqW n a b && eqWs n r r'
    | _, _ => false
end
mutual
theorem eqW_ok : ∀ (n : Nat) (a b : V), eqW n a b = true → a = b
  | 0, _, _, h => by simp [eqW] at h
  | n + 1, a, b, h => by
    unfold eqW at h
    split at h
    · rfl
    · simp at h; rw [h]
    · simp at h; rw [h.1, h.2]
    · simp at h; rw [h]
    · rfl
    · simp at h; rw [h.1.1, h.1.2, h.2]
    · simp at h; rw [h.1.1, h.1.2, eqWs_ok n _ _ h.2]
    · rw [eqWs_ok n _ _ h]
    · rw [eqWs_ok n _ _ h]
    · rw [eqWs_ok n _ _ h]
    · cases h
theorem eqWs_ok : ∀ (n : Nat) (a b : List V), eqWs n a b = true → a = b
  | 0, _, _, h => by simp [eqWs] at h
  | n + 1, a, b, h => by
    unfold eqWs at h
    split at h
    · rfl
    · simp at h; rw [eqW_ok n _ _ h.1, eqWs_ok n _ _ h.2]
    · cases h
end

abbrev Known := List (FuncId × List V × V)
def lookT : Known → FuncId → List V → Option V
  | [], _, _ => none
  | e :: T, f, args => if e.1 = f then (if eqWs 1000 e.2.1 args then some e.2.2 else lookT T f args) else lookT T f args
def knT (T : Known) (kn : FuncId → List V → Heap → Option (V × Heap)) : FuncId → List V → Heap → Option (V × Heap) := fun f args h => match lookT T f args with
  | some r => some (r, h)
  | none => kn f args h
inductive KnowOK (Y : YP) : Known → Prop
  | nil : KnowOK Y []
  | cons (f : FuncId) (args : List V) (r : V) (T : Known) (h : PCon Y f args (· = r)) (hT : KnowOK Y T) : KnowOK Y ((f, args, r) :: T)
theorem lookT_ok {Y : YP} : ∀ {T : Known}, KnowOK Y T → ∀ {f args r}, lookT T f args = some r → PCon Y f args (· = r)
  | _, .nil, _, _, _, h => by cases h
  | _, .cons g ags r T hp hT, f, args, r', h => by
    simp only [lookT] at h
    split at h
    · rename_i hg
      split at h
      · rename_i ha
        have := eqWs_ok _ _ _ ha
        subst hg this
        cases h
        exact hp
      · exact lookT_ok hT h
    · exact lookT_ok hT h
theorem frzAL_refl (h : Heap) : ∀ l : List V, FrzAL h l l
  | [] => .nil
  | _ :: l => .cons _ _ _ _ (.same _) (frzAL_refl h l)
theorem knT_ok {Y : YP} {T : Known} {kn : FuncId → List V → Heap → Option (V × Heap)} (hT : KnowOK Y T) (hkn : KOK Y kn) : KOK Y (knT T kn) := by
  refine ⟨fun f args h v h' hv => ?_, hkn.2⟩
  unfold knT at hv
  split at hv
  · rename_i r hr
    simp only [Option.some.injEq, Prod.mk.injEq] at hv
    obtain ⟨rfl, rfl⟩ := hv
    exact ⟨Con.ofP [] (frzAL_refl _ _) (lookT_ok hT hr), .refl _⟩
  · exact hkn.1 _ _ _ _ _ hv
end Go.Y

/- What is known ahead of a closed run: slices.Clone. -/
namespace Go.Y
open Go.Proofs
set_option maxRecDepth 100000
set_option maxHeartbeats 0
theorem cl34_0 (c : Option Nat) (k : Nat) (h : Heap) (K : Out → Nat → List V → Heap → Prop) : (codeP Tryz.Y (Tryz.Y.loc 34) 100 ((flat (bodyOf Tryz.f34))) ⟨(V.sl none 0 c k :: List.replicate 7 .undef), [], h⟩ (VQ [2] K)) =
  (K Out.ret 8 [V.sl none 0 (some 0) 0] h) := by kernel_rfl
theorem cl34_1 (cs : List V) (n : Nat) (c : Option Nat) (h : Heap) (K : Out → Nat → List V → Heap → Prop) : (codeP Tryz.Y (Tryz.Y.loc 34) 100 ((flat (bodyOf Tryz.f34))) ⟨(V.ts cs n c :: List.replicate 7 .undef), [], h⟩ (VQ [2] K)) =
  ((n = 0 → K Out.ret 8 [V.sl none 0 (some 0) 0] h) ∧
  ((∃ (a : Option (Nat × Nat)),
      ∃ (l : Nat),
        ∃ (c_1 : Option Nat),
          ∃ (k : Nat),
            ∃ (h_1 : Heap),
              appendH Tryz.Y h 23 23 (V.ts [] 0 (some 0)) (V.ts cs n c) = some (V.sl a l c_1 k, h_1) ∧
                K Out.ret 8 [V.sl a l c_1 k] h_1) ∨
    appendH Tryz.Y h 23 23 (V.ts [] 0 (some 0)) (V.ts cs n c) = some (V.ts [] 0 (some 0), h) ∧
      K Out.ret 8 [V.ts [] 0 (some 0)] h)) := by kernel_rfl
theorem clone34 {args : List V} {h : Heap} {v : V} {h' : Heap} (hv : cloneV 1 args h = some (v, h')) : Con Tryz.Y 34 args h fun v' k' => v' = v ∧ k' = h' :=
  clone_con Tryz.Yok (fn := Tryz.f34) (by kernel_rfl) (by kernel_rfl) (st := 23) (e := 3) (te := ⟨1, 8, .int .i64, [.i .i64 0]⟩) (k := 1) (by kernel_rfl) (by kernel_rfl) rfl (by decide) (by decide)
    (fun c k h K hk => all_rule Tryz.Yok (loc := Tryz.Y.loc 34) 100 [2] (by rw [show (⟨[V.sl none 0 c k] ++ List.replicate (Tryz.f34.ntmps - 1) .undef, [], h⟩ : St) = ⟨V.sl none 0 c k :: List.replicate 7 .undef, [], h⟩ by rfl, cl34_0]; exact hk))
    (fun cs n c h K hk => all_rule Tryz.Yok (loc := Tryz.Y.loc 34) 100 [2] (by rw [show (⟨[V.ts cs n c] ++ List.replicate (Tryz.f34.ntmps - 1) .undef, [], h⟩ : St) = ⟨V.ts cs n c :: List.replicate 7 .undef, [], h⟩ by rfl, cl34_1]; exact hk))
    (by kernel_rfl) hv
def Tryz.kn (f : FuncId) (args : List V) (h : Heap) : Option (V × Heap) := match f with
  | 34 => cloneV 1 args h
  | _ => none
theorem alV_clone {args : List V} {h : Heap} {v : V} {x : YObj} (ha : alV args h = some (v, x)) : cloneV 1 args h = some (v, h.push x) := by
  unfold alV at ha
  split at ha
  · rename_i cs n c h
    simp only [cloneV, Nat.mul_one]
    split at ha
    · rename_i c hc
      split at ha
      · rename_i hcond
        simp only [Option.some.injEq, Prod.mk.injEq] at ha
        obtain ⟨rfl, rfl⟩ := ha
        rw [hc]
        simp only [hcond, and_self, if_true]
      · cases ha
    · cases ha
  · cases ha
theorem Tryz.mode5 {f : Nat} (h : Tryz.Y.mode f = 5) : f = 34 := by
  have hall : (Tryz.modes.zipIdx.all fun p => p.1 != 5 || p.2 == 34) = true := by kernel_rfl
  have h1 : Tryz.modes[f]? = some 5 := by
    have h2 : Tryz.modes.getD f 0 = 5 := h
    rw [List.getD_eq_getElem?_getD] at h2
    cases h3 : Tryz.modes[f]? with
    | none => rw [h3] at h2; cases h2
    | some m => rw [h3] at h2; exact congrArg some h2
  rw [List.all_eq_true] at hall
  have := hall (5, f) (by rw [List.mem_zipIdx_iff_getElem?]; exact h1)
  simpa using this
theorem Tryz.knok : KOK Tryz.Y Tryz.kn := by
  refine ⟨fun f args h v h' hv => ?_, fun f args h v x hm ha => ?_⟩
  · unfold Tryz.kn at hv
    split at hv
    · exact ⟨clone34 hv, clone_tame hv⟩
    · cases hv
  · have := Tryz.mode5 hm
    subst this
    exact clone34 (alV_clone ha)
end Go.Y
