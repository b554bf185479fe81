/- FaultTells, as it runs: true of all that is small. -/
import Derived.Test.YtkcgmnhojldoiaaGreatFT8
import Derived.Test.YtkcgmnhojldoiaaGreatGGreedy
import Derived.Test.YtkcgmnhojldoiaaGreatYTryzP
import Derived.Test.YtkcgmnhojldoiaaGreatYZ
namespace Go.Y
open Go.Proofs
set_option maxRecDepth 1000000
set_option maxHeartbeats 0
theorem Zrg {s : Side} (h : Xv s = true) : BdS s := by
 unfold Xv at h
 simp only [Bool.and_eq_true, decide_eq_true_eq] at h
 obtain ⟨⟨⟨⟨⟨⟨⟨⟨h1, h2⟩, h3⟩, h4⟩, h5⟩, h6⟩, h7⟩, h8⟩, h9⟩ := h
 refine ⟨by omega, by omega, fun x hx => ?_, by omega, by omega⟩
 have := List.all_eq_true.1 h8 x hx
 unfold Vg at this
 have : x.length ≤ 60 := by simpa using this
 omega
theorem Zo1 {l : List Plc} (h : Wt l = true) : BdP l := by
 unfold Wt at h
 simp only [Bool.and_eq_true, decide_eq_true_eq] at h
 refine ⟨fun x hx => ?_, fun x hx => ?_⟩
 all_goals
  have := List.all_eq_true.1 h.2 x hx
  unfold Jm at this
  simp only [Bool.and_eq_true, decide_eq_true_eq] at this
  omega
theorem Zrh {a b : Nat} (h : a + b < 2 ^ 62) : IntKind.i64.wrap ((a : Int) + (b : Int)) = (a : Int) + b := Xu (by omega) (by omega)
theorem Zo2 {m : Mdl} {c : Cfg} (hb : c.before.length + c.after.length < 2 ^ 62) (h : Qp m c = true) : BdM m ∧ BdC c := by
 unfold Qp JJ at h
 rw [Zrh hb] at h
 simp only [Bool.and_eq_true, decide_eq_true_eq] at h
 obtain ⟨⟨⟨⟨⟨⟨⟨⟨⟨⟨h1, h2⟩, h3⟩, h4⟩, h5⟩, h6⟩, h7⟩, h8⟩, h9⟩, h10⟩, h11⟩ := h
 have h7 : (c.before.length : Int) + c.after.length ≤ 20 := by simpa [ltI] using h7
 unfold memS at h4
 simp only [Bool.and_eq_true, decide_eq_true_eq] at h4
 refine ⟨⟨by omega, fun p hp => Zo1 (List.all_eq_true.1 h10 p hp), fun x hx => ?_⟩, ⟨by omega, fun s hs => ?_, fun s hs => ?_, by omega, fun v hv => ?_, by omega, by omega⟩⟩
 ·have := List.all_eq_true.1 h9 x hx
  unfold JI at this
  simp only [Bool.and_eq_true, decide_eq_true_eq] at this
  omega
 ·have := List.all_eq_true.1 h11 s hs
  unfold Jp at this
  simp only [Bool.and_eq_true, decide_eq_true_eq] at this
  exact Zrg this.1
 ·have := List.all_eq_true.1 h11 s hs
  unfold Jp at this
  simp only [Bool.and_eq_true, decide_eq_true_eq] at this
  omega
 ·have := List.all_eq_true.1 h4.2 v hv
  unfold XB at this
  simp only [Bool.and_eq_true, decide_eq_true_eq] at this
  omega

theorem ZAc (haw : PCon UY 5 [] (· = .b true)) (hs : XK UY.P 177) (hcm : ZU UY.P 178) (m : Mdl) (c : Cfg) (hb : c.before.length + c.after.length < 2 ^ 62) : PCon UY 3 [.agg (mdlC m), .agg (cfgC c)] (· = .b true) := by
 refine Zz UK (fn := Tryz.f3) (by kernel_rfl) (by kernel_rfl) rfl (fun K => f3_0 (row ZC m.ins) m.ins.length (row ZD m.ws) m.ws.length (row ZF m.ps) m.ps.length m.lat m.mat c.pc (row ZE c.vars) c.vars.length c.c0 c.c1 c.c2 c.c3 c.c4 c.c5 c.c6 c.c7 c.c8 c.c9 (row encI c.stack) c.stack.length c.mode c.err c.use c.tmo c.ela (row encI c.before) c.before.length (row encI c.after) c.after.length (row Zn c.sides) c.sides.length .empty K) rfl ?_
 refine ⟨_, haw, Zd (fun h => by cases h) (fun _ => ⟨_, Zlo m c, Zd (fun h => Zs (.inr rfl) rfl (.b _) rfl) (fun h => ?_)⟩)⟩
 have h : Qp m c = true := by simpa using h
 obtain ⟨bm, bc⟩ := Zo2 hb h
 exact ⟨_, ZDy hs hcm m c bm bc, Zs (.inr rfl) rfl (.b _) rfl⟩
end Go.Y
namespace Go.Y
set_option maxRecDepth 1000000
set_option maxHeartbeats 0
mutual
def eqW : Nat → V → V → Bool
 | 0, _, _ => false
 | n + 1, a, b => match a, b with
  | .undef, .undef => true
  | .b x, .b y => x == y
  | .i k x, .i k' y => decide (k = k') && decide (x = y)
  | .s l, .s l' => decide (l = l')
  | .p none, .p none => true
  | .sl none x c k, .sl none x' c' k' => decide (x = x') && decide (c = c') && decide (k = k')
  | .ts cs x c, .ts cs' x' c' => decide (x = x') && decide (c = c') && eqWs n cs cs'
  | .tp cs, .tp cs' => eqWs n cs cs'
  | .agg cs, .agg cs' => eqWs n cs cs'
  | .tup cs, .tup cs' => eqWs n cs cs'
  | _, _ => false
def eqWs : Nat → List V → List V → Bool
 | 0, _, _ => false
 | n + 1, l, l' => match l, l' with
  | [], [] => true
  | a :: r, b :: r' => eqW n a b && eqWs n r r'
  | _, _ => false
end
mutual
theorem ZAd : ∀ (n : Nat) (a b : V), eqW n a b = true → a = b
 | 0, _, _, h => by simp [eqW] at h
 | n + 1, a, b, h => by
  unfold eqW at h
  split at h
  ·rfl
  ·simp at h; rw [h]
  ·simp at h; rw [h.1, h.2]
  ·simp at h; rw [h]
  ·rfl
  ·simp at h; rw [h.1.1, h.1.2, h.2]
  ·simp at h; rw [h.1.1, h.1.2, Zao n _ _ h.2]
  ·rw [Zao n _ _ h]
  ·rw [Zao n _ _ h]
  ·rw [Zao n _ _ h]
  ·cases h
theorem Zao : ∀ (n : Nat) (a b : List V), eqWs n a b = true → a = b
 | 0, _, _, h => by simp [eqWs] at h
 | n + 1, a, b, h => by
  unfold eqWs at h
  split at h
  ·rfl
  ·simp at h; rw [ZAd n _ _ h.1, Zao n _ _ h.2]
  ·cases h
end

abbrev Qq := List (FuncId × List V × V)
def Zo3 : Qq → FuncId → List V → Option V
 | [], _, _ => none
 | e :: T, f, args => if e.1 = f then (if eqWs 1000 e.2.1 args then some e.2.2 else Zo3 T f args) else Zo3 T f args
def knT (T : Qq) (kn : FuncId → List V → Heap → Option (V × Heap)) : FuncId → List V → Heap → Option (V × Heap) := fun f args h => match Zo3 T f args with
 | some r => some (r, h)
 | none => kn f args h
inductive KnowOK (Y : YP) : Qq → Prop
 | nil : KnowOK Y []
 | cons (f : FuncId) (args : List V) (r : V) (T : Qq) (h : PCon Y f args (· = r)) (hT : KnowOK Y T) : KnowOK Y ((f, args, r) :: T)
theorem Zfi {Y : YP} : ∀ {T : Qq}, KnowOK Y T → ∀ {f args r}, Zo3 T f args = some r → PCon Y f args (· = r)
 | _, .nil, _, _, _, h => by cases h
 | _, .cons g ags r T hp hT, f, args, r', h => by
  simp only [Zo3] at h
  split at h
  ·rename_i hg
   split at h
   ·rename_i ha
    have := Zao _ _ _ ha
    subst hg this
    cases h
    exact hp
   ·exact Zfi hT h
  ·exact Zfi hT h
theorem Zeb (h : Heap) : ∀ l : List V, FrzAL h l l
 | [] => .nil
 | _ :: l => .cons _ _ _ _ (.same _) (Zeb h l)
theorem XF {Y : YP} {T : Qq} {kn : FuncId → List V → Heap → Option (V × Heap)} (hT : KnowOK Y T) (hkn : KOK Y kn) : KOK Y (knT T kn) := by
 refine ⟨fun f args h v h' hv => ?_, hkn.2⟩
 unfold knT at hv
 split at hv
 ·rename_i r hr
  simp only [Option.some.injEq, Prod.mk.injEq] at hv
  obtain ⟨rfl, rfl⟩ := hv
  exact ⟨Con.ofP [] (Zeb _ _) (Zfi hT hr), .refl _⟩
 ·exact hkn.1 _ _ _ _ _ hv
mutual
def eqX : Nat → V → V → Bool
 | 0, _, _ => false
 | n + 1, a, b => match a, b with
  | .undef, .undef => true
  | .b x, .b y => x == y
  | .i k x, .i k' y => decide (k = k') && decide (x = y)
  | .s l, .s l' => decide (l = l')
  | .p x, .p y => decide (x = y)
  | .sl a x c k, .sl a' x' c' k' => decide (a = a') && decide (x = x') && decide (c = c') && decide (k = k')
  | .ts cs x c, .ts cs' x' c' => decide (x = x') && decide (c = c') && eqXs n cs cs'
  | .tp cs, .tp cs' => eqXs n cs cs'
  | .agg cs, .agg cs' => eqXs n cs cs'
  | .tup cs, .tup cs' => eqXs n cs cs'
  | _, _ => false
def eqXs : Nat → List V → List V → Bool
 | 0, _, _ => false
 | n + 1, l, l' => match l, l' with
  | [], [] => true
  | a :: r, b :: r' => eqX n a b && eqXs n r r'
  | _, _ => false
end
mutual
theorem ZAe : ∀ (n : Nat) (a b : V), eqX n a b = true → a = b
 | 0, _, _, h => by simp [eqX] at h
 | n + 1, a, b, h => by
  unfold eqX at h
  split at h
  ·rfl
  ·simp at h; rw [h]
  ·simp at h; rw [h.1, h.2]
  ·simp at h; rw [h]
  ·simp at h; rw [h]
  ·simp at h; rw [h.1.1.1, h.1.1.2, h.1.2, h.2]
  ·simp at h; rw [h.1.1, h.1.2, Vm n _ _ h.2]
  ·rw [Vm n _ _ h]
  ·rw [Vm n _ _ h]
  ·rw [Vm n _ _ h]
  ·cases h
theorem Vm : ∀ (n : Nat) (a b : List V), eqXs n a b = true → a = b
 | 0, _, _, h => by simp [eqXs] at h
 | n + 1, a, b, h => by
  unfold eqXs at h
  split at h
  ·rfl
  ·simp at h; rw [ZAe n _ _ h.1, Vm n _ _ h.2]
  ·cases h
end

def eqO : Option YObj → Option YObj → Bool
 | none, none => true
 | some (.arr cs w), some (.arr cs' w') => eqXs 1000 cs cs' && (w == w')
 | _, _ => false
theorem ZAf {a b : Option YObj} (h : eqO a b = true) : a = b := by
 unfold eqO at h
 split at h
 ·rfl
 ·simp at h; rw [Vm _ _ _ h.1, h.2]
 ·cases h
def eqOO : Option (Option YObj) → Option (Option YObj) → Bool
 | none, none => true
 | some x, some y => eqO x y
 | _, _ => false
theorem Zuq {a b : Option (Option YObj)} (h : eqOO a b = true) : a = b := by
 unfold eqOO at h
 split at h
 ·rfl
 ·rw [ZAf h]
 ·cases h
def eqTr : Tr → Tr → Bool
 | .leaf, .leaf => true
 | .node l x r, .node l' x' r' => eqTr l l' && eqOO x x' && eqTr r r'
 | _, _ => false
theorem Zit : ∀ {a b : Tr}, eqTr a b = true → a = b
 | .leaf, .leaf, _ => rfl
 | .node l x r, .node l' x' r', h => by
  simp only [eqTr, Bool.and_eq_true] at h
  rw [Zit h.1.1, Zuq h.1.2, Zit h.2]
 | .leaf, .node _ _ _, h => by simp [eqTr] at h
 | .node _ _ _, .leaf, h => by simp [eqTr] at h
def eqH (h h' : Heap) : Bool := decide (h.nx = h'.nx) && decide (h.lo = h'.lo) && decide (h.tg = h'.tg) && eqTr h.t h'.t
theorem ZAg {h h' : Heap} (e : eqH h h' = true) : h = h' := by
 obtain ⟨t, n, l, g⟩ := h
 obtain ⟨t', n', l', g'⟩ := h'
 simp only [eqH, Bool.and_eq_true, decide_eq_true_eq] at e
 obtain ⟨⟨⟨e1, e2⟩, e3⟩, e4⟩ := e
 rw [e1, e2, e3, Zit e4]

structure KnH where
 f : FuncId
 args : List V
 h : Heap
 v : V
 k : Heap
def Zlp : List KnH → FuncId → List V → Heap → Option (V × Heap)
 | [], _, _, _ => none
 | e :: T, f, args, h => if e.f = f then (if eqXs 1000 e.args args && eqH e.h h then some (e.v, e.k) else Zlp T f args h) else Zlp T f args h
def knH (T : List KnH) (kn : FuncId → List V → Heap → Option (V × Heap)) : FuncId → List V → Heap → Option (V × Heap) := fun f args h => match Zlp T f args h with
 | some r => some r
 | none => kn f args h
def KnHOK (Y : YP) (T : List KnH) : Prop := ∀ e ∈ T, (Con Y e.f e.args e.h fun v' k => v' = e.v ∧ k = e.k) ∧ Tame e.h e.k
theorem KnHOK.nil {Y : YP} : KnHOK Y [] := fun _ h => by cases h
theorem KnHOK.cons {Y : YP} {T : List KnH} {e : KnH} {kn : FuncId → List V → Heap → Option (V × Heap)} (hY : YOK Y) (hk : KOK Y kn) {n : Nat} (he : Ve Y kn n e.f e.args e.h = some (e.v, e.k)) (h : KnHOK Y T) : KnHOK Y (e :: T) := fun x hx => by
 rcases List.mem_cons.1 hx with rfl | hx
 ·exact ⟨Zeu hY hk _ _ _ _ _ _ he, Zaa hk _ _ _ _ _ _ he⟩
 ·exact h x hx
theorem Zfj : ∀ {T : List KnH} {f : FuncId} {args : List V} {h : Heap} {v : V} {k : Heap}, Zlp T f args h = some (v, k) → ∃ e ∈ T, e.f = f ∧ e.args = args ∧ e.h = h ∧ e.v = v ∧ e.k = k
 | [], _, _, _, _, _, h => by simp [Zlp] at h
 | e :: T, f, args, h, v, k, hl => by
  simp only [Zlp] at hl
  split at hl
  ·rename_i hf
   split at hl
   ·rename_i hc
    simp only [Bool.and_eq_true] at hc
    simp only [Option.some.injEq, Prod.mk.injEq] at hl
    exact ⟨e, by simp, hf, Vm _ _ _ hc.1, ZAg hc.2, hl.1, hl.2⟩
   ·obtain ⟨x, h1, h2⟩ := Zfj hl
    exact ⟨x, List.mem_cons_of_mem _ h1, h2⟩
  ·obtain ⟨x, h1, h2⟩ := Zfj hl
   exact ⟨x, List.mem_cons_of_mem _ h1, h2⟩
theorem XG {Y : YP} {T : List KnH} {kn : FuncId → List V → Heap → Option (V × Heap)} (hT : KnHOK Y T) (hk : KOK Y kn) : KOK Y (knH T kn) := by
 refine ⟨fun f args h v h' hv => ?_, hk.2⟩
 unfold knH at hv
 split at hv
 ·rename_i r hl
  simp only [Option.some.injEq] at hv
  subst hv
  obtain ⟨e, h1, rfl, rfl, rfl, rfl, rfl⟩ := Zfj hl
  exact hT e h1
 ·exact hk.1 _ _ _ _ _ hv
def Trya.locs : List (List Nat) := ((Tryz.locs.set 24 [2, 3]).set 128 [2]).set 217 [6]
def Trya.modes : List Nat := [(25, 6), (26, 6), (29, 6), (30, 6), (38, 6), (63, 6), (65, 6), (66, 6), (69, 6), (70, 6), (71, 6), (72, 6), (161, 1), (177, 2), (178, 1)].foldl (fun (m : List Nat) (p : Nat × Nat) => m.set p.1 p.2) Tryz.modes
noncomputable def UA : YP := ⟨Go.Proofs.Tryz.prog, Tryz.tys, Trya.locs, Trya.modes, [], [(278, 2)], []⟩
theorem Trya.ext278 : ∃ fn, UA.P.funcs[278]? = some fn ∧ fn.body.isNone = true ∧ Extern.findNext fn = none ∧ Extern.find fn = some (extE 2) := ⟨Go.Proofs.Tryz.f278, by kernel_rfl, by kernel_rfl, by kernel_rfl, by kernel_rfl⟩
theorem Trya.extok : Zo9 UA := by
 intro p hp
 have hp' : p ∈ ([(278, 2)] : List (FuncId × Nat)) := hp
 simp only [List.mem_cons, List.not_mem_nil, or_false] at hp'
 rcases hp' with rfl
 ·exact Trya.ext278
theorem UB : YOK UA := Zmf (by kernel_rfl) Trya.extok
end Go.Y
namespace Go.Y
open Go.Proofs
set_option maxRecDepth 1000000
set_option maxHeartbeats 0
def Trya.kn (_ : FuncId) (_ : List V) (_ : Heap) : Option (V × Heap) := none
theorem Trya.mode5 {f : Nat} (h : UA.mode f = 5) : False := by
 have hall : (Trya.modes.all fun p => p != 5) = true := by kernel_rfl
 have h2 : Trya.modes.getD f 0 = 5 := h
 rw [List.getD_eq_getElem?_getD] at h2
 cases h3 : Trya.modes[f]? with
 | none => rw [h3] at h2; cases h2
 | some m =>
  rw [h3] at h2
  rw [List.all_eq_true] at hall
  have := hall m (List.mem_of_getElem? h3)
  have h2 : m = 5 := h2
  subst h2
  simp at this
theorem Trya.knok : KOK UA Trya.kn := by
 refine ⟨fun f args h v h' hv => ?_, fun f args h v x hm _ => (Trya.mode5 hm).elim⟩
 unfold Trya.kn at hv
 cases hv
def Trya.kT0 : Qq := []
theorem Trya.kT0ok : KnowOK UA Trya.kT0 := .nil
def Trya.kH0 : List KnH := []
theorem Trya.kH0ok : KnHOK UA Trya.kH0 := .nil
def Trya.kA0 : List V := [.s [99, 97, 112, 32, 52, 32, 97, 116, 32, 97, 32, 123, 125], .i .i64 (12)]
def Trya.kR0 : V := .tup [.agg [.i .i64 (4), .s [125], .i .i64 (0), .ts [] 0 (some 0), .i .i64 (12)], .i .i64 (13), .i .i64 (0), .i .i64 (0)]
theorem Trya.kP0 : PCon UA 94 Trya.kA0 (· = Trya.kR0) := ZS UB (XF Trya.kT0ok (XG Trya.kH0ok Trya.knok)) (n := 200) (by kernel_rfl) (by kernel_rfl)
def Trya.kT1 : Qq := (94, Trya.kA0, Trya.kR0) :: Trya.kT0
theorem Trya.kT1ok : KnowOK UA Trya.kT1 := .cons _ _ _ _ Trya.kP0 Trya.kT0ok
def Trya.kA1 : List V := [.s [99, 97, 112, 32, 52, 32, 97, 116, 32, 97, 32, 123, 125]]
def Trya.kR1 : V := .tup [.agg [.i .i64 (4), .ts [.s [97], .b false, .ts [] 0 (some 0)] 1 none], .i .i64 (0), .i .i64 (0)]
theorem Trya.kP1 : PCon UA 20 Trya.kA1 (· = Trya.kR1) := ZS UB (XF Trya.kT1ok (XG Trya.kH0ok Trya.knok)) (n := 200) (by kernel_rfl) (by kernel_rfl)
def Trya.kT2 : Qq := (20, Trya.kA1, Trya.kR1) :: Trya.kT1
theorem Trya.kT2ok : KnowOK UA Trya.kT2 := .cons _ _ _ _ Trya.kP1 Trya.kT1ok
def Trya.kA2 : List V := [.s [116, 105, 109, 101, 111, 117, 116, 32, 110, 101, 118, 101, 114, 32, 115, 112, 97, 119, 110, 32, 48, 32, 101, 120, 112, 101, 99, 116, 32, 123, 101, 111, 102, 32, 123, 125, 125], .i .i64 (0), .b false]
def Trya.kR2 : V := .i .i64 (7)
theorem Trya.kP2 : PCon UA 136 Trya.kA2 (· = Trya.kR2) := ZS UB (XF Trya.kT2ok (XG Trya.kH0ok Trya.knok)) (n := 200) (by kernel_rfl) (by kernel_rfl)
def Trya.kT3 : Qq := (136, Trya.kA2, Trya.kR2) :: Trya.kT2
theorem Trya.kT3ok : KnowOK UA Trya.kT3 := .cons _ _ _ _ Trya.kP2 Trya.kT2ok
def Trya.kA3 : List V := [.s [116, 105, 109, 101, 111, 117, 116, 32, 110, 101, 118, 101, 114, 32, 115, 112, 97, 119, 110, 32, 48, 32, 101, 120, 112, 101, 99, 116, 32, 123, 101, 111, 102, 32, 123, 125, 125], .i .i64 (8), .b false]
def Trya.kR3 : V := .i .i64 (13)
theorem Trya.kP3 : PCon UA 136 Trya.kA3 (· = Trya.kR3) := ZS UB (XF Trya.kT3ok (XG Trya.kH0ok Trya.knok)) (n := 200) (by kernel_rfl) (by kernel_rfl)
def Trya.kT4 : Qq := (136, Trya.kA3, Trya.kR3) :: Trya.kT3
theorem Trya.kT4ok : KnowOK UA Trya.kT4 := .cons _ _ _ _ Trya.kP3 Trya.kT3ok
def Trya.kA4 : List V := [.s [116, 105, 109, 101, 111, 117, 116, 32, 110, 101, 118, 101, 114, 32, 115, 112, 97, 119, 110, 32, 48, 32, 101, 120, 112, 101, 99, 116, 32, 123, 101, 111, 102, 32, 123, 125, 125], .i .i64 (14), .b false]
def Trya.kR4 : V := .i .i64 (19)
theorem Trya.kP4 : PCon UA 136 Trya.kA4 (· = Trya.kR4) := ZS UB (XF Trya.kT4ok (XG Trya.kH0ok Trya.knok)) (n := 200) (by kernel_rfl) (by kernel_rfl)
def Trya.kT5 : Qq := (136, Trya.kA4, Trya.kR4) :: Trya.kT4
theorem Trya.kT5ok : KnowOK UA Trya.kT5 := .cons _ _ _ _ Trya.kP4 Trya.kT4ok
def Trya.kA5 : List V := [.s [116, 105, 109, 101, 111, 117, 116, 32, 110, 101, 118, 101, 114, 32, 115, 112, 97, 119, 110, 32, 48, 32, 101, 120, 112, 101, 99, 116, 32, 123, 101, 111, 102, 32, 123, 125, 125], .i .i64 (22), .b false]
def Trya.kR5 : V := .i .i64 (28)
theorem Trya.kP5 : PCon UA 136 Trya.kA5 (· = Trya.kR5) := ZS UB (XF Trya.kT5ok (XG Trya.kH0ok Trya.knok)) (n := 200) (by kernel_rfl) (by kernel_rfl)
def Trya.kT6 : Qq := (136, Trya.kA5, Trya.kR5) :: Trya.kT5
theorem Trya.kT6ok : KnowOK UA Trya.kT6 := .cons _ _ _ _ Trya.kP5 Trya.kT5ok
def Trya.kA6 : List V := [.s [116, 105, 109, 101, 111, 117, 116, 32, 110, 101, 118, 101, 114, 32, 115, 112, 97, 119, 110, 32, 48, 32, 101, 120, 112, 101, 99, 116, 32, 123, 101, 111, 102, 32, 123, 125, 125], .i .i64 (36)]
def Trya.kR6 : V := .tup [.agg [.i .i64 (4), .s [125], .i .i64 (0), .ts [] 0 (some 0), .i .i64 (36)], .i .i64 (37), .i .i64 (0), .i .i64 (0)]
theorem Trya.kP6 : PCon UA 94 Trya.kA6 (· = Trya.kR6) := ZS UB (XF Trya.kT6ok (XG Trya.kH0ok Trya.knok)) (n := 200) (by kernel_rfl) (by kernel_rfl)
def Trya.kT7 : Qq := (94, Trya.kA6, Trya.kR6) :: Trya.kT6
theorem Trya.kT7ok : KnowOK UA Trya.kT7 := .cons _ _ _ _ Trya.kP6 Trya.kT6ok
def Trya.kA7 : List V := [.s [116, 105, 109, 101, 111, 117, 116, 32, 110, 101, 118, 101, 114, 32, 115, 112, 97, 119, 110, 32, 48, 32, 101, 120, 112, 101, 99, 116, 32, 123, 101, 111, 102, 32, 123, 125, 125]]
def Trya.kR7 : V := .tup [.ts [.i .i64 (1), .s [116, 105, 109, 101, 111, 117, 116], .i .i64 (0), .ts [] 0 (some 0), .i .i64 (0), .i .i64 (1), .s [110, 101, 118, 101, 114], .i .i64 (0), .ts [] 0 (some 0), .i .i64 (8), .i .i64 (1), .s [115, 112, 97, 119, 110], .i .i64 (0), .ts [] 0 (some 0), .i .i64 (14), .i .i64 (2), .s [], .i .i64 (0), .ts [] 0 (some 0), .i .i64 (20), .i .i64 (1), .s [101, 120, 112, 101, 99, 116], .i .i64 (0), .ts [] 0 (some 0), .i .i64 (22), .i .i64 (4), .s [123], .i .i64 (0), .ts [] 0 (some 0), .i .i64 (29), .i .i64 (1), .s [101, 111, 102], .i .i64 (0), .ts [] 0 (some 0), .i .i64 (30), .i .i64 (4), .s [123], .i .i64 (0), .ts [] 0 (some 0), .i .i64 (34), .i .i64 (4), .s [125], .i .i64 (0), .ts [] 0 (some 0), .i .i64 (35), .i .i64 (4), .s [125], .i .i64 (0), .ts [] 0 (some 0), .i .i64 (36)] 10 none, .i .i64 (0), .i .i64 (0)]
theorem Trya.kP7 : PCon UA 45 Trya.kA7 (· = Trya.kR7) := ZS UB (XF Trya.kT7ok (XG Trya.kH0ok Trya.knok)) (n := 200) (by kernel_rfl) (by kernel_rfl)
def Trya.kT8 : Qq := (45, Trya.kA7, Trya.kR7) :: Trya.kT7
theorem Trya.kT8ok : KnowOK UA Trya.kT8 := .cons _ _ _ _ Trya.kP7 Trya.kT7ok
def Trya.kG8 : KnH := ⟨101, [.p (some (0, 0)), .i .i64 (0)], ⟨(.node .leaf (some (some (.arr [.s [116, 105, 109, 101, 111, 117, 116, 32, 110, 101, 118, 101, 114, 32, 115, 112, 97, 119, 110, 32, 48, 32, 101, 120, 112, 101, 99, 116, 32, 123, 101, 111, 102, 32, 123, 125, 125], .ts [.i .i64 (1), .s [116, 105, 109, 101, 111, 117, 116], .i .i64 (0), .ts [] 0 (some 0), .i .i64 (0), .i .i64 (1), .s [110, 101, 118, 101, 114], .i .i64 (0), .ts [] 0 (some 0), .i .i64 (8), .i .i64 (1), .s [115, 112, 97, 119, 110], .i .i64 (0), .ts [] 0 (some 0), .i .i64 (14), .i .i64 (2), .s [], .i .i64 (0), .ts [] 0 (some 0), .i .i64 (20), .i .i64 (1), .s [101, 120, 112, 101, 99, 116], .i .i64 (0), .ts [] 0 (some 0), .i .i64 (22), .i .i64 (4), .s [123], .i .i64 (0), .ts [] 0 (some 0), .i .i64 (29), .i .i64 (1), .s [101, 111, 102], .i .i64 (0), .ts [] 0 (some 0), .i .i64 (30), .i .i64 (4), .s [123], .i .i64 (0), .ts [] 0 (some 0), .i .i64 (34), .i .i64 (4), .s [125], .i .i64 (0), .ts [] 0 (some 0), .i .i64 (35), .i .i64 (4), .s [125], .i .i64 (0), .ts [] 0 (some 0), .i .i64 (36)] 10 none, .i .i64 (0), .i .i64 (0), .i .i64 (0)] true))) .leaf), 1, 1, []⟩, .agg [.i .i64 (11), .s [], .i .i64 (-1), .sl none 0 (some 0) 0, .i .i64 (0), .i .i64 (0), .s [], .s [], .sl none 0 (some 0) 0, .sl none 0 (some 0) 0, .sl none 0 (some 0) 0, .sl none 0 (some 0) 0, .i .i64 (0)], ⟨(.node .leaf (some (some (.arr [.s [116, 105, 109, 101, 111, 117, 116, 32, 110, 101, 118, 101, 114, 32, 115, 112, 97, 119, 110, 32, 48, 32, 101, 120, 112, 101, 99, 116, 32, 123, 101, 111, 102, 32, 123, 125, 125], .ts [.i .i64 (1), .s [116, 105, 109, 101, 111, 117, 116], .i .i64 (0), .ts [] 0 (some 0), .i .i64 (0), .i .i64 (1), .s [110, 101, 118, 101, 114], .i .i64 (0), .ts [] 0 (some 0), .i .i64 (8), .i .i64 (1), .s [115, 112, 97, 119, 110], .i .i64 (0), .ts [] 0 (some 0), .i .i64 (14), .i .i64 (2), .s [], .i .i64 (0), .ts [] 0 (some 0), .i .i64 (20), .i .i64 (1), .s [101, 120, 112, 101, 99, 116], .i .i64 (0), .ts [] 0 (some 0), .i .i64 (22), .i .i64 (4), .s [123], .i .i64 (0), .ts [] 0 (some 0), .i .i64 (29), .i .i64 (1), .s [101, 111, 102], .i .i64 (0), .ts [] 0 (some 0), .i .i64 (30), .i .i64 (4), .s [123], .i .i64 (0), .ts [] 0 (some 0), .i .i64 (34), .i .i64 (4), .s [125], .i .i64 (0), .ts [] 0 (some 0), .i .i64 (35), .i .i64 (4), .s [125], .i .i64 (0), .ts [] 0 (some 0), .i .i64 (36)] 10 none, .i .i64 (2), .i .i64 (0), .i .i64 (0)] true))) .leaf), 1, 0, []⟩⟩
theorem Trya.kQ8 : Ve UA (knT Trya.kT8 (knH Trya.kH0 Trya.kn)) 200 Trya.kG8.f Trya.kG8.args Trya.kG8.h = some (Trya.kG8.v, Trya.kG8.k) := by kernel_rfl
def Trya.kH9 : List KnH := Trya.kG8 :: Trya.kH0
theorem Trya.kH9ok : KnHOK UA Trya.kH9 := .cons UB (XF Trya.kT8ok (XG Trya.kH0ok Trya.knok)) Trya.kQ8 Trya.kH0ok
def Trya.kG9 : KnH := ⟨101, [.p (some (0, 0)), .i .i64 (0)], ⟨(.node (.node .leaf (some (some (.arr [.i .i64 (11), .s [], .i .i64 (-1), .sl none 0 (some 0) 0, .i .i64 (0), .i .i64 (0), .s [], .s [], .sl none 0 (some 0) 0, .sl none 0 (some 0) 0, .sl none 0 (some 0) 0, .sl none 0 (some 0) 0, .i .i64 (0)] true))) .leaf) (some (some (.arr [.s [116, 105, 109, 101, 111, 117, 116, 32, 110, 101, 118, 101, 114, 32, 115, 112, 97, 119, 110, 32, 48, 32, 101, 120, 112, 101, 99, 116, 32, 123, 101, 111, 102, 32, 123, 125, 125], .ts [.i .i64 (1), .s [116, 105, 109, 101, 111, 117, 116], .i .i64 (0), .ts [] 0 (some 0), .i .i64 (0), .i .i64 (1), .s [110, 101, 118, 101, 114], .i .i64 (0), .ts [] 0 (some 0), .i .i64 (8), .i .i64 (1), .s [115, 112, 97, 119, 110], .i .i64 (0), .ts [] 0 (some 0), .i .i64 (14), .i .i64 (2), .s [], .i .i64 (0), .ts [] 0 (some 0), .i .i64 (20), .i .i64 (1), .s [101, 120, 112, 101, 99, 116], .i .i64 (0), .ts [] 0 (some 0), .i .i64 (22), .i .i64 (4), .s [123], .i .i64 (0), .ts [] 0 (some 0), .i .i64 (29), .i .i64 (1), .s [101, 111, 102], .i .i64 (0), .ts [] 0 (some 0), .i .i64 (30), .i .i64 (4), .s [123], .i .i64 (0), .ts [] 0 (some 0), .i .i64 (34), .i .i64 (4), .s [125], .i .i64 (0), .ts [] 0 (some 0), .i .i64 (35), .i .i64 (4), .s [125], .i .i64 (0), .ts [] 0 (some 0), .i .i64 (36)] 10 none, .i .i64 (2), .i .i64 (0), .i .i64 (0)] true))) .leaf), 2, 2, []⟩, .agg [.i .i64 (8), .s [], .i .i64 (0), .sl none 0 (some 0) 0, .i .i64 (0), .i .i64 (0), .s [], .s [], .sl none 0 (some 0) 0, .sl none 0 (some 0) 0, .sl none 0 (some 0) 0, .sl none 0 (some 0) 0, .i .i64 (14)], ⟨(.node (.node .leaf (some (some (.arr [.i .i64 (11), .s [], .i .i64 (-1), .sl none 0 (some 0) 0, .i .i64 (0), .i .i64 (0), .s [], .s [], .sl none 0 (some 0) 0, .sl none 0 (some 0) 0, .sl none 0 (some 0) 0, .sl none 0 (some 0) 0, .i .i64 (0)] true))) .leaf) (some (some (.arr [.s [116, 105, 109, 101, 111, 117, 116, 32, 110, 101, 118, 101, 114, 32, 115, 112, 97, 119, 110, 32, 48, 32, 101, 120, 112, 101, 99, 116, 32, 123, 101, 111, 102, 32, 123, 125, 125], .ts [.i .i64 (1), .s [116, 105, 109, 101, 111, 117, 116], .i .i64 (0), .ts [] 0 (some 0), .i .i64 (0), .i .i64 (1), .s [110, 101, 118, 101, 114], .i .i64 (0), .ts [] 0 (some 0), .i .i64 (8), .i .i64 (1), .s [115, 112, 97, 119, 110], .i .i64 (0), .ts [] 0 (some 0), .i .i64 (14), .i .i64 (2), .s [], .i .i64 (0), .ts [] 0 (some 0), .i .i64 (20), .i .i64 (1), .s [101, 120, 112, 101, 99, 116], .i .i64 (0), .ts [] 0 (some 0), .i .i64 (22), .i .i64 (4), .s [123], .i .i64 (0), .ts [] 0 (some 0), .i .i64 (29), .i .i64 (1), .s [101, 111, 102], .i .i64 (0), .ts [] 0 (some 0), .i .i64 (30), .i .i64 (4), .s [123], .i .i64 (0), .ts [] 0 (some 0), .i .i64 (34), .i .i64 (4), .s [125], .i .i64 (0), .ts [] 0 (some 0), .i .i64 (35), .i .i64 (4), .s [125], .i .i64 (0), .ts [] 0 (some 0), .i .i64 (36)] 10 none, .i .i64 (4), .i .i64 (0), .i .i64 (0)] true))) .leaf), 2, 0, []⟩⟩
theorem Trya.kQ9 : Ve UA (knT Trya.kT8 (knH Trya.kH9 Trya.kn)) 200 Trya.kG9.f Trya.kG9.args Trya.kG9.h = some (Trya.kG9.v, Trya.kG9.k) := by kernel_rfl
def Trya.kH10 : List KnH := Trya.kG9 :: Trya.kH9
theorem Trya.kH10ok : KnHOK UA Trya.kH10 := .cons UB (XF Trya.kT8ok (XG Trya.kH9ok Trya.knok)) Trya.kQ9 Trya.kH9ok
end Go.Y
