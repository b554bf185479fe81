import Derived.Test.YtpddiafjmkjpmaaYTryP
import Derived.Test.YtpddiafjmkjpmaaYLoop
import Derived.Test.YtpddiafjmkjpmaaYRow
import Derived.Test.YtpddiafjmkjpmaaGRule
namespace Go.Y
open Go.Proofs
set_option maxRecDepth 100000
set_option maxHeartbeats 0
theorem cl54_0 (c : Option Nat) (k : Nat) (h : Heap) (K : Out → Nat → List V → Heap → Prop) : (codeP Try.Y (Try.Y.loc 54) 100 ((flat (bodyOf Try.f54))) ⟨(V.sl none 0 c k :: List.replicate 7 .undef), [], h⟩ (VQ [2] K)) =
  (K Out.ret 8 [V.sl none 0 (some 0) 0] h) := by kernel_rfl
theorem cl54_1 (cs : List V) (n : Nat) (c : Option Nat) (h : Heap) (K : Out → Nat → List V → Heap → Prop) : (codeP Try.Y (Try.Y.loc 54) 100 ((flat (bodyOf Try.f54))) ⟨(V.ts cs n c :: List.replicate 7 .undef), [], h⟩ (VQ [2] K)) =
  ((n = 0 → K Out.ret 8 [V.sl none 0 (some 0) 0] h) ∧
  ((∃ (a : Option (Nat × Nat)),
      ∃ (l : Nat),
        ∃ (c_1 : Option Nat),
          ∃ (k : Nat),
            ∃ (h_1 : Heap),
              appendH Try.Y h 41 41 (V.ts [] 0 (some 0)) (V.ts cs n c) = some (V.sl a l c_1 k, h_1) ∧
                K Out.ret 8 [V.sl a l c_1 k] h_1) ∨
    appendH Try.Y h 41 41 (V.ts [] 0 (some 0)) (V.ts cs n c) = some (V.ts [] 0 (some 0), h) ∧
      K Out.ret 8 [V.ts [] 0 (some 0)] h)) := by kernel_rfl
theorem cl79_0 (c : Option Nat) (k : Nat) (h : Heap) (K : Out → Nat → List V → Heap → Prop) : (codeP Try.Y (Try.Y.loc 79) 100 ((flat (bodyOf Try.f79))) ⟨(V.sl none 0 c k :: List.replicate 7 .undef), [], h⟩ (VQ [2] K)) =
  (K Out.ret 8 [V.sl none 0 (some 0) 0] h) := by kernel_rfl
theorem cl79_1 (cs : List V) (n : Nat) (c : Option Nat) (h : Heap) (K : Out → Nat → List V → Heap → Prop) : (codeP Try.Y (Try.Y.loc 79) 100 ((flat (bodyOf Try.f79))) ⟨(V.ts cs n c :: List.replicate 7 .undef), [], h⟩ (VQ [2] K)) =
  ((n = 0 → K Out.ret 8 [V.sl none 0 (some 0) 0] h) ∧
  ((∃ (a : Option (Nat × Nat)),
      ∃ (l : Nat),
        ∃ (c_1 : Option Nat),
          ∃ (k : Nat),
            ∃ (h_1 : Heap),
              appendH Try.Y h 34 34 (V.ts [] 0 (some 0)) (V.ts cs n c) = some (V.sl a l c_1 k, h_1) ∧
                K Out.ret 8 [V.sl a l c_1 k] h_1) ∨
    appendH Try.Y h 34 34 (V.ts [] 0 (some 0)) (V.ts cs n c) = some (V.ts [] 0 (some 0), h) ∧
      K Out.ret 8 [V.ts [] 0 (some 0)] h)) := by kernel_rfl
end Go.Y

/- What is known ahead: slices.Clone. -/
namespace Go.Y
open Go.Proofs
set_option maxRecDepth 100000

theorem clone54 {args : List V} {h : Heap} {v : V} {h' : Heap} (hv : cloneV 1 args h = some (v, h')) : Con Try.Y 54 args h fun v' k' => v' = v ∧ k' = h' :=
  clone_con Try.Yok (fn := Try.f54) (by kernel_rfl) (by kernel_rfl) (st := 41) (e := 3) (te := ⟨1, 8, .int .i64, [.i .i64 0]⟩) (k := 1) (by kernel_rfl) (by kernel_rfl) rfl (by decide) (by decide)
    (fun c k h K hk => all_rule Try.Yok (loc := Try.Y.loc 54) 100 [2] (by rw [show (⟨[V.sl none 0 c k] ++ List.replicate (Try.f54.ntmps - 1) .undef, [], h⟩ : St) = ⟨V.sl none 0 c k :: List.replicate 7 .undef, [], h⟩ by rfl, cl54_0]; exact hk))
    (fun cs n c h K hk => all_rule Try.Yok (loc := Try.Y.loc 54) 100 [2] (by rw [show (⟨[V.ts cs n c] ++ List.replicate (Try.f54.ntmps - 1) .undef, [], h⟩ : St) = ⟨V.ts cs n c :: List.replicate 7 .undef, [], h⟩ by rfl, cl54_1]; exact hk))
    (by kernel_rfl) hv
theorem clone79 {args : List V} {h : Heap} {v : V} {h' : Heap} (hv : cloneV 1 args h = some (v, h')) : Con Try.Y 79 args h fun v' k' => v' = v ∧ k' = h' :=
  clone_con Try.Yok (fn := Try.f79) (by kernel_rfl) (by kernel_rfl) (st := 34) (e := 9) (te := ⟨1, 16, .str, [.s []]⟩) (k := 1) (by kernel_rfl) (by kernel_rfl) rfl (by decide) (by decide)
    (fun c k h K hk => all_rule Try.Yok (loc := Try.Y.loc 79) 100 [2] (by rw [show (⟨[V.sl none 0 c k] ++ List.replicate (Try.f79.ntmps - 1) .undef, [], h⟩ : St) = ⟨V.sl none 0 c k :: List.replicate 7 .undef, [], h⟩ by rfl, cl79_0]; exact hk))
    (fun cs n c h K hk => all_rule Try.Yok (loc := Try.Y.loc 79) 100 [2] (by rw [show (⟨[V.ts cs n c] ++ List.replicate (Try.f79.ntmps - 1) .undef, [], h⟩ : St) = ⟨V.ts cs n c :: List.replicate 7 .undef, [], h⟩ by rfl, cl79_1]; exact hk))
    (by kernel_rfl) hv

def Try.kn (f : FuncId) (args : List V) (h : Heap) : Option (V × Heap) := match f with
  | 54 | 79 => cloneV 1 args h
  | _ => none

theorem alV_clone {args : List V} {h : Heap} {v : V} {x : YObj} (ha : alV args h = some (v, x)) : cloneV 1 args h = some (v, h.push x) := by
  unfold alV at ha
  split at ha
  · rename_i cs n c h
    simp only [cloneV, Nat.mul_one]
    split at ha
    · rename_i c hc
      split at ha
      · rename_i hcond
        simp only [Option.some.injEq, Prod.mk.injEq] at ha
        obtain ⟨rfl, rfl⟩ := ha
        rw [hc]
        simp only [hcond, and_self, if_true]
      · cases ha
    · cases ha
  · cases ha
theorem Try.mode5 {f : Nat} (h : Try.Y.mode f = 5) : f = 54 ∨ f = 79 := by
  have hall : (Try.modes.zipIdx.all fun p => p.1 != 5 || p.2 == 54 || p.2 == 79) = true := by kernel_rfl
  have h1 : Try.modes[f]? = some 5 := by
    have h2 : Try.modes.getD f 0 = 5 := h
    rw [List.getD_eq_getElem?_getD] at h2
    cases h3 : Try.modes[f]? with
    | none => rw [h3] at h2; cases h2
    | some m => rw [h3] at h2; exact congrArg some h2
  rw [List.all_eq_true] at hall
  have := hall (5, f) (by rw [List.mem_zipIdx_iff_getElem?]; exact h1)
  simpa using this
theorem Try.knok : KOK Try.Y Try.kn := by
  refine ⟨fun f args h v h' hv => ?_, fun f args h v x hm ha => ?_⟩
  · unfold Try.kn at hv
    split at hv
    · exact ⟨clone54 hv, clone_tame hv⟩
    · exact ⟨clone79 hv, clone_tame hv⟩
    · cases hv
  · rcases Try.mode5 hm with rfl | rfl
    · exact clone54 (alV_clone ha)
    · exact clone79 (alV_clone ha)

theorem awake03 : PCon Try.Y 12 [] (· = .b true) := callN_ok Try.Yok Try.knok (n := 200) (by kernel_rfl) rfl
theorem awake16 : PCon Try.Y 19 [] (· = .b true) := callN_ok Try.Yok Try.knok (n := 200) (by kernel_rfl) rfl
theorem awake17 : PCon Try.Y 30 [] (· = .b true) := callN_ok Try.Yok Try.knok (n := 200) (by kernel_rfl) rfl
theorem awake18 : PCon Try.Y 39 [] (· = .b true) := callN_ok Try.Yok Try.knok (n := 200) (by kernel_rfl) rfl
end Go.Y

/- What patterns come to, over lists of bytes. -/
namespace Go.Y

structure Span where
  lo : Int
  hi : Int
  deriving DecidableEq, Inhabited
structure Glob where
  k : Int
  b : Int
  sp : List Span
  deriving DecidableEq, Inhabited

abbrev encS (x : Span) : List V := [.i .u8 x.lo, .i .u8 x.hi]
abbrev encG (x : Glob) : List V := [.i .i64 x.k, .i .u8 x.b, lst encS x.sp]
theorem encS_len (x : Span) : (encS x).length = 2 := rfl
theorem encG_len (x : Glob) : (encG x).length = 3 := rfl
theorem encS_cold (x : Span) : colds1 (encS x) = true := rfl
theorem encG_cold (x : Glob) : colds1 (encG x) = true := rfl

/-- The reader's next byte. -/
def nextS (s : List UInt8) (i : Nat) (b : Bool) : Int × Nat × Bool := match s[i]? with
  | some c => (c.toNat, i + 1, b)
  | none => (0, i, true)

/-- A byte of an item, and the place behind it; or the place where it can't go on. -/
def endS (s : List UInt8) (i : Nat) : Except Nat (Int × Nat) := match s[i]? with
  | none => .error i
  | some c => if c = 93 ∨ c = 45 then .error i else if c = 92 then match s[i + 1]? with
      | none => .error (i + 1)
      | some d => .ok (d.toNat, i + 2)
    else .ok (c.toNat, i + 1)

def itemS (s : List UInt8) (i : Nat) : Except Nat (Span × Nat) := match endS s i with
  | .error e => .error e
  | .ok (lo, j) => if s[j]? = some 45 then match endS s (j + 1) with
      | .error e => .error e
      | .ok (hi, k) => if hi < lo then .error (k - 1) else .ok (⟨lo, hi⟩, k)
    else .ok (⟨lo, lo⟩, j)

def setS : Nat → List UInt8 → Nat → List Span → Except Nat (List Span × Nat)
  | 0, _, i, _ => .error i
  | n + 1, s, i, out => if out ≠ [] ∧ s[i]? = some 93 then .ok (out, i + 1) else match itemS s i with
    | .error e => .error e
    | .ok (x, j) => setS n s j (out ++ [x])

def pieceS (s : List UInt8) (i : Nat) : Except Nat (Glob × Nat) := match s[i]? with
  | none => .error i
  | some c => if c = 42 then .ok (⟨2, 0, []⟩, i + 1) else if c = 63 then .ok (⟨1, 0, []⟩, i + 1) else
    if c = 91 then match setS (s.length + 1) s (i + 1) [] with
      | .error e => .error e
      | .ok (l, j) => .ok (⟨3, 0, l⟩, j)
    else if c = 92 then match s[i + 1]? with
      | none => .error (i + 1)
      | some d => .ok (⟨0, d.toNat, []⟩, i + 2)
    else .ok (⟨0, c.toNat, []⟩, i + 1)

def parseS : Nat → List UInt8 → Nat → List Glob → Except Nat (List Glob)
  | 0, _, i, _ => .error i
  | n + 1, s, i, out => if i < s.length then match pieceS s i with
      | .error e => .error e
      | .ok (x, j) => parseS n s j (out ++ [x])
    else .ok out

theorem endS_ok {s : List UInt8} {i : Nat} {c : Int} {j : Nat} (h : endS s i = .ok (c, j)) : i < j ∧ j ≤ s.length ∧ j ≤ i + 2 := by
  unfold endS at h
  split at h
  · cases h
  · rename_i c1 h1
    have hi := (List.getElem?_eq_some_iff.1 h1).1
    split at h
    · cases h
    · split at h
      · split at h
        · cases h
        · rename_i d h2
          have hi2 := (List.getElem?_eq_some_iff.1 h2).1
          cases h
          omega
      · cases h
        omega

theorem endS_err {s : List UInt8} {i e : Nat} (hi : i ≤ s.length) (h : endS s i = .error e) : e ≤ s.length := by
  unfold endS at h
  split at h
  · cases h; exact hi
  · rename_i c1 h1
    have hi := (List.getElem?_eq_some_iff.1 h1).1
    split at h
    · cases h; omega
    · split at h
      · split at h
        · cases h; omega
        · cases h
      · cases h

theorem itemS_ok {s : List UInt8} {i : Nat} {x : Span} {j : Nat} (h : itemS s i = .ok (x, j)) : i < j ∧ j ≤ s.length := by
  unfold itemS at h
  split at h
  · cases h
  · rename_i lo k h1
    have := endS_ok h1
    split at h
    · split at h
      · cases h
      · rename_i hi k2 h2
        have := endS_ok h2
        split at h
        · cases h
        · cases h; omega
    · cases h; omega

theorem setS_ok {s : List UInt8} : ∀ {n i : Nat} {out l : List Span} {j : Nat}, setS n s i out = .ok (l, j) → i < j ∧ j ≤ s.length
  | 0, _, _, _, _, h => by cases h
  | n + 1, i, out, l, j, h => by
    simp only [setS] at h
    split at h
    · rename_i hc
      have := (List.getElem?_eq_some_iff.1 hc.2).1
      cases h; omega
    · split at h
      · cases h
      · rename_i x k h1
        have g1 := itemS_ok h1
        have g2 := setS_ok h
        omega

theorem pieceS_ok {s : List UInt8} {i : Nat} {x : Glob} {j : Nat} (h : pieceS s i = .ok (x, j)) : i < j ∧ j ≤ s.length := by
  unfold pieceS at h
  split at h
  · cases h
  · rename_i c h0
    have hi := (List.getElem?_eq_some_iff.1 h0).1
    split at h
    · cases h; omega
    · split at h
      · cases h; omega
      · split at h
        · split at h
          · cases h
          · rename_i l k h1
            have := setS_ok h1
            cases h; omega
        · split at h
          · split at h
            · cases h
            · rename_i d h1
              have := (List.getElem?_eq_some_iff.1 h1).1
              cases h; omega
          · cases h; omega
end Go.Y

/- What the pieces of functions come to: printed by program. -/
namespace Go.Y
open Go.Proofs
set_option maxRecDepth 100000
set_option maxHeartbeats 0
theorem f90_0 (id : Nat) (h : Heap) (K : Out → Nat → List V → Heap → Prop) : (codeP Try.Y (Try.Y.loc 90) 100 ((flat (bodyOf Try.f90))) ⟨(V.p (some (id, 0)) :: List.replicate 32 .undef), [], h⟩ (VQ [2] K)) =
  (∃ (n : Int),
  hcells h id 1 1 = some [V.i IntKind.i64 n] ∧
 ∃ (s : List UInt8),
 hcells h id 0 1 = some [V.s s] ∧
 If (leI (↑s.length : Int) n)
 (∃ (h_1 : Heap), hstore h id 2 [V.b true] = some h_1 ∧ K Out.ret 33 [V.i IntKind.u8 0] h_1)
 (∃ (n : Int),
 hcells h id 1 1 = some [V.i IntKind.i64 n] ∧
 ∃ (h_1 : Heap),
 hstore h id 1 [V.i IntKind.i64 (IntKind.i64.wrap (n + 1))] = some h_1 ∧
 ∃ (s : List UInt8),
 hcells h_1 id 0 1 = some [V.s s] ∧
 ∃ (n : Int),
 hcells h_1 id 1 1 = some [V.i IntKind.i64 n] ∧
 ∃ (c : UInt8),
 (0 ≤ IntKind.i64.wrap (n - 1) ∧ s[(IntKind.i64.wrap (n - 1)).toNat]? = some c) ∧
 K Out.ret 33 [V.i IntKind.u8 (↑c.toNat : Int)] h_1)) := by kernel_rfl
theorem f112_0 (id : Nat) (c : Int) (h : Heap) (K : Out → Nat → List V → Heap → Prop) : (codeP Try.Y (Try.Y.loc 112) 100 ((flat (bodyOf Try.f112))) ⟨(V.p (some (id, 0)) :: V.i .u8 c :: List.replicate 26 .undef), [], h⟩ (VQ [4] K)) =
  (∃ (n : Int),
  hcells h id 1 1 = some [V.i IntKind.i64 n] ∧
 ∃ (s : List UInt8),
 hcells h id 0 1 = some [V.s s] ∧
 If (ltI n (↑s.length : Int))
 (∃ (s : List UInt8),
 hcells h id 0 1 = some [V.s s] ∧
 ∃ (n : Int),
 hcells h id 1 1 = some [V.i IntKind.i64 n] ∧
 ∃ (c_1 : UInt8), (0 ≤ n ∧ s[n.toNat]? = some c_1) ∧ K Out.ret 28 [V.b ((↑c_1.toNat : Int) == c)] h)
 (K Out.ret 28 [V.b false] h)) := by kernel_rfl
theorem f121_0 (id : Nat) (h : Heap) (K : Out → Nat → List V → Heap → Prop) : (codeP Try.Y (Try.Y.loc 121) 100 ((flat (bodyOf Try.f121))) ⟨(V.p (some (id, 0)) :: List.replicate 26 .undef), [], h⟩ (VQ [2] K)) =
  (∃ (b : Bool),
  (∃ (h1 : Heap),
 (Con Try.Y 112 [V.p (some (id, 0)), V.i IntKind.u8 93] h fun (v : V) (h' : Heap) => v = V.b b ∧ h' = h1) ∧
 (∀ (i : Nat), i < h.nx → h1.get i = h.get i) ∧ ∀ (p : Nat × TypeId), List.Mem p h.tg → List.Mem p h1.tg) ∧
 If b (∃ (h_1 : Heap), hstore h id 2 [V.b true] = some h_1 ∧ K Out.ret 27 [V.i IntKind.u8 0] h_1)
 (∃ (b : Bool),
 (∃ (h1 : Heap),
 (Con Try.Y 112 [V.p (some (id, 0)), V.i IntKind.u8 45] h fun (v : V) (h' : Heap) => v = V.b b ∧ h' = h1) ∧
 (∀ (i : Nat), i < h.nx → h1.get i = h.get i) ∧ ∀ (p : Nat × TypeId), List.Mem p h.tg → List.Mem p h1.tg) ∧
 If b (∃ (h_1 : Heap), hstore h id 2 [V.b true] = some h_1 ∧ K Out.ret 27 [V.i IntKind.u8 0] h_1)
 (Con Try.Y 90 [V.p (some (id, 0))] h fun (v : V) (h' : Heap) =>
 ∃ (n : Int),
 v = V.i IntKind.u8 n ∧
 If (n == 92)
 (∃ (b : Bool),
 hcells h' id 2 1 = some [V.b b] ∧
 If (!b)
 (Con Try.Y 90 [V.p (some (id, 0))] h' fun (v : V) (h' : Heap) =>
 ∃ (n : Int), v = V.i IntKind.u8 n ∧ K Out.ret 27 [V.i IntKind.u8 n] h')
 (K Out.ret 27 [V.i IntKind.u8 n] h'))
 (K Out.ret 27 [V.i IntKind.u8 n] h')))) := by kernel_rfl
theorem f113_0 (id : Nat) (h : Heap) (K : Out → Nat → List V → Heap → Prop) : (codeP Try.Y (Try.Y.loc 113) 100 ((flat (bodyOf Try.f113))) ⟨(V.p (some (id, 0)) :: List.replicate 52 .undef), [], h⟩ (VQ [2] K)) =
  (Con Try.Y 121 [V.p (some (id, 0))] h fun (v : V) (h' : Heap) =>
  ∃ (n : Int),
 v = V.i IntKind.u8 n ∧
 ∃ (b : Bool),
 hcells h' id 2 1 = some [V.b b] ∧
 If b (K Out.ret 53 [V.lb [V.i IntKind.u8 n, V.i IntKind.u8 n]] h')
 (∃ (b : Bool),
 (∃ (h1 : Heap),
 (Con Try.Y 112 [V.p (some (id, 0)), V.i IntKind.u8 45] h' fun (v : V) (h' : Heap) =>
 v = V.b b ∧ h' = h1) ∧
 (∀ (i : Nat), i < h'.nx → h1.get i = h'.get i) ∧
 ∀ (p : Nat × TypeId), List.Mem p h'.tg → List.Mem p h1.tg) ∧
 If (!b) (K Out.ret 53 [V.lb [V.i IntKind.u8 n, V.i IntKind.u8 n]] h')
 (∃ (n_1 : Int),
 hcells h' id 1 1 = some [V.i IntKind.i64 n_1] ∧
 ∃ (h : Heap),
 hstore h' id 1 [V.i IntKind.i64 (IntKind.i64.wrap (n_1 + 1))] = some h ∧
 Con Try.Y 121 [V.p (some (id, 0))] h fun (v : V) (h' : Heap) =>
 ∃ (n_2 : Int),
 v = V.i IntKind.u8 n_2 ∧
 ∃ (b : Bool),
 hcells h' id 2 1 = some [V.b b] ∧
 If (!b)
 (If (ltI n_2 n)
 (∃ (h : Heap),
 hstore h' id 2 [V.b true] = some h ∧
 ∃ (n_3 : Int),
 hcells h id 1 1 = some [V.i IntKind.i64 n_3] ∧
 ∃ (h_1 : Heap),
 hstore h id 1 [V.i IntKind.i64 (IntKind.i64.wrap (n_3 - 1))] =
 some h_1 ∧
 K Out.ret 53 [V.lb [V.i IntKind.u8 n, V.i IntKind.u8 n_2]] h_1)
 (K Out.ret 53 [V.lb [V.i IntKind.u8 n, V.i IntKind.u8 n_2]] h'))
 (K Out.ret 53 [V.lb [V.i IntKind.u8 n, V.i IntKind.u8 n_2]] h')))) := by kernel_rfl
theorem f91_0 (id : Nat) (h : Heap) (K : Out → Nat → List V → Heap → Prop) : (codeP Try.Y (Try.Y.loc 91) 100 (pre (flat (bodyOf Try.f91))) ⟨(V.p (some (id, 0)) :: List.replicate 28 .undef), [], h⟩ (VQ [0, 3] K)) =
  (K Out.normal 29 [V.p (some (id, 0)), V.sl none 0 (some 0) 0] h) := by kernel_rfl
theorem f91_1 (id : Nat) (a3 : Option (Nat × Nat)) (l3 : Nat) (c3 : Option Nat) (k3 : Nat) (h : Heap) (K : Out → Nat → List V → Heap → Prop) : (codeP Try.Y (Try.Y.loc 91) 100 ((flat (loopB (post (flat (bodyOf Try.f91)))))) ⟨mk 29 (([0, 3] : List Nat).zip [V.p (some (id, 0)), V.sl a3 l3 c3 k3]), [], h⟩ (VQ [0, 2, 3] K)) =
  (If ((↑l3 : Int) == 0)
  (Con Try.Y 113 [V.p (some (id, 0))] h fun (v : V) (h' : Heap) =>
 ∃ (n : Int),
 ∃ (n_1 : Int),
 v = V.agg [V.i IntKind.u8 n, V.i IntKind.u8 n_1] ∧
 ∃ (a : Option (Nat × Nat)),
 ∃ (l : Nat),
 ∃ (c : Option Nat),
 ∃ (k : Nat),
 ∃ (h : Heap),
 appendH Try.Y h' 75 75 (V.sl a3 l3 c3 k3) (V.ts [V.i IntKind.u8 n, V.i IntKind.u8 n_1] 1 (some 1)) =
 some (V.sl a l c k, h) ∧
 ∃ (b : Bool),
 hcells h id 2 1 = some [V.b b] ∧
 If b (K Out.ret 29 [V.p (some (id, 0)), V.sl none 0 (some 0) 0, V.sl a l c k] h)
 (K Out.normal 29 [V.p (some (id, 0)), V.undef, V.sl a l c k] h))
  (∃ (b : Bool),
 (∃ (h1 : Heap),
 (Con Try.Y 112 [V.p (some (id, 0)), V.i IntKind.u8 93] h fun (v : V) (h' : Heap) => v = V.b b ∧ h' = h1) ∧
 (∀ (i : Nat), i < h.nx → h1.get i = h.get i) ∧ ∀ (p : Nat × TypeId), List.Mem p h.tg → List.Mem p h1.tg) ∧
 If (!b)
 (Con Try.Y 113 [V.p (some (id, 0))] h fun (v : V) (h' : Heap) =>
 ∃ (n : Int),
 ∃ (n_1 : Int),
 v = V.agg [V.i IntKind.u8 n, V.i IntKind.u8 n_1] ∧
 ∃ (a : Option (Nat × Nat)),
 ∃ (l : Nat),
 ∃ (c : Option Nat),
 ∃ (k : Nat),
 ∃ (h : Heap),
 appendH Try.Y h' 75 75 (V.sl a3 l3 c3 k3)
 (V.ts [V.i IntKind.u8 n, V.i IntKind.u8 n_1] 1 (some 1)) =
 some (V.sl a l c k, h) ∧
 ∃ (b : Bool),
 hcells h id 2 1 = some [V.b b] ∧
 If b (K Out.ret 29 [V.p (some (id, 0)), V.sl none 0 (some 0) 0, V.sl a l c k] h)
 (K Out.normal 29 [V.p (some (id, 0)), V.undef, V.sl a l c k] h))
 (K (Out.exit 0) 29 [V.p (some (id, 0)), V.undef, V.sl a3 l3 c3 k3] h))) := by kernel_rfl
theorem f91_2 (id : Nat) (a3 : Option (Nat × Nat)) (l3 : Nat) (c3 : Option Nat) (k3 : Nat) (h : Heap) (K : Out → Nat → List V → Heap → Prop) : (codeP Try.Y (Try.Y.loc 91) 100 (((post (flat (bodyOf Try.f91))).drop 1)) ⟨mk 29 (([0, 3] : List Nat).zip [V.p (some (id, 0)), V.sl a3 l3 c3 k3]), [], h⟩ (VQ [2] K)) =
  (∃ (n : Int),
  hcells h id 1 1 = some [V.i IntKind.i64 n] ∧
 ∃ (h_1 : Heap),
 hstore h id 1 [V.i IntKind.i64 (IntKind.i64.wrap (n + 1))] = some h_1 ∧ K Out.ret 29 [V.sl a3 l3 c3 k3] h_1) := by kernel_rfl
theorem f48_0 (id : Nat) (h : Heap) (K : Out → Nat → List V → Heap → Prop) : (codeP Try.Y (Try.Y.loc 48) 100 ((flat (bodyOf Try.f48))) ⟨(V.p (some (id, 0)) :: List.replicate 24 .undef), [], h⟩ (VQ [2] K)) =
  (Con Try.Y 90 [V.p (some (id, 0))] h fun (v : V) (h' : Heap) =>
  ∃ (n : Int),
 v = V.i IntKind.u8 n ∧
 If (n == 42) (K Out.ret 25 [V.lb [V.i IntKind.i64 2, V.i IntKind.u8 0, V.sl none 0 (some 0) 0]] h')
 (If (n == 63) (K Out.ret 25 [V.lb [V.i IntKind.i64 1, V.i IntKind.u8 0, V.sl none 0 (some 0) 0]] h')
 (If (n == 91)
 (Con Try.Y 91 [V.p (some (id, 0))] h' fun (v : V) (h' : Heap) =>
 ∃ (cs : List V),
 ∃ (l : Nat),
 ∃ (c : Option Nat),
 v = V.ts cs l c ∧ K Out.ret 25 [V.lb [V.i IntKind.i64 3, V.i IntKind.u8 0, V.ts cs l c]] h')
 (If (n == 92)
 (Con Try.Y 90 [V.p (some (id, 0))] h' fun (v : V) (h' : Heap) =>
 ∃ (n : Int),
 v = V.i IntKind.u8 n ∧
 K Out.ret 25 [V.lb [V.i IntKind.i64 0, V.i IntKind.u8 n, V.sl none 0 (some 0) 0]] h')
 (K Out.ret 25 [V.lb [V.i IntKind.i64 0, V.i IntKind.u8 n, V.sl none 0 (some 0) 0]] h'))))) := by kernel_rfl
end Go.Y

/- The pattern's reader, by contracts. -/
namespace Go.Y
open Go.Proofs
set_option maxRecDepth 100000

structure Rd (h : Heap) (id : Nat) (s : List UInt8) (i : Nat) (b : Bool) : Prop where
  get : h.get id = some (.arr [.s s, .i .i64 (i : Nat), .b b] true)
  lt : id < h.nx

section
variable {h : Heap} {id : Nat} {s : List UInt8} {i : Nat} {b : Bool}
theorem Rd.c0 (r : Rd h id s i b) : hcells h id 0 1 = some [.s s] := by simp [hcells, r.get, takeX]
theorem Rd.c1 (r : Rd h id s i b) : hcells h id 1 1 = some [.i .i64 (i : Nat)] := by simp [hcells, r.get, takeX]
theorem Rd.c2 (r : Rd h id s i b) : hcells h id 2 1 = some [.b b] := by simp [hcells, r.get, takeX]
theorem Rd.s1 (r : Rd h id s i b) (j : Nat) : ∃ h1, hstore h id 1 [.i .i64 (j : Nat)] = some h1 ∧ Rd h1 id s j b ∧ FrO h id h1 := by
  refine ⟨h.set id (some (.arr [.s s, .i .i64 (j : Nat), .b b] true)), ?_, ⟨by simp, r.lt⟩, .set _ _ _⟩
  simp [hstore, r.get, splice]
theorem Rd.s2 (r : Rd h id s i b) (c : Bool) : ∃ h1, hstore h id 2 [.b c] = some h1 ∧ Rd h1 id s i c ∧ FrO h id h1 := by
  refine ⟨h.set id (some (.arr [.s s, .i .i64 (i : Nat), .b c] true)), ?_, ⟨by simp, r.lt⟩, .set _ _ _⟩
  simp [hstore, r.get, splice]
end

/-- What a call leaves: a value, the reader, and the rest of memory. -/
def RdQ (h : Heap) (id : Nat) (s : List UInt8) (v0 : V) (j : Nat) (c : Bool) (v : V) (h' : Heap) : Prop := v = v0 ∧ Rd h' id s j c ∧ FrO h id h'

theorem next_con {h : Heap} {id : Nat} {s : List UInt8} {i : Nat} {b : Bool} (r : Rd h id s i b) (hs : s.length < 2 ^ 30) (hi : i ≤ s.length) :
    Con Try.Y 90 [.p (some (id, 0))] h (RdQ h id s (.i .u8 (nextS s i b).1) (nextS s i b).2.1 (nextS s i b).2.2) := by
  refine conz_of Try.Yok (fn := Try.f90) (by kernel_rfl) (by kernel_rfl) (end_rule Try.Yok (loc := Try.Y.loc 90) 100 [2] ?_)
  rw [show (⟨[.p (some (id, 0))] ++ List.replicate (Try.f90.ntmps - [V.p (some (id, 0))].length) .undef, [], h⟩ : St) = ⟨.p (some (id, 0)) :: List.replicate 32 .undef, [], h⟩ by rfl, f90_0]
  refine ⟨_, r.c1, _, r.c0, if_le (fun hle => ?_) (fun hlt => ?_)⟩
  · have : s[i]? = none := List.getElem?_eq_none (by omega)
    obtain ⟨h1, g1, g2, g3⟩ := r.s2 true
    refine ⟨h1, g1, finC (.inr rfl) rfl (.now ⟨?_, ?_, g3⟩)⟩
    · simp [nextS, this, V.plain]
    · simpa [nextS, this] using g2
  · have hlt' : i < s.length := by omega
    obtain ⟨h1, g1, g2, g3⟩ := r.s1 (i + 1)
    refine ⟨_, r.c1, h1, by rw [wrap_succ (by omega)]; exact g1, _, g2.c0, _, g2.c1, s[i], ?_, finC (.inr rfl) rfl (.now ⟨?_, ?_, g3⟩)⟩
    · rw [wrap_ok (by omega) (by omega)]
      refine ⟨by omega, ?_⟩
      rw [show (((i + 1 : Nat) : Int) - 1).toNat = i by omega]
      simp [hlt']
    · simp [nextS, hlt', V.plain]
    · simpa [nextS, hlt'] using g2

theorem peek_con {h : Heap} {id : Nat} {s : List UInt8} {i : Nat} {b : Bool} (r : Rd h id s i b) (c : UInt8) :
    RCon Try.Y 112 [.p (some (id, 0)), .i .u8 (c.toNat : Nat)] h (.b (s[i]? == some c)) := by
  refine ⟨h, ?_, fun _ _ => rfl, fun _ h => h⟩
  refine conz_of Try.Yok (fn := Try.f112) (by kernel_rfl) (by kernel_rfl) (end_rule Try.Yok (loc := Try.Y.loc 112) 100 [4] ?_)
  rw [show (⟨[.p (some (id, 0)), .i .u8 (c.toNat : Nat)] ++ List.replicate (Try.f112.ntmps - [V.p (some (id, 0)), .i .u8 (c.toNat : Nat)].length) .undef, [], h⟩ : St) = ⟨.p (some (id, 0)) :: .i .u8 (c.toNat : Nat) :: List.replicate 26 .undef, [], h⟩ by rfl, f112_0]
  refine ⟨_, r.c1, _, r.c0, if_lt (fun hlt => ?_) (fun hge => ?_)⟩
  · have hlt' : i < s.length := by omega
    refine ⟨_, r.c0, _, r.c1, s[i], ⟨by omega, by simp [hlt']⟩, finC (.inr rfl) rfl (.now ⟨?_, rfl⟩)⟩
    rw [u8_eq]; simp [hlt', V.plain]
  · have : s[i]? = none := List.getElem?_eq_none (by omega)
    refine finC (.inr rfl) rfl (.now ⟨?_, rfl⟩)
    simp [this, V.plain]

/-- What 'end' leaves, by what the place comes to. -/
def endQ (r : Except Nat (Int × Nat)) (h : Heap) (id : Nat) (s : List UInt8) (b : Bool) (v : V) (h' : Heap) : Prop := match r with
  | .error e => ∃ n, v = .i .u8 n ∧ Rd h' id s e true ∧ FrO h id h'
  | .ok (c, j) => v = .i .u8 c ∧ Rd h' id s j b ∧ FrO h id h'

theorem end_con {h : Heap} {id : Nat} {s : List UInt8} {i : Nat} (r : Rd h id s i false) (hs : s.length < 2 ^ 30) (hi : i ≤ s.length) :
    Con Try.Y 121 [.p (some (id, 0))] h (endQ (endS s i) h id s false) := by
  refine conz_of Try.Yok (fn := Try.f121) (by kernel_rfl) (by kernel_rfl) (end_rule Try.Yok (loc := Try.Y.loc 121) 100 [2] ?_)
  rw [show (⟨[.p (some (id, 0))] ++ List.replicate (Try.f121.ntmps - [V.p (some (id, 0))].length) .undef, [], h⟩ : St) = ⟨.p (some (id, 0)) :: List.replicate 26 .undef, [], h⟩ by rfl, f121_0]
  have bad : (s[i]? = none ∨ s[i]? = some 93 ∨ s[i]? = some 45) → endS s i = .error i := by
    rintro (h | h | h) <;> simp [endS, h]
  have fail : (s[i]? = none ∨ s[i]? = some 93 ∨ s[i]? = some 45) → ∃ h1, hstore h id 2 [.b true] = some h1 ∧ Fin Try.Y Try.f121 [2] (AfterZ (endQ (endS s i) h id s false)) .ret 27 [.i .u8 0] h1 := by
    intro hb
    obtain ⟨h1, g1, g2, g3⟩ := r.s2 true
    refine ⟨h1, g1, finC (.inr rfl) rfl (.now ?_)⟩
    rw [bad hb]
    exact ⟨0, rfl, g2, g3⟩
  refine ⟨_, peek_con r 93, if_mk (fun hc => fail (.inr (.inl (by simpa using hc)))) (fun hc1 => ?_)⟩
  refine ⟨_, peek_con r 45, if_mk (fun hc => fail (.inr (.inr (by simpa using hc)))) (fun hc2 => ?_)⟩
  refine (next_con r hs hi).mono fun v h' ⟨hv, g1, g2⟩ => ⟨_, hv, ?_⟩
  cases hsi : s[i]? with
  | none =>
    simp only [nextS, hsi] at g1 ⊢
    refine if_mk (fun hc => by simp at hc) (fun _ => finC (.inr rfl) rfl (.now ?_))
    rw [bad (.inl hsi)]
    exact ⟨0, rfl, g1, g2⟩
  | some c =>
    rw [hsi] at hc1 hc2
    have n1 : c ≠ 93 := by simpa using hc1
    have n2 : c ≠ 45 := by simpa using hc2
    simp only [nextS, hsi] at g1 ⊢
    have hlt := (List.getElem?_eq_some_iff.1 hsi).1
    rw [show (92 : Int) = (((92 : UInt8).toNat : Nat) : Int) by decide, u8_eq]
    refine if_mk (fun hc => ?_) (fun hc => ?_)
    · have hc : c = 92 := by simpa using hc
      refine ⟨_, g1.c2, ?_⟩
      show Con Try.Y 90 [.p (some (id, 0))] h' _
      refine (next_con g1 hs (by omega)).mono fun v h2 ⟨hv, q1, q2⟩ => ⟨_, hv, finC (.inr rfl) rfl (.now ?_)⟩
      subst hc
      cases hs2 : s[i + 1]? with
      | none =>
        simp only [nextS, hs2] at q1 ⊢
        simp only [endS, hsi, hs2]
        exact ⟨0, rfl, q1, g2.trans q2⟩
      | some d =>
        simp only [nextS, hs2] at q1 ⊢
        simp only [endS, hsi, hs2]
        exact ⟨rfl, q1, g2.trans q2⟩
    · have hc : c ≠ 92 := by simpa using hc
      refine finC (.inr rfl) rfl (.now ?_)
      simp only [endS, hsi, n1, n2, hc, or_self, if_false]
      exact ⟨rfl, g1, g2⟩
end Go.Y

/- Sets and pieces of patterns, by contracts. -/
namespace Go.Y
open Go.Proofs
set_option maxRecDepth 100000

def itemQ (r : Except Nat (Span × Nat)) (h : Heap) (id : Nat) (s : List UInt8) (v : V) (h' : Heap) : Prop := match r with
  | .error e => ∃ x : Span, v = .agg (encS x) ∧ Rd h' id s e true ∧ FrO h id h'
  | .ok (x, j) => v = .agg (encS x) ∧ Rd h' id s j false ∧ FrO h id h'

theorem item_con {h : Heap} {id : Nat} {s : List UInt8} {i : Nat} (r : Rd h id s i false) (hs : s.length < 2 ^ 30) (hi : i ≤ s.length) :
    Con Try.Y 113 [.p (some (id, 0))] h (itemQ (itemS s i) h id s) := by
  refine conz_of Try.Yok (fn := Try.f113) (by kernel_rfl) (by kernel_rfl) (end_rule Try.Yok (loc := Try.Y.loc 113) 100 [2] ?_)
  rw [show (⟨[.p (some (id, 0))] ++ List.replicate (Try.f113.ntmps - [V.p (some (id, 0))].length) .undef, [], h⟩ : St) = ⟨.p (some (id, 0)) :: List.replicate 52 .undef, [], h⟩ by rfl, f113_0]
  refine (end_con r hs hi).mono fun v h1 hq => ?_
  cases he : endS s i with
  | error e =>
    rw [he] at hq
    obtain ⟨n, hv, g1, g2⟩ := hq
    refine ⟨n, hv, _, g1.c2, if_mk (fun _ => finC (.inr rfl) rfl (.now ?_)) (fun hc => by cases hc)⟩
    simp only [itemS, he]
    exact ⟨⟨n, n⟩, rfl, g1, g2⟩
  | ok x =>
    obtain ⟨lo, j⟩ := x
    rw [he] at hq
    obtain ⟨hv, g1, g2⟩ := hq
    have hj := endS_ok he
    refine ⟨lo, hv, _, g1.c2, if_mk (fun hc => by cases hc) (fun _ => ?_)⟩
    refine ⟨_, peek_con g1 45, if_mk (fun hc => ?_) (fun hc => ?_)⟩
    · have hne : ¬ (s[j]? = some 45) := by simpa using hc
      refine finC (.inr rfl) rfl (.now ?_)
      simp only [itemS, he, hne, if_false]
      exact ⟨rfl, g1, g2⟩
    · have heq : s[j]? = some 45 := by simpa using hc
      have hjl := (List.getElem?_eq_some_iff.1 heq).1
      obtain ⟨h2, q1, q2, q3⟩ := g1.s1 (j + 1)
      refine ⟨_, g1.c1, h2, by rw [wrap_succ (by omega)]; exact q1, ?_⟩
      refine (end_con q2 hs (by omega)).mono fun v h3 hq => ?_
      have g23 := g2.trans q3
      cases he2 : endS s (j + 1) with
      | error e =>
        rw [he2] at hq
        obtain ⟨n, hv2, p1, p2⟩ := hq
        refine ⟨n, hv2, _, p1.c2, if_mk (fun hc => by cases hc) (fun _ => finC (.inr rfl) rfl (.now ?_))⟩
        simp only [itemS, he, heq, if_true, he2]
        exact ⟨⟨lo, n⟩, rfl, p1, g23.trans p2⟩
      | ok y =>
        obtain ⟨hi2, k⟩ := y
        rw [he2] at hq
        obtain ⟨hv2, p1, p2⟩ := hq
        have hk := endS_ok he2
        refine ⟨hi2, hv2, _, p1.c2, if_mk (fun _ => if_lt (fun hlt => ?_) (fun hge => ?_)) (fun hc => by cases hc)⟩
        · obtain ⟨h4, u1, u2, u3⟩ := p1.s2 true
          obtain ⟨h5, w1, w2, w3⟩ := u2.s1 (k - 1)
          refine ⟨h4, u1, _, u2.c1, h5, by rw [wrap_ok (by omega) (by omega), show ((k : Int) - 1) = ((k - 1 : Nat) : Int) by omega]; exact w1, finC (.inr rfl) rfl (.now ?_)⟩
          simp only [itemS, he, heq, if_true, he2, hlt]
          exact ⟨⟨lo, hi2⟩, rfl, w2, ((g23.trans p2).trans u3).trans w3⟩
        · refine finC (.inr rfl) rfl (.now ?_)
          have hn : ¬ hi2 < lo := by omega
          simp only [itemS, he, heq, if_true, he2, hn, if_false]
          exact ⟨rfl, p1, g23.trans p2⟩

/-- What 'set' leaves. -/
def setQ (r : Except Nat (List Span × Nat)) (h : Heap) (id : Nat) (s : List UInt8) (v : V) (h' : Heap) : Prop := match r with
  | .error e => v = lst encS [] ∧ Rd h' id s e true ∧ FrO h id h'
  | .ok (l, j) => v = lst encS l ∧ Rd h' id s j false ∧ FrO h id h'

def SetI (h0 : Heap) (id : Nat) (s : List UInt8) (R : Except Nat (List Span × Nat)) (m : Nat) (vs : List V) (h : Heap) : Prop :=
  ∃ (i : Nat) (out : List Span) (a : Option (Nat × Nat)) (l : Nat) (c : Option Nat) (k : Nat), vs = [.p (some (id, 0)), .sl a l c k] ∧ Lst encS 2 h a l c k out ∧ (∀ j, a = some (j, 0) → h0.nx ≤ j) ∧
    Rd h id s i false ∧ FrO h0 id h ∧ i ≤ s.length ∧ out.length ≤ i ∧ s.length - i < m ∧ setS m s i out = R

theorem span_app {h : Heap} {a : Option (Nat × Nat)} {l : Nat} {c : Option Nat} {kk : Nat} {out : List Span} (x : Span) (hl : Lst encS 2 h a l c kk out) (hb : out.length < 2 ^ 29) :
    ∃ a' l' c' k' h', appendH Try.Y h 75 75 (.sl a l c kk) (.ts (encS x) 1 (some 1)) = some (.sl a' l' c' k', h') ∧ Lst encS 2 h' a' l' c' k' (out ++ [x]) ∧ Fr h a h' ∧ ∃ j, a' = some (j, 0) ∧ h.nx ≤ j :=
  Lst.app1 (Y := Try.Y) (e := 82) (te := ⟨2, 2, .struct [(0, 5), (1, 5)], [.i .u8 0, .i .u8 0]⟩) x (by kernel_rfl) (by kernel_rfl) rfl (by decide) hl (colds1_ok _ rfl) rfl rfl rfl (by decide) hb

theorem set_con {h : Heap} {id : Nat} {s : List UInt8} {i : Nat} (r : Rd h id s i false) (hs : s.length < 2 ^ 28) (hi : i ≤ s.length) :
    Con Try.Y 91 [.p (some (id, 0))] h (setQ (setS (s.length + 1) s i []) h id s) := by
  refine conz_of Try.Yok (fn := Try.f91) (by kernel_rfl) (by kernel_rfl) ?_
  refine pre_rule Try.Yok (n := 29) (loc := Try.Y.loc 91) 100 [0, 3] (by kernel_rfl) ?_
  rw [show (⟨[.p (some (id, 0))] ++ List.replicate (Try.f91.ntmps - [V.p (some (id, 0))].length) .undef, [], h⟩ : St) = ⟨.p (some (id, 0)) :: List.replicate 28 .undef, [], h⟩ by rfl, f91_0]
  generalize hR : setS (s.length + 1) s i [] = R
  refine ⟨rfl, loop2 [0, 3] [0, 2, 3] rfl (by kernel_rfl) (SetI h id s R) (s.length + 1) mk_len ⟨i, [], none, 0, some 0, 0, rfl, Lst.nil _ _ _ _ _, by simp, r, .refl _ _, hi, by simp, by omega, hR⟩ ?_⟩
  rintro m vs h1 ⟨i, out, a, l, c, k, rfl, hL, hnew, hr, hfr, hi, hol, hm, hg⟩
  refine all_rule Try.Yok (loc := Try.Y.loc 91) 100 [0, 2, 3] ?_
  rw [f91_1]
  obtain ⟨m, rfl⟩ : ∃ m', m = m' + 1 := ⟨m - 1, by omega⟩
  have hll := hL.len
  -- an item
  have item : ∀ (K : Out → Nat → List V → Heap → Prop), K = RoundW Try.Y 29 [0, 2, 3] [0, 3] (SetI h id s R) (m + 1) (loopId (post (flat (bodyOf Try.f91)))) ((post (flat (bodyOf Try.f91))).drop 1) (FinS Try.Y Try.f91 (AfterZ (setQ R h id s))) →
      ¬ (out ≠ [] ∧ s[i]? = some 93) → Con Try.Y 113 [.p (some (id, 0))] h1 fun v h' => ∃ n n_1, v = .agg [.i .u8 n, .i .u8 n_1] ∧ ∃ a' l' c' k' h'', appendH Try.Y h' 75 75 (.sl a l c k) (.ts [.i .u8 n, .i .u8 n_1] 1 (some 1)) = some (.sl a' l' c' k', h'') ∧
      ∃ b : Bool, hcells h'' id 2 1 = some [.b b] ∧ If b (K .ret 29 [.p (some (id, 0)), .sl none 0 (some 0) 0, .sl a' l' c' k'] h'') (K .normal 29 [.p (some (id, 0)), .undef, .sl a' l' c' k'] h'') := by
    rintro K rfl hn
    refine (item_con hr (by omega) hi).mono fun v h2 hq => ?_
    have hkeep : FrO h1 id h2 → ∀ j, a = some (j, 0) → j < h1.nx → h2.get j = h1.get j := fun f j hj hl => f.2 j hl (fun e => by have := hnew j hj; have := r.lt; omega)
    have hne : ∀ o, a ≠ some (id, o) := by
      intro o ho
      have h0 := hL.off ho
      subst h0
      have := hnew id ho
      have := r.lt
      omega
    simp only [setS, hn, if_false] at hg
    cases he : itemS s i with
    | error e =>
      rw [he] at hq hg
      obtain ⟨x, rfl, g1, g2⟩ := hq
      obtain ⟨a', l', c', k', h3, q1, q2, q3, j, q4, q5⟩ := span_app x (hL.fr g2.1 (hkeep g2)) (by omega)
      have g1' : Rd h3 id s e true := ⟨by rw [q3.2 id g1.lt hne]; exact g1.get, Nat.lt_of_lt_of_le g1.lt q3.1⟩
      refine ⟨_, _, rfl, a', l', c', k', h3, q1, true, g1'.c2, ?_⟩
      refine fin_at (.inr rfl) rfl ?_
      subst hg
      refine ⟨[], _, .inl (.frz _ _ (.sln _ _ none (fun x hx => by cases hx))), rfl, g1', ?_⟩
      exact (hfr.trans g2).app (hL.fr g2.1 (hkeep g2)) hnew q3
    | ok y =>
      obtain ⟨x, j⟩ := y
      rw [he] at hq hg
      have hj := itemS_ok he
      obtain ⟨rfl, g1, g2⟩ := hq
      obtain ⟨a', l', c', k', h3, q1, q2, q3, jj, q4, q5⟩ := span_app x (hL.fr g2.1 (hkeep g2)) (by omega)
      have g1' : Rd h3 id s j false := ⟨by rw [q3.2 id g1.lt hne]; exact g1.get, Nat.lt_of_lt_of_le g1.lt q3.1⟩
      refine ⟨_, _, rfl, a', l', c', k', h3, q1, false, g1'.c2, rfl, m, by omega, j, out ++ [x], a', l', c', k', rfl, q2, ?_, g1', ?_, hj.2, by simp; omega, by omega, hg⟩
      · intro j' hj'; rw [q4] at hj'; cases hj'
        have := (hfr.trans g2).1
        omega
      · exact (hfr.trans g2).app (hL.fr g2.1 (hkeep g2)) hnew q3
  refine if_mk (fun hc => item _ rfl ?_) (fun hc => ?_)
  · rintro ⟨h1, _⟩
    have : out.length = 0 := by rw [← hll]; simpa using hc
    exact h1 (List.eq_nil_of_length_eq_zero this)
  · have hne : out ≠ [] := by
      intro he; subst he; rw [hll] at hc; simp at hc
    refine ⟨_, peek_con hr 93, if_mk (fun hc2 => item _ rfl ?_) (fun hc2 => ?_)⟩
    · rintro ⟨_, h1⟩; rw [h1] at hc2; simp at hc2
    · have h93 : s[i]? = some 93 := by simpa using hc2
      have hil := (List.getElem?_eq_some_iff.1 h93).1
      simp only [setS, hne, h93, ne_eq, not_false_eq_true, and_self, if_true] at hg
      refine roundW_exit [0, 3] (by kernel_rfl) rfl rfl ?_
      refine end_rule Try.Yok (loc := Try.Y.loc 91) 100 [2] ?_
      rw [show pick [0, 2, 3] [0, 3] [V.p (some (id, 0)), V.undef, V.sl a l c k] = [V.p (some (id, 0)), V.sl a l c k] by rfl, f91_2]
      obtain ⟨h2, q1, q2, q3⟩ := hr.s1 (i + 1)
      refine ⟨_, hr.c1, h2, by rw [wrap_succ (by omega)]; exact q1, finC (.inr rfl) rfl ?_⟩
      subst hg
      have hL2 := hL.fr (h' := h2) q3.1 (fun j hj hl => q3.2 j hl (fun e => by have := hnew j hj; have := r.lt; omega))
      obtain ⟨D, hz, hD⟩ := hL2.afterZ (by decide) encS_len
      have hDn : ∀ j, j ∈ D → h.nx ≤ j := fun j hj => hnew j (hD j hj)
      refine ⟨D, _, .inl (.frz _ _ hz), rfl, ⟨?_, by rw [killD_nx]; exact q2.lt⟩, ?_⟩
      · rw [killD_get, if_neg (fun hm => by have := hDn id hm; have := r.lt; omega)]; exact q2.get
      · have f := hfr.trans q3
        exact ⟨by rw [killD_nx]; exact f.1, fun j hj hn => by rw [killD_get, if_neg (fun hm => by have := hDn j hm; omega)]; exact f.2 j hj hn⟩
end Go.Y
