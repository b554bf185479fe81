import Derived.Test.YtpddiafjmkjpmaaYTryP
import Derived.Test.YtpddiafjmkjpmaaYLoop
import Derived.Test.YtpddiafjmkjpmaaYRow
namespace Go.Y
open Go.Proofs
set_option maxRecDepth 100000
set_option maxHeartbeats 0
theorem cl54_0 (c : Option Nat) (k : Nat) (h : Heap) (K : Out → Nat → List V → Heap → Prop) : (codeP Try.Y (Try.Y.loc 54) 100 ((flat (bodyOf Try.f54))) ⟨(V.sl none 0 c k :: List.replicate 7 .undef), [], h⟩ (VQ [2] K)) =
  (K Out.ret 8 [V.sl none 0 (some 0) 0] h) := by kernel_rfl
theorem cl54_1 (cs : List V) (n : Nat) (c : Option Nat) (h : Heap) (K : Out → Nat → List V → Heap → Prop) : (codeP Try.Y (Try.Y.loc 54) 100 ((flat (bodyOf Try.f54))) ⟨(V.ts cs n c :: List.replicate 7 .undef), [], h⟩ (VQ [2] K)) =
  ((n = 0 → K Out.ret 8 [V.sl none 0 (some 0) 0] h) ∧
  ((∃ (a : Option (Nat × Nat)),
      ∃ (l : Nat),
        ∃ (c_1 : Option Nat),
          ∃ (k : Nat),
            ∃ (h_1 : Heap),
              appendH Try.Y h 41 41 (V.ts [] 0 (some 0)) (V.ts cs n c) = some (V.sl a l c_1 k, h_1) ∧
                K Out.ret 8 [V.sl a l c_1 k] h_1) ∨
    appendH Try.Y h 41 41 (V.ts [] 0 (some 0)) (V.ts cs n c) = some (V.ts [] 0 (some 0), h) ∧
      K Out.ret 8 [V.ts [] 0 (some 0)] h)) := by kernel_rfl
theorem cl79_0 (c : Option Nat) (k : Nat) (h : Heap) (K : Out → Nat → List V → Heap → Prop) : (codeP Try.Y (Try.Y.loc 79) 100 ((flat (bodyOf Try.f79))) ⟨(V.sl none 0 c k :: List.replicate 7 .undef), [], h⟩ (VQ [2] K)) =
  (K Out.ret 8 [V.sl none 0 (some 0) 0] h) := by kernel_rfl
theorem cl79_1 (cs : List V) (n : Nat) (c : Option Nat) (h : Heap) (K : Out → Nat → List V → Heap → Prop) : (codeP Try.Y (Try.Y.loc 79) 100 ((flat (bodyOf Try.f79))) ⟨(V.ts cs n c :: List.replicate 7 .undef), [], h⟩ (VQ [2] K)) =
  ((n = 0 → K Out.ret 8 [V.sl none 0 (some 0) 0] h) ∧
  ((∃ (a : Option (Nat × Nat)),
      ∃ (l : Nat),
        ∃ (c_1 : Option Nat),
          ∃ (k : Nat),
            ∃ (h_1 : Heap),
              appendH Try.Y h 34 34 (V.ts [] 0 (some 0)) (V.ts cs n c) = some (V.sl a l c_1 k, h_1) ∧
                K Out.ret 8 [V.sl a l c_1 k] h_1) ∨
    appendH Try.Y h 34 34 (V.ts [] 0 (some 0)) (V.ts cs n c) = some (V.ts [] 0 (some 0), h) ∧
      K Out.ret 8 [V.ts [] 0 (some 0)] h)) := by kernel_rfl
end Go.Y

/- What is known ahead: slices.Clone. -/
namespace Go.Y
open Go.Proofs
set_option maxRecDepth 100000

theorem clone54 {args : List V} {h : Heap} {v : V} {h' : Heap} (hv : cloneV 1 args h = some (v, h')) : Con Try.Y 54 args h fun v' k' => v' = v ∧ k' = h' :=
  clone_con Try.Yok (fn := Try.f54) (by kernel_rfl) (by kernel_rfl) (st := 41) (e := 3) (te := ⟨1, 8, .int .i64, [.i .i64 0]⟩) (k := 1) (by kernel_rfl) (by kernel_rfl) rfl (by decide) (by decide)
    (fun c k h K hk => all_rule Try.Yok (loc := Try.Y.loc 54) 100 [2] (by rw [show (⟨[V.sl none 0 c k] ++ List.replicate (Try.f54.ntmps - 1) .undef, [], h⟩ : St) = ⟨V.sl none 0 c k :: List.replicate 7 .undef, [], h⟩ by rfl, cl54_0]; exact hk))
    (fun cs n c h K hk => all_rule Try.Yok (loc := Try.Y.loc 54) 100 [2] (by rw [show (⟨[V.ts cs n c] ++ List.replicate (Try.f54.ntmps - 1) .undef, [], h⟩ : St) = ⟨V.ts cs n c :: List.replicate 7 .undef, [], h⟩ by rfl, cl54_1]; exact hk))
    (by kernel_rfl) hv
theorem clone79 {args : List V} {h : Heap} {v : V} {h' : Heap} (hv : cloneV 1 args h = some (v, h')) : Con Try.Y 79 args h fun v' k' => v' = v ∧ k' = h' :=
  clone_con Try.Yok (fn := Try.f79) (by kernel_rfl) (by kernel_rfl) (st := 34) (e := 9) (te := ⟨1, 16, .str, [.s []]⟩) (k := 1) (by kernel_rfl) (by kernel_rfl) rfl (by decide) (by decide)
    (fun c k h K hk => all_rule Try.Yok (loc := Try.Y.loc 79) 100 [2] (by rw [show (⟨[V.sl none 0 c k] ++ List.replicate (Try.f79.ntmps - 1) .undef, [], h⟩ : St) = ⟨V.sl none 0 c k :: List.replicate 7 .undef, [], h⟩ by rfl, cl79_0]; exact hk))
    (fun cs n c h K hk => all_rule Try.Yok (loc := Try.Y.loc 79) 100 [2] (by rw [show (⟨[V.ts cs n c] ++ List.replicate (Try.f79.ntmps - 1) .undef, [], h⟩ : St) = ⟨V.ts cs n c :: List.replicate 7 .undef, [], h⟩ by rfl, cl79_1]; exact hk))
    (by kernel_rfl) hv

def Try.kn (f : FuncId) (args : List V) (h : Heap) : Option (V × Heap) := match f with
  | 54 | 79 => cloneV 1 args h
  | _ => none

theorem alV_clone {args : List V} {h : Heap} {v : V} {x : YObj} (ha : alV args h = some (v, x)) : cloneV 1 args h = some (v, h.push x) := by
  unfold alV at ha
  split at ha
  · rename_i cs n c h
    simp only [cloneV, Nat.mul_one]
    split at ha
    · rename_i c hc
      split at ha
      · rename_i hcond
        simp only [Option.some.injEq, Prod.mk.injEq] at ha
        obtain ⟨rfl, rfl⟩ := ha
        rw [hc]
        simp only [hcond, and_self, if_true]
      · cases ha
    · cases ha
  · cases ha
theorem Try.mode5 {f : Nat} (h : Try.Y.mode f = 5) : f = 54 ∨ f = 79 := by
  have hall : (Try.modes.zipIdx.all fun p => p.1 != 5 || p.2 == 54 || p.2 == 79) = true := by kernel_rfl
  have h1 : Try.modes[f]? = some 5 := by
    have h2 : Try.modes.getD f 0 = 5 := h
    rw [List.getD_eq_getElem?_getD] at h2
    cases h3 : Try.modes[f]? with
    | none => rw [h3] at h2; cases h2
    | some m => rw [h3] at h2; exact congrArg some h2
  rw [List.all_eq_true] at hall
  have := hall (5, f) (by rw [List.mem_zipIdx_iff_getElem?]; exact h1)
  simpa using this
theorem Try.knok : KOK Try.Y Try.kn := by
  refine ⟨fun f args h v h' hv => ?_, fun f args h v x hm ha => ?_⟩
  · unfold Try.kn at hv
    split at hv
    · exact ⟨clone54 hv, clone_tame hv⟩
    · exact ⟨clone79 hv, clone_tame hv⟩
    · cases hv
  · rcases Try.mode5 hm with rfl | rfl
    · exact clone54 (alV_clone ha)
    · exact clone79 (alV_clone ha)

theorem awake03 : PCon Try.Y 12 [] (· = .b true) := callN_ok Try.Yok Try.knok (n := 200) (by kernel_rfl) rfl
theorem awake16 : PCon Try.Y 19 [] (· = .b true) := callN_ok Try.Yok Try.knok (n := 200) (by kernel_rfl) rfl
theorem awake17 : PCon Try.Y 30 [] (· = .b true) := callN_ok Try.Yok Try.knok (n := 200) (by kernel_rfl) rfl
theorem awake18 : PCon Try.Y 39 [] (· = .b true) := callN_ok Try.Yok Try.knok (n := 200) (by kernel_rfl) rfl
end Go.Y

/- What patterns come to, over lists of bytes. -/
namespace Go.Y

structure Span where
  lo : Int
  hi : Int
  deriving DecidableEq, Inhabited
structure Glob where
  k : Int
  b : Int
  sp : List Span
  deriving DecidableEq, Inhabited

abbrev encS (x : Span) : List V := [.i .u8 x.lo, .i .u8 x.hi]
abbrev encG (x : Glob) : List V := [.i .i64 x.k, .i .u8 x.b, lst encS x.sp]
theorem encS_len (x : Span) : (encS x).length = 2 := rfl
theorem encG_len (x : Glob) : (encG x).length = 3 := rfl
theorem encS_cold (x : Span) : colds1 (encS x) = true := rfl
theorem encG_cold (x : Glob) : colds1 (encG x) = true := rfl

/-- The reader's next byte. -/
def nextS (s : List UInt8) (i : Nat) (b : Bool) : Int × Nat × Bool := match s[i]? with
  | some c => (c.toNat, i + 1, b)
  | none => (0, i, true)

/-- A byte of an item, and the place behind it; or the place where it can't go on. -/
def endS (s : List UInt8) (i : Nat) : Except Nat (Int × Nat) := match s[i]? with
  | none => .error i
  | some c => if c = 93 ∨ c = 45 then .error i else if c = 92 then match s[i + 1]? with
      | none => .error (i + 1)
      | some d => .ok (d.toNat, i + 2)
    else .ok (c.toNat, i + 1)

def itemS (s : List UInt8) (i : Nat) : Except Nat (Span × Nat) := match endS s i with
  | .error e => .error e
  | .ok (lo, j) => if s[j]? = some 45 then match endS s (j + 1) with
      | .error e => .error e
      | .ok (hi, k) => if hi < lo then .error (k - 1) else .ok (⟨lo, hi⟩, k)
    else .ok (⟨lo, lo⟩, j)

def setS : Nat → List UInt8 → Nat → List Span → Except Nat (List Span × Nat)
  | 0, _, i, _ => .error i
  | n + 1, s, i, out => if out ≠ [] ∧ s[i]? = some 93 then .ok (out, i + 1) else match itemS s i with
    | .error e => .error e
    | .ok (x, j) => setS n s j (out ++ [x])

def pieceS (s : List UInt8) (i : Nat) : Except Nat (Glob × Nat) := match s[i]? with
  | none => .error i
  | some c => if c = 42 then .ok (⟨2, 0, []⟩, i + 1) else if c = 63 then .ok (⟨1, 0, []⟩, i + 1) else
    if c = 91 then match setS (s.length + 1) s (i + 1) [] with
      | .error e => .error e
      | .ok (l, j) => .ok (⟨3, 0, l⟩, j)
    else if c = 92 then match s[i + 1]? with
      | none => .error (i + 1)
      | some d => .ok (⟨0, d.toNat, []⟩, i + 2)
    else .ok (⟨0, c.toNat, []⟩, i + 1)

def parseS : Nat → List UInt8 → Nat → List Glob → Except Nat (List Glob)
  | 0, _, i, _ => .error i
  | n + 1, s, i, out => if i < s.length then match pieceS s i with
      | .error e => .error e
      | .ok (x, j) => parseS n s j (out ++ [x])
    else .ok out

theorem endS_ok {s : List UInt8} {i : Nat} {c : Int} {j : Nat} (h : endS s i = .ok (c, j)) : i < j ∧ j ≤ s.length ∧ j ≤ i + 2 := by
  unfold endS at h
  split at h
  · cases h
  · rename_i c1 h1
    have hi := (List.getElem?_eq_some_iff.1 h1).1
    split at h
    · cases h
    · split at h
      · split at h
        · cases h
        · rename_i d h2
          have hi2 := (List.getElem?_eq_some_iff.1 h2).1
          cases h
          omega
      · cases h
        omega

theorem endS_err {s : List UInt8} {i e : Nat} (hi : i ≤ s.length) (h : endS s i = .error e) : e ≤ s.length := by
  unfold endS at h
  split at h
  · cases h; exact hi
  · rename_i c1 h1
    have hi := (List.getElem?_eq_some_iff.1 h1).1
    split at h
    · cases h; omega
    · split at h
      · split at h
        · cases h; omega
        · cases h
      · cases h

theorem itemS_ok {s : List UInt8} {i : Nat} {x : Span} {j : Nat} (h : itemS s i = .ok (x, j)) : i < j ∧ j ≤ s.length := by
  unfold itemS at h
  split at h
  · cases h
  · rename_i lo k h1
    have := endS_ok h1
    split at h
    · split at h
      · cases h
      · rename_i hi k2 h2
        have := endS_ok h2
        split at h
        · cases h
        · cases h; omega
    · cases h; omega

theorem setS_ok {s : List UInt8} : ∀ {n i : Nat} {out l : List Span} {j : Nat}, setS n s i out = .ok (l, j) → i < j ∧ j ≤ s.length
  | 0, _, _, _, _, h => by cases h
  | n + 1, i, out, l, j, h => by
    simp only [setS] at h
    split at h
    · rename_i hc
      have := (List.getElem?_eq_some_iff.1 hc.2).1
      cases h; omega
    · split at h
      · cases h
      · rename_i x k h1
        have g1 := itemS_ok h1
        have g2 := setS_ok h
        omega

theorem pieceS_ok {s : List UInt8} {i : Nat} {x : Glob} {j : Nat} (h : pieceS s i = .ok (x, j)) : i < j ∧ j ≤ s.length := by
  unfold pieceS at h
  split at h
  · cases h
  · rename_i c h0
    have hi := (List.getElem?_eq_some_iff.1 h0).1
    split at h
    · cases h; omega
    · split at h
      · cases h; omega
      · split at h
        · split at h
          · cases h
          · rename_i l k h1
            have := setS_ok h1
            cases h; omega
        · split at h
          · split at h
            · cases h
            · rename_i d h1
              have := (List.getElem?_eq_some_iff.1 h1).1
              cases h; omega
          · cases h; omega
end Go.Y

/- What the pieces of functions come to: printed by program. -/
namespace Go.Y
open Go.Proofs
set_option maxRecDepth 100000
set_option maxHeartbeats 0
theorem f90_0 (id : Nat) (h : Heap) (K : Out → Nat → List V → Heap → Prop) : (codeP Try.Y (Try.Y.loc 90) 100 ((flat (bodyOf Try.f90))) ⟨(V.p (some (id, 0)) :: List.replicate 32 .undef), [], h⟩ (VQ [2] K)) =
  (∃ (n : Int),
  hcells h id 1 1 = some [V.i IntKind.i64 n] ∧
    ∃ (s : List UInt8),
      hcells h id 0 1 = some [V.s s] ∧
        If (leI (↑s.length : Int) n)
          (∃ (h_1 : Heap), hstore h id 2 [V.b true] = some h_1 ∧ K Out.ret 33 [V.i IntKind.u8 0] h_1)
          (∃ (n : Int),
            hcells h id 1 1 = some [V.i IntKind.i64 n] ∧
              ∃ (h_1 : Heap),
                hstore h id 1 [V.i IntKind.i64 (IntKind.i64.wrap (n + 1))] = some h_1 ∧
                  ∃ (s : List UInt8),
                    hcells h_1 id 0 1 = some [V.s s] ∧
                      ∃ (n : Int),
                        hcells h_1 id 1 1 = some [V.i IntKind.i64 n] ∧
                          ∃ (c : UInt8),
                            (0 ≤ IntKind.i64.wrap (n - 1) ∧ s[(IntKind.i64.wrap (n - 1)).toNat]? = some c) ∧
                              K Out.ret 33 [V.i IntKind.u8 (↑c.toNat : Int)] h_1)) := by kernel_rfl
theorem f112_0 (id : Nat) (c : Int) (h : Heap) (K : Out → Nat → List V → Heap → Prop) : (codeP Try.Y (Try.Y.loc 112) 100 ((flat (bodyOf Try.f112))) ⟨(V.p (some (id, 0)) :: V.i .u8 c :: List.replicate 26 .undef), [], h⟩ (VQ [4] K)) =
  (∃ (n : Int),
  hcells h id 1 1 = some [V.i IntKind.i64 n] ∧
    ∃ (s : List UInt8),
      hcells h id 0 1 = some [V.s s] ∧
        If (ltI n (↑s.length : Int))
          (∃ (s : List UInt8),
            hcells h id 0 1 = some [V.s s] ∧
              ∃ (n : Int),
                hcells h id 1 1 = some [V.i IntKind.i64 n] ∧
                  ∃ (c_1 : UInt8), (0 ≤ n ∧ s[n.toNat]? = some c_1) ∧ K Out.ret 28 [V.b ((↑c_1.toNat : Int) == c)] h)
          (K Out.ret 28 [V.b false] h)) := by kernel_rfl
theorem f121_0 (id : Nat) (h : Heap) (K : Out → Nat → List V → Heap → Prop) : (codeP Try.Y (Try.Y.loc 121) 100 ((flat (bodyOf Try.f121))) ⟨(V.p (some (id, 0)) :: List.replicate 26 .undef), [], h⟩ (VQ [2] K)) =
  (∃ (b : Bool),
  (∃ (h1 : Heap),
      (Con Try.Y 112 [V.p (some (id, 0)), V.i IntKind.u8 93] h fun (v : V) (h' : Heap) => v = V.b b ∧ h' = h1) ∧
        (∀ (i : Nat), i < h.nx → h1.get i = h.get i) ∧ ∀ (p : Nat × TypeId), List.Mem p h.tg → List.Mem p h1.tg) ∧
    If b (∃ (h_1 : Heap), hstore h id 2 [V.b true] = some h_1 ∧ K Out.ret 27 [V.i IntKind.u8 0] h_1)
      (∃ (b : Bool),
        (∃ (h1 : Heap),
            (Con Try.Y 112 [V.p (some (id, 0)), V.i IntKind.u8 45] h fun (v : V) (h' : Heap) => v = V.b b ∧ h' = h1) ∧
              (∀ (i : Nat), i < h.nx → h1.get i = h.get i) ∧ ∀ (p : Nat × TypeId), List.Mem p h.tg → List.Mem p h1.tg) ∧
          If b (∃ (h_1 : Heap), hstore h id 2 [V.b true] = some h_1 ∧ K Out.ret 27 [V.i IntKind.u8 0] h_1)
            (Con Try.Y 90 [V.p (some (id, 0))] h fun (v : V) (h' : Heap) =>
              ∃ (n : Int),
                v = V.i IntKind.u8 n ∧
                  If (n == 92)
                    (∃ (b : Bool),
                      hcells h' id 2 1 = some [V.b b] ∧
                        If (!b)
                          (Con Try.Y 90 [V.p (some (id, 0))] h' fun (v : V) (h' : Heap) =>
                            ∃ (n : Int), v = V.i IntKind.u8 n ∧ K Out.ret 27 [V.i IntKind.u8 n] h')
                          (K Out.ret 27 [V.i IntKind.u8 n] h'))
                    (K Out.ret 27 [V.i IntKind.u8 n] h')))) := by kernel_rfl
theorem f113_0 (id : Nat) (h : Heap) (K : Out → Nat → List V → Heap → Prop) : (codeP Try.Y (Try.Y.loc 113) 100 ((flat (bodyOf Try.f113))) ⟨(V.p (some (id, 0)) :: List.replicate 52 .undef), [], h⟩ (VQ [2] K)) =
  (Con Try.Y 121 [V.p (some (id, 0))] h fun (v : V) (h' : Heap) =>
  ∃ (n : Int),
    v = V.i IntKind.u8 n ∧
      ∃ (b : Bool),
        hcells h' id 2 1 = some [V.b b] ∧
          If b (K Out.ret 53 [V.lb [V.i IntKind.u8 n, V.i IntKind.u8 n]] h')
            (∃ (b : Bool),
              (∃ (h1 : Heap),
                  (Con Try.Y 112 [V.p (some (id, 0)), V.i IntKind.u8 45] h' fun (v : V) (h' : Heap) =>
                      v = V.b b ∧ h' = h1) ∧
                    (∀ (i : Nat), i < h'.nx → h1.get i = h'.get i) ∧
                      ∀ (p : Nat × TypeId), List.Mem p h'.tg → List.Mem p h1.tg) ∧
                If (!b) (K Out.ret 53 [V.lb [V.i IntKind.u8 n, V.i IntKind.u8 n]] h')
                  (∃ (n_1 : Int),
                    hcells h' id 1 1 = some [V.i IntKind.i64 n_1] ∧
                      ∃ (h : Heap),
                        hstore h' id 1 [V.i IntKind.i64 (IntKind.i64.wrap (n_1 + 1))] = some h ∧
                          Con Try.Y 121 [V.p (some (id, 0))] h fun (v : V) (h' : Heap) =>
                            ∃ (n_2 : Int),
                              v = V.i IntKind.u8 n_2 ∧
                                ∃ (b : Bool),
                                  hcells h' id 2 1 = some [V.b b] ∧
                                    If (!b)
                                      (If (ltI n_2 n)
                                        (∃ (h : Heap),
                                          hstore h' id 2 [V.b true] = some h ∧
                                            ∃ (n_3 : Int),
                                              hcells h id 1 1 = some [V.i IntKind.i64 n_3] ∧
                                                ∃ (h_1 : Heap),
                                                  hstore h id 1 [V.i IntKind.i64 (IntKind.i64.wrap (n_3 - 1))] =
                                                      some h_1 ∧
                                                    K Out.ret 53 [V.lb [V.i IntKind.u8 n, V.i IntKind.u8 n_2]] h_1)
                                        (K Out.ret 53 [V.lb [V.i IntKind.u8 n, V.i IntKind.u8 n_2]] h'))
                                      (K Out.ret 53 [V.lb [V.i IntKind.u8 n, V.i IntKind.u8 n_2]] h')))) := by kernel_rfl
theorem f91_0 (id : Nat) (h : Heap) (K : Out → Nat → List V → Heap → Prop) : (codeP Try.Y (Try.Y.loc 91) 100 (pre (flat (bodyOf Try.f91))) ⟨(V.p (some (id, 0)) :: List.replicate 28 .undef), [], h⟩ (VQ [0, 3] K)) =
  (K Out.normal 29 [V.p (some (id, 0)), V.sl none 0 (some 0) 0] h) := by kernel_rfl
theorem f91_1 (id : Nat) (a3 : Option (Nat × Nat)) (l3 : Nat) (c3 : Option Nat) (k3 : Nat) (h : Heap) (K : Out → Nat → List V → Heap → Prop) : (codeP Try.Y (Try.Y.loc 91) 100 ((flat (loopB (post (flat (bodyOf Try.f91)))))) ⟨mk 29 (([0, 3] : List Nat).zip [V.p (some (id, 0)), V.sl a3 l3 c3 k3]), [], h⟩ (VQ [0, 2, 3] K)) =
  (If ((↑l3 : Int) == 0)
  (Con Try.Y 113 [V.p (some (id, 0))] h fun (v : V) (h' : Heap) =>
    ∃ (n : Int),
      ∃ (n_1 : Int),
        v = V.agg [V.i IntKind.u8 n, V.i IntKind.u8 n_1] ∧
          ∃ (a : Option (Nat × Nat)),
            ∃ (l : Nat),
              ∃ (c : Option Nat),
                ∃ (k : Nat),
                  ∃ (h : Heap),
                    appendH Try.Y h' 75 75 (V.sl a3 l3 c3 k3) (V.ts [V.i IntKind.u8 n, V.i IntKind.u8 n_1] 1 (some 1)) =
                        some (V.sl a l c k, h) ∧
                      ∃ (b : Bool),
                        hcells h id 2 1 = some [V.b b] ∧
                          If b (K Out.ret 29 [V.p (some (id, 0)), V.sl none 0 (some 0) 0, V.sl a l c k] h)
                            (K Out.normal 29 [V.p (some (id, 0)), V.undef, V.sl a l c k] h))
  (∃ (b : Bool),
    (∃ (h1 : Heap),
        (Con Try.Y 112 [V.p (some (id, 0)), V.i IntKind.u8 93] h fun (v : V) (h' : Heap) => v = V.b b ∧ h' = h1) ∧
          (∀ (i : Nat), i < h.nx → h1.get i = h.get i) ∧ ∀ (p : Nat × TypeId), List.Mem p h.tg → List.Mem p h1.tg) ∧
      If (!b)
        (Con Try.Y 113 [V.p (some (id, 0))] h fun (v : V) (h' : Heap) =>
          ∃ (n : Int),
            ∃ (n_1 : Int),
              v = V.agg [V.i IntKind.u8 n, V.i IntKind.u8 n_1] ∧
                ∃ (a : Option (Nat × Nat)),
                  ∃ (l : Nat),
                    ∃ (c : Option Nat),
                      ∃ (k : Nat),
                        ∃ (h : Heap),
                          appendH Try.Y h' 75 75 (V.sl a3 l3 c3 k3)
                                (V.ts [V.i IntKind.u8 n, V.i IntKind.u8 n_1] 1 (some 1)) =
                              some (V.sl a l c k, h) ∧
                            ∃ (b : Bool),
                              hcells h id 2 1 = some [V.b b] ∧
                                If b (K Out.ret 29 [V.p (some (id, 0)), V.sl none 0 (some 0) 0, V.sl a l c k] h)
                                  (K Out.normal 29 [V.p (some (id, 0)), V.undef, V.sl a l c k] h))
        (K (Out.exit 0) 29 [V.p (some (id, 0)), V.undef, V.sl a3 l3 c3 k3] h))) := by kernel_rfl
theorem f91_2 (id : Nat) (a3 : Option (Nat × Nat)) (l3 : Nat) (c3 : Option Nat) (k3 : Nat) (h : Heap) (K : Out → Nat → List V → Heap → Prop) : (codeP Try.Y (Try.Y.loc 91) 100 (((post (flat (bodyOf Try.f91))).drop 1)) ⟨mk 29 (([0, 3] : List Nat).zip [V.p (some (id, 0)), V.sl a3 l3 c3 k3]), [], h⟩ (VQ [2] K)) =
  (∃ (n : Int),
  hcells h id 1 1 = some [V.i IntKind.i64 n] ∧
    ∃ (h_1 : Heap),
      hstore h id 1 [V.i IntKind.i64 (IntKind.i64.wrap (n + 1))] = some h_1 ∧ K Out.ret 29 [V.sl a3 l3 c3 k3] h_1) := by kernel_rfl
theorem f48_0 (id : Nat) (h : Heap) (K : Out → Nat → List V → Heap → Prop) : (codeP Try.Y (Try.Y.loc 48) 100 ((flat (bodyOf Try.f48))) ⟨(V.p (some (id, 0)) :: List.replicate 24 .undef), [], h⟩ (VQ [2] K)) =
  (Con Try.Y 90 [V.p (some (id, 0))] h fun (v : V) (h' : Heap) =>
  ∃ (n : Int),
    v = V.i IntKind.u8 n ∧
      If (n == 42) (K Out.ret 25 [V.lb [V.i IntKind.i64 2, V.i IntKind.u8 0, V.sl none 0 (some 0) 0]] h')
        (If (n == 63) (K Out.ret 25 [V.lb [V.i IntKind.i64 1, V.i IntKind.u8 0, V.sl none 0 (some 0) 0]] h')
          (If (n == 91)
            (Con Try.Y 91 [V.p (some (id, 0))] h' fun (v : V) (h' : Heap) =>
              ∃ (cs : List V),
                ∃ (l : Nat),
                  ∃ (c : Option Nat),
                    v = V.ts cs l c ∧ K Out.ret 25 [V.lb [V.i IntKind.i64 3, V.i IntKind.u8 0, V.ts cs l c]] h')
            (If (n == 92)
              (Con Try.Y 90 [V.p (some (id, 0))] h' fun (v : V) (h' : Heap) =>
                ∃ (n : Int),
                  v = V.i IntKind.u8 n ∧
                    K Out.ret 25 [V.lb [V.i IntKind.i64 0, V.i IntKind.u8 n, V.sl none 0 (some 0) 0]] h')
              (K Out.ret 25 [V.lb [V.i IntKind.i64 0, V.i IntKind.u8 n, V.sl none 0 (some 0) 0]] h'))))) := by kernel_rfl
end Go.Y
