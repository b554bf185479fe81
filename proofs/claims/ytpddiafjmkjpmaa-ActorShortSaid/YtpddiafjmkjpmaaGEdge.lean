/- What an edge of a peer must be, by contracts. -/
import Derived.Test.YtpddiafjmkjpmaaGD2
import Derived.Test.YtpddiafjmkjpmaaGParse
import Derived.Test.YtpddiafjmkjpmaaYTryP
import Derived.Test.YtpddiafjmkjpmaaYLoop
import Derived.Test.YtpddiafjmkjpmaaGRef03b
import Derived.Test.YtpddiafjmkjpmaaGC2
namespace Go.Y
open Go.Proofs
set_option maxRecDepth 100000

structure Edge where
  kind : Int
  text : List UInt8
  lo : Int
  hi : Int
  to : Int
  deriving DecidableEq, Inhabited
structure Plc where
  name : List UInt8
  echo : Bool
  edges : List Edge
  deriving DecidableEq, Inhabited
abbrev encE (e : Edge) : List V := [.i .i64 e.kind, .s e.text, .i .i64 e.lo, .i .i64 e.hi, .i .i64 e.to]
abbrev encPl (x : Plc) : List V := [.s x.name, .b x.echo, lst encE x.edges]
theorem encE_len (e : Edge) : (encE e).length = 5 := rfl
theorem encPl_len (x : Plc) : (encPl x).length = 3 := rfl

def timesS (e : Edge) : Bool := leI 0 e.lo && leI e.lo 9 && (e.hi == -1 || leI e.lo e.hi && leI e.hi 9)
theorem times_con (e : Edge) : PCon Try.Y 118 [.agg (encE e)] (· = .b (timesS e)) := by
  refine tree_con Try.Yok (fn := Try.f118) (by kernel_rfl) (by kernel_rfl) rfl (fun K => f118_0 e.kind e.text e.lo e.hi e.to .empty K) rfl ?_
  refine if_mk (fun h1 => if_mk (fun h2 => if_mk (fun h3 => ?_) (fun h3 => if_mk (fun h4 => ?_) (fun h4 => ?_))) (fun h2 => ?_)) (fun h1 => ?_)
  all_goals refine finV1 (.inr rfl) rfl (.b _) ?_
  all_goals simp_all [timesS]

/-- Does glob.Parse take it? -/
def globS (s : List UInt8) : Bool := if 200 < s.length then false else match parseS (s.length + 1) s 0 [] with
  | .error _ => false
  | .ok _ => true
theorem parseR_cases (s : List UInt8) : ∃ (l : List Glob) (a e : Int), parseR s = .tup [lst encG l, .i .i64 a, .i .i64 e] ∧ (e == 0) = globS s := by
  unfold parseR globS
  split
  · exact ⟨[], _, _, rfl, rfl⟩
  · cases hp : parseS (s.length + 1) s 0 [] with
    | error e => exact ⟨[], _, _, rfl, rfl⟩
    | ok l => exact ⟨_, _, _, rfl, rfl⟩

def toS (e : Edge) (np : Nat) : Bool := leI 0 e.to && ltI e.to np
def edgeS (e : Edge) (cap : Int) (np : Nat) : Bool :=
  if e.kind = 1 then toS e np && timesS e && !(e.text == []) && leI e.text.length cap
  else if e.kind = 2 then toS e np && (e.lo == 0) && (e.hi == 0) && globS e.text
  else if e.kind = 3 then (e.to == 0) && (e.text == []) && timesS e
  else false

theorem right_con (e : Edge) (cap : Int) (cs : List V) (np : Nat) : PCon Try.Y 99 [.agg (encE e), .agg [.i .i64 cap, .ts cs np none]] (· = .b (edgeS e cap np)) := by
  refine pcon_of Try.Yok (fn := Try.f99) (by kernel_rfl) (by kernel_rfl) rfl (end_rule Try.Yok (loc := Try.Y.loc 99) 100 [4] ?_)
  refine Eq.mpr (f99_0 e.kind e.text e.lo e.hi e.to cap cs np .empty _) ?_
  obtain ⟨l, a, er, hp, he⟩ := parseR_cases e.text
  have hpc : PCon Try.Y 13 [.s e.text] fun v => v = .tup [.ts (row encG l) l.length none, .i .i64 a, .i .i64 er] := (parse_con e.text).mono fun r hr => by rw [hr, hp]
  have fin : ∀ (b : Bool) (h : Heap), b = edgeS e cap np → Fin Try.Y Try.f99 [4] (fun v h => ∃ r, Frz h v r ∧ r = .b (edgeS e cap np)) .ret 80 [.b b] h := fun b h e2 => finV1 (.inr rfl) rfl (.b _) (by rw [e2])
  generalize Fin Try.Y Try.f99 [4] (fun v h => ∃ r, Frz h v r ∧ r = .b (edgeS e cap np)) = K at fin ⊢
  have k3 : (e.kind == 1) = false → (e.kind == 2) = false → If (e.kind == 3) (If (e.to == 0) (If (e.text == []) (∃ b : Bool, (PCon Try.Y 118 [.agg (encE e)] fun v => v = .b b) ∧ K .ret 80 [.b b] .empty) (K .ret 80 [.b false] .empty)) (K .ret 80 [.b false] .empty)) (K .ret 80 [.b false] .empty) := by
    intro n1 n2
    have n1 : e.kind ≠ 1 := by simpa using n1
    have n2 : e.kind ≠ 2 := by simpa using n2
    refine if_mk (fun h1 => if_mk (fun h2 => if_mk (fun h3 => ⟨_, times_con e, fin _ _ ?_⟩) (fun h3 => fin _ _ ?_)) (fun h2 => fin _ _ ?_)) (fun h1 => fin _ _ ?_)
    all_goals simp only [edgeS, n1, n2, if_false]
    · have h1 : e.kind = 3 := by simpa using h1
      rw [if_pos h1, h2, h3]; simp
    · have h1 : e.kind = 3 := by simpa using h1
      rw [if_pos h1, h3]; simp
    · have h1 : e.kind = 3 := by simpa using h1
      rw [if_pos h1, h2]; simp
    · have h1 : e.kind ≠ 3 := by simpa using h1
      rw [if_neg h1]
  refine if_mk (fun t0 => if_mk (fun k1 => ?_) (fun k1 => if_mk (fun k2 => ⟨_, _, _, _, _, hpc, ?_⟩) (fun k2 => k3 k1 k2))) (fun t0 => if_mk (fun k1 => fin _ _ ?_) (fun k1 => if_mk (fun k2 => ⟨_, _, _, _, _, hpc, fin _ _ ?_⟩) (fun k2 => k3 k1 k2)))
  · have k1 : e.kind = 1 := by simpa using k1
    refine if_mk (fun t1 => ⟨_, times_con e, if_mk (fun h1 => if_mk (fun h2 => fin _ _ ?_) (fun h2 => fin _ _ ?_)) (fun h1 => fin _ _ ?_)⟩) (fun t1 => fin _ _ ?_)
    all_goals simp only [edgeS, k1, if_true, toS, t0, t1, Bool.true_and, Bool.false_and]
    · have h2 : (!e.text == []) = true := h2
      rw [h1, h2]; simp
    · have h2 : (!e.text == []) = false := h2
      rw [h1, h2]; simp
    · rw [h1]; simp
  · have k2 : e.kind = 2 := by simpa using k2
    have e21 : ¬ ((2 : Int) = 1) := by decide
    refine if_mk (fun t1 => if_mk (fun h1 => if_mk (fun h2 => fin _ _ ?_) (fun h2 => fin _ _ ?_)) (fun h1 => fin _ _ ?_)) (fun t1 => fin _ _ ?_)
    all_goals simp only [edgeS, k2, e21, if_true, if_false, toS, t0, t1, Bool.true_and, Bool.false_and]
    · rw [h1, h2, he]; simp
    · rw [h1, h2]; simp
    · rw [h1]; simp
  · have k1 : e.kind = 1 := by simpa using k1
    simp only [edgeS, k1, if_true, toS, t0, Bool.false_and]
  · have k2 : e.kind = 2 := by simpa using k2
    have e21 : ¬ ((2 : Int) = 1) := by decide
    simp only [edgeS, k2, e21, if_true, if_false, toS, t0, Bool.false_and]
end Go.Y

/- What the pieces of functions come to: printed by program. -/
namespace Go.Y
open Go.Proofs
set_option maxRecDepth 100000
set_option maxHeartbeats 0
theorem f89_0 (x0Kind : Int) (s0Text : List UInt8) (x0Lo : Int) (x0Hi : Int) (x0To : Int) (x1Cap : Int) (cs1Places : List V) (n1Places : Nat) (h : Heap) (K : Out → Nat → List V → Heap → Prop) : (codeP Try.Y (Try.Y.loc 89) 100 ((flat (bodyOf Try.f89))) ⟨(V.agg [V.i IntKind.i64 x0Kind, V.s s0Text, V.i IntKind.i64 x0Lo, V.i IntKind.i64 x0Hi, V.i IntKind.i64 x0To] :: V.agg [V.i IntKind.i64 x1Cap, V.ts cs1Places n1Places none] :: List.replicate 106 .undef), [], h⟩ (VQ [4] K)) =
  (If (leI (0 : Int) x0Lo)
  (If (leI x0Lo (9 : Int))
 (If (x0Hi == (-1 : Int))
 (If (leI (0 : Int) x0To)
 (If (x0Kind == (1 : Int))
 (If (ltI x0To (↑n1Places : Int))
 (If (leI (1 : Int) (↑s0Text.length : Int))
 (K Out.ret 108 [V.b (leI (↑s0Text.length : Int) x1Cap)] h)
 (K Out.ret 108 [V.b false] h))
 (K Out.ret 108 [V.b false] h))
 (If (x0Kind == (2 : Int))
 (∃ (cs : List V),
 ∃ (l : Nat),
 ∃ (c : Option Nat),
 ∃ (n : Int),
 ∃ (n_1 : Int),
 (PCon Try.Y (14 : Nat) [V.s s0Text] fun (v : V) =>
 v = V.tup [V.ts cs l c, V.i IntKind.i64 n, V.i IntKind.i64 n_1]) ∧
 If (x0Lo == (0 : Int))
 (If (x0Hi == (0 : Int))
 (If (ltI x0To (↑n1Places : Int)) (K Out.ret 108 [V.b (n_1 == (0 : Int))] h)
 (K Out.ret 108 [V.b false] h))
 (K Out.ret 108 [V.b false] h))
 (K Out.ret 108 [V.b false] h))
 (If (x0Kind == (3 : Int))
 (If (x0To == (0 : Int)) (K Out.ret 108 [V.b (s0Text == #[].toList)] h)
 (K Out.ret 108 [V.b false] h))
 (K Out.ret 108 [V.b false] h))))
 (If (x0Kind == (1 : Int)) (K Out.ret 108 [V.b false] h)
 (If (x0Kind == (2 : Int))
 (∃ (cs : List V),
 ∃ (l : Nat),
 ∃ (c : Option Nat),
 ∃ (n : Int),
 ∃ (n_1 : Int),
 (PCon Try.Y (14 : Nat) [V.s s0Text] fun (v : V) =>
 v = V.tup [V.ts cs l c, V.i IntKind.i64 n, V.i IntKind.i64 n_1]) ∧
 If (x0Lo == (0 : Int))
 (If (x0Hi == (0 : Int)) (K Out.ret 108 [V.b false] h)
 (K Out.ret 108 [V.b false] h))
 (K Out.ret 108 [V.b false] h))
 (If (x0Kind == (3 : Int))
 (If (x0To == (0 : Int)) (K Out.ret 108 [V.b (s0Text == #[].toList)] h)
 (K Out.ret 108 [V.b false] h))
 (K Out.ret 108 [V.b false] h)))))
 (If (leI x0Lo x0Hi)
 (If (leI (0 : Int) x0To)
 (If (x0Kind == (1 : Int))
 (If (leI x0Hi (9 : Int))
 (If (ltI x0To (↑n1Places : Int))
 (If (leI (1 : Int) (↑s0Text.length : Int))
 (K Out.ret 108 [V.b (leI (↑s0Text.length : Int) x1Cap)] h)
 (K Out.ret 108 [V.b false] h))
 (K Out.ret 108 [V.b false] h))
 (K Out.ret 108 [V.b false] h))
 (If (x0Kind == (2 : Int))
 (∃ (cs : List V),
 ∃ (l : Nat),
 ∃ (c : Option Nat),
 ∃ (n : Int),
 ∃ (n_1 : Int),
 (PCon Try.Y (14 : Nat) [V.s s0Text] fun (v : V) =>
 v = V.tup [V.ts cs l c, V.i IntKind.i64 n, V.i IntKind.i64 n_1]) ∧
 If (x0Lo == (0 : Int))
 (If (x0Hi == (0 : Int))
 (If (ltI x0To (↑n1Places : Int)) (K Out.ret 108 [V.b (n_1 == (0 : Int))] h)
 (K Out.ret 108 [V.b false] h))
 (K Out.ret 108 [V.b false] h))
 (K Out.ret 108 [V.b false] h))
 (If (x0Kind == (3 : Int))
 (If (leI x0Hi (9 : Int))
 (If (x0To == (0 : Int)) (K Out.ret 108 [V.b (s0Text == #[].toList)] h)
 (K Out.ret 108 [V.b false] h))
 (K Out.ret 108 [V.b false] h))
 (K Out.ret 108 [V.b false] h))))
 (If (x0Kind == (1 : Int))
 (If (leI x0Hi (9 : Int)) (K Out.ret 108 [V.b false] h) (K Out.ret 108 [V.b false] h))
 (If (x0Kind == (2 : Int))
 (∃ (cs : List V),
 ∃ (l : Nat),
 ∃ (c : Option Nat),
 ∃ (n : Int),
 ∃ (n_1 : Int),
 (PCon Try.Y (14 : Nat) [V.s s0Text] fun (v : V) =>
 v = V.tup [V.ts cs l c, V.i IntKind.i64 n, V.i IntKind.i64 n_1]) ∧
 If (x0Lo == (0 : Int))
 (If (x0Hi == (0 : Int)) (K Out.ret 108 [V.b false] h)
 (K Out.ret 108 [V.b false] h))
 (K Out.ret 108 [V.b false] h))
 (If (x0Kind == (3 : Int))
 (If (leI x0Hi (9 : Int))
 (If (x0To == (0 : Int)) (K Out.ret 108 [V.b (s0Text == #[].toList)] h)
 (K Out.ret 108 [V.b false] h))
 (K Out.ret 108 [V.b false] h))
 (K Out.ret 108 [V.b false] h)))))
 (If (leI (0 : Int) x0To)
 (If (x0Kind == (1 : Int)) (K Out.ret 108 [V.b false] h)
 (If (x0Kind == (2 : Int))
 (∃ (cs : List V),
 ∃ (l : Nat),
 ∃ (c : Option Nat),
 ∃ (n : Int),
 ∃ (n_1 : Int),
 (PCon Try.Y (14 : Nat) [V.s s0Text] fun (v : V) =>
 v = V.tup [V.ts cs l c, V.i IntKind.i64 n, V.i IntKind.i64 n_1]) ∧
 If (x0Lo == (0 : Int))
 (If (x0Hi == (0 : Int))
 (If (ltI x0To (↑n1Places : Int)) (K Out.ret 108 [V.b (n_1 == (0 : Int))] h)
 (K Out.ret 108 [V.b false] h))
 (K Out.ret 108 [V.b false] h))
 (K Out.ret 108 [V.b false] h))
 (If (x0Kind == (3 : Int)) (K Out.ret 108 [V.b false] h)
 (K Out.ret 108 [V.b false] h))))
 (If (x0Kind == (1 : Int)) (K Out.ret 108 [V.b false] h)
 (If (x0Kind == (2 : Int))
 (∃ (cs : List V),
 ∃ (l : Nat),
 ∃ (c : Option Nat),
 ∃ (n : Int),
 ∃ (n_1 : Int),
 (PCon Try.Y (14 : Nat) [V.s s0Text] fun (v : V) =>
 v = V.tup [V.ts cs l c, V.i IntKind.i64 n, V.i IntKind.i64 n_1]) ∧
 If (x0Lo == (0 : Int))
 (If (x0Hi == (0 : Int)) (K Out.ret 108 [V.b false] h)
 (K Out.ret 108 [V.b false] h))
 (K Out.ret 108 [V.b false] h))
 (If (x0Kind == (3 : Int)) (K Out.ret 108 [V.b false] h)
 (K Out.ret 108 [V.b false] h)))))))
 (If (leI (0 : Int) x0To)
 (If (x0Kind == (1 : Int)) (K Out.ret 108 [V.b false] h)
 (If (x0Kind == (2 : Int))
 (∃ (cs : List V),
 ∃ (l : Nat),
 ∃ (c : Option Nat),
 ∃ (n : Int),
 ∃ (n_1 : Int),
 (PCon Try.Y (14 : Nat) [V.s s0Text] fun (v : V) =>
 v = V.tup [V.ts cs l c, V.i IntKind.i64 n, V.i IntKind.i64 n_1]) ∧
 If (x0Lo == (0 : Int))
 (If (x0Hi == (0 : Int))
 (If (ltI x0To (↑n1Places : Int)) (K Out.ret 108 [V.b (n_1 == (0 : Int))] h)
 (K Out.ret 108 [V.b false] h))
 (K Out.ret 108 [V.b false] h))
 (K Out.ret 108 [V.b false] h))
 (If (x0Kind == (3 : Int)) (K Out.ret 108 [V.b false] h) (K Out.ret 108 [V.b false] h))))
 (If (x0Kind == (1 : Int)) (K Out.ret 108 [V.b false] h)
 (If (x0Kind == (2 : Int))
 (∃ (cs : List V),
 ∃ (l : Nat),
 ∃ (c : Option Nat),
 ∃ (n : Int),
 ∃ (n_1 : Int),
 (PCon Try.Y (14 : Nat) [V.s s0Text] fun (v : V) =>
 v = V.tup [V.ts cs l c, V.i IntKind.i64 n, V.i IntKind.i64 n_1]) ∧
 If (x0Lo == (0 : Int))
 (If (x0Hi == (0 : Int)) (K Out.ret 108 [V.b false] h)
 (K Out.ret 108 [V.b false] h))
 (K Out.ret 108 [V.b false] h))
 (If (x0Kind == (3 : Int)) (K Out.ret 108 [V.b false] h) (K Out.ret 108 [V.b false] h))))))
  (If (leI (0 : Int) x0To)
 (If (x0Kind == (1 : Int)) (K Out.ret 108 [V.b false] h)
 (If (x0Kind == (2 : Int))
 (∃ (cs : List V),
 ∃ (l : Nat),
 ∃ (c : Option Nat),
 ∃ (n : Int),
 ∃ (n_1 : Int),
 (PCon Try.Y (14 : Nat) [V.s s0Text] fun (v : V) =>
 v = V.tup [V.ts cs l c, V.i IntKind.i64 n, V.i IntKind.i64 n_1]) ∧
 If (x0Lo == (0 : Int))
 (If (x0Hi == (0 : Int))
 (If (ltI x0To (↑n1Places : Int)) (K Out.ret 108 [V.b (n_1 == (0 : Int))] h)
 (K Out.ret 108 [V.b false] h))
 (K Out.ret 108 [V.b false] h))
 (K Out.ret 108 [V.b false] h))
 (If (x0Kind == (3 : Int)) (K Out.ret 108 [V.b false] h) (K Out.ret 108 [V.b false] h))))
 (If (x0Kind == (1 : Int)) (K Out.ret 108 [V.b false] h)
 (If (x0Kind == (2 : Int))
 (∃ (cs : List V),
 ∃ (l : Nat),
 ∃ (c : Option Nat),
 ∃ (n : Int),
 ∃ (n_1 : Int),
 (PCon Try.Y (14 : Nat) [V.s s0Text] fun (v : V) =>
 v = V.tup [V.ts cs l c, V.i IntKind.i64 n, V.i IntKind.i64 n_1]) ∧
 If (x0Lo == (0 : Int))
 (If (x0Hi == (0 : Int)) (K Out.ret 108 [V.b false] h)
 (K Out.ret 108 [V.b false] h))
 (K Out.ret 108 [V.b false] h))
 (If (x0Kind == (3 : Int)) (K Out.ret 108 [V.b false] h) (K Out.ret 108 [V.b false] h)))))) := by kernel_rfl
end Go.Y

/- souffleurref13.edge, by its contract. -/
namespace Go.Y
open Go.Proofs
set_option maxRecDepth 100000

theorem nonempty_le (s : List UInt8) : (!(s == [])) = leI 1 (s.length : Nat) := by
  cases s with
  | nil => rfl
  | cons c r => simp [leI]; omega
theorem edgeS_eq (e : Edge) (cap : Int) (np : Nat) : edgeS e cap np =
    cond (e.kind == 1) (leI 0 e.to && ltI e.to np && (leI 0 e.lo && leI e.lo 9 && (e.hi == -1 || leI e.lo e.hi && leI e.hi 9)) && leI 1 (e.text.length : Nat) && leI e.text.length cap)
      (cond (e.kind == 2) (leI 0 e.to && ltI e.to np && (e.lo == 0) && (e.hi == 0) && globS e.text)
        (cond (e.kind == 3) ((e.to == 0) && (e.text == []) && (leI 0 e.lo && leI e.lo 9 && (e.hi == -1 || leI e.lo e.hi && leI e.hi 9))) false)) := by
  unfold edgeS toS timesS
  rw [nonempty_le]
  by_cases h1 : e.kind = 1
  · simp only [h1, if_true, beq_self_eq_true, cond_true]
  · have b1 : (e.kind == 1) = false := by simpa using h1
    rw [if_neg h1, b1, cond_false]
    by_cases h2 : e.kind = 2
    · simp only [h2, if_true, beq_self_eq_true, cond_true]
    · have b2 : (e.kind == 2) = false := by simpa using h2
      rw [if_neg h2, b2, cond_false]
      by_cases h3 : e.kind = 3
      · simp only [h3, if_true, beq_self_eq_true, cond_true]
      · have b3 : (e.kind == 3) = false := by simpa using h3
        rw [if_neg h3, b3, cond_false]

theorem redge_con (e : Edge) (cap : Int) (cs : List V) (np : Nat) : PCon Try.Y 89 [.agg (encE e), .agg [.i .i64 cap, .ts cs np none]] (· = .b (edgeS e cap np)) := by
  refine tree_con Try.Yok (fn := Try.f89) (by kernel_rfl) (by kernel_rfl) rfl (fun K => f89_0 e.kind e.text e.lo e.hi e.to cap cs np .empty K) rfl ?_
  obtain ⟨l, a, er, hp, he⟩ := parseR_cases e.text
  have hpc : PCon Try.Y 14 [.s e.text] fun v => v = .tup [.ts (row encG l) l.length none, .i .i64 a, .i .i64 er] := (rparse_con e.text).mono fun r hr => by rw [hr, hp]
  have fin : ∀ (b : Bool) (h : Heap), b = edgeS e cap np → Fin Try.Y Try.f89 [4] (fun v h => ∃ r, Frz h v r ∧ r = .b (edgeS e cap np)) .ret 108 [.b b] h := fun b h e2 => finV1 (.inr rfl) rfl (.b _) (by rw [e2])
  generalize Fin Try.Y Try.f89 [4] (fun v h => ∃ r, Frz h v r ∧ r = .b (edgeS e cap np)) = K at fin ⊢
  rw [edgeS_eq, ← he] at fin
  clear he hp
  repeat' first
    | refine if_mk (fun _ => ?_) (fun _ => ?_)
    | refine ⟨_, _, _, _, _, hpc, ?_⟩
    | refine fin _ _ ?_
  all_goals simp only [*, cond_true, cond_false, Bool.and_true, Bool.true_and, Bool.and_false, Bool.false_and, Bool.or_true, Bool.true_or, Bool.or_false, Bool.false_or]
  all_goals rfl
end Go.Y

/- slices.Equal over strings and numbers, by contracts. -/
namespace Go.Y
open Go.Proofs
set_option maxRecDepth 100000

theorem equalT_con (a b : List (List UInt8)) (ha : a.length < 2 ^ 30) : PCon Try.Y 102 [lst encT a, lst encT b] (· = .b (decide (a = b))) := by
  refine pcon_of Try.Yok (fn := Try.f102) (by kernel_rfl) (by kernel_rfl) rfl ?_
  refine pre_rule Try.Yok (n := 26) (loc := Try.Y.loc 102) 100 [0, 1, 4, 12, 13] (by kernel_rfl) ?_
  refine Eq.mpr (f102_0 (row encT a) a.length (row encT b) b.length .empty _) ?_
  refine if_mk (fun hne => ?_) (fun heq => ?_)
  · have : a ≠ b := fun e => by rw [e] at hne; simp at hne
    exact fin_at (.inr rfl) rfl ⟨_, .b _, by simp [this]⟩
  have hlen : a.length = b.length := by simp at heq; omega
  refine ⟨rfl, loop2 [0, 1, 12, 13] [0, 1, 4, 12, 13] rfl (by kernel_rfl) (fun m vs _ => ∃ i : Nat, vs = [lst encT a, lst encT b, .i .i64 a.length, .i .i64 (i : Nat)] ∧ i ≤ a.length ∧ m = a.length - i ∧ a.take i = b.take i) a.length mk_len ⟨0, rfl, by omega, by omega, rfl⟩ ?_⟩
  rintro m vs h ⟨i, rfl, hi, rfl, hs⟩
  refine all_rule Try.Yok (loc := Try.Y.loc 102) 100 [0, 1, 4, 12, 13] ?_
  refine Eq.mpr (f102_1 (row encT a) a.length (row encT b) b.length (i : Nat) h _) ?_
  refine if_lt_nat (fun hlt => ?_) (fun hge => ?_)
  · have hlt' : i < b.length := by omega
    refine ⟨bnd_nat hlt, a[i], by rw [Int.toNat_natCast]; exact row_get (f := encT) (k := 1) encT_len hlt, bnd_nat hlt', b[i], by rw [Int.toNat_natCast]; exact row_get (f := encT) (k := 1) encT_len hlt', if_mk (fun hc => ?_) (fun hc => ?_)⟩
    · have hc : a[i] ≠ b[i] := by simpa using hc
      have : a ≠ b := fun e => by subst e; exact hc rfl
      exact fin_at (.inr rfl) rfl ⟨_, .b _, by simp [this]⟩
    · have hc : a[i] = b[i] := by simpa using hc
      exact ⟨rfl, a.length - (i + 1), by omega, i + 1, by rw [wrap_succ (by omega)]; rfl, by omega, rfl, take_more hs hlt hlt' hc⟩
  · refine roundW_exit [] (by kernel_rfl) rfl rfl ?_
    refine end_rule Try.Yok (loc := Try.Y.loc 102) 100 [4] ?_
    refine Eq.mpr (f102_2 h _) ?_
    exact finV1 (.inr rfl) rfl (.b _) (by rw [take_same hs hge (by omega)]; simp)

theorem equalI_con (a b : List Int) (ha : a.length < 2 ^ 30) : PCon Try.Y 103 [lst encI a, lst encI b] (· = .b (decide (a = b))) := by
  refine pcon_of Try.Yok (fn := Try.f103) (by kernel_rfl) (by kernel_rfl) rfl ?_
  refine pre_rule Try.Yok (n := 26) (loc := Try.Y.loc 103) 100 [0, 1, 4, 12, 13] (by kernel_rfl) ?_
  refine Eq.mpr (f103_0 (row encI a) a.length (row encI b) b.length .empty _) ?_
  refine if_mk (fun hne => ?_) (fun heq => ?_)
  · have : a ≠ b := fun e => by rw [e] at hne; simp at hne
    exact fin_at (.inr rfl) rfl ⟨_, .b _, by simp [this]⟩
  have hlen : a.length = b.length := by simp at heq; omega
  refine ⟨rfl, loop2 [0, 1, 12, 13] [0, 1, 4, 12, 13] rfl (by kernel_rfl) (fun m vs _ => ∃ i : Nat, vs = [lst encI a, lst encI b, .i .i64 a.length, .i .i64 (i : Nat)] ∧ i ≤ a.length ∧ m = a.length - i ∧ a.take i = b.take i) a.length mk_len ⟨0, rfl, by omega, by omega, rfl⟩ ?_⟩
  rintro m vs h ⟨i, rfl, hi, rfl, hs⟩
  refine all_rule Try.Yok (loc := Try.Y.loc 103) 100 [0, 1, 4, 12, 13] ?_
  refine Eq.mpr (f103_1 (row encI a) a.length (row encI b) b.length (i : Nat) h _) ?_
  refine if_lt_nat (fun hlt => ?_) (fun hge => ?_)
  · have hlt' : i < b.length := by omega
    refine ⟨bnd_nat hlt, a[i], by rw [Int.toNat_natCast]; exact row_get (f := encI) (k := 1) encI_len hlt, bnd_nat hlt', b[i], by rw [Int.toNat_natCast]; exact row_get (f := encI) (k := 1) encI_len hlt', if_mk (fun hc => ?_) (fun hc => ?_)⟩
    · have hc : a[i] ≠ b[i] := by simpa using hc
      have : a ≠ b := fun e => by subst e; exact hc rfl
      exact fin_at (.inr rfl) rfl ⟨_, .b _, by simp [this]⟩
    · have hc : a[i] = b[i] := by simpa using hc
      exact ⟨rfl, a.length - (i + 1), by omega, i + 1, by rw [wrap_succ (by omega)]; rfl, by omega, rfl, take_more hs hlt hlt' hc⟩
  · refine roundW_exit [] (by kernel_rfl) rfl rfl ?_
    refine end_rule Try.Yok (loc := Try.Y.loc 103) 100 [4] ?_
    refine Eq.mpr (f103_2 h _) ?_
    exact finV1 (.inr rfl) rfl (.b _) (by rw [take_same hs hge (by omega)]; simp)
end Go.Y

/- pipe.Same, by its contract. -/
namespace Go.Y
open Go.Proofs
set_option maxRecDepth 100000
deriving instance DecidableEq for Side

theorem same_con (a b : Side) (hl : a.lines.length < 2 ^ 30) (ha : a.ages.length < 2 ^ 30) : PCon Try.Y 60 [.agg (sideC a), .agg (sideC b)] (· = .b (decide (a = b))) := by
  refine pcon_of Try.Yok (fn := Try.f60) (by kernel_rfl) (by kernel_rfl) rfl (end_rule Try.Yok (loc := Try.Y.loc 60) 100 [4] ?_)
  refine Eq.mpr (f60_0 a.on a.shut a.eof a.place a.clock a.typed (row encT a.lines) a.lines.length a.fly (row encI a.ages) a.ages.length a.ready a.buffer b.on b.shut b.eof b.place b.clock b.typed (row encT b.lines) b.lines.length b.fly (row encI b.ages) b.ages.length b.ready b.buffer .empty _) ?_
  have fin : ∀ (x : Bool) (h : Heap), x = decide (a = b) → Fin Try.Y Try.f60 [4] (fun v h => ∃ r, Frz h v r ∧ r = .b (decide (a = b))) .ret 80 [.b x] h := fun x h e => finV1 (.inr rfl) rfl (.b _) (by rw [e])
  generalize Fin Try.Y Try.f60 [4] (fun v h => ∃ r, Frz h v r ∧ r = .b (decide (a = b))) = K at fin ⊢
  have no : (a = b → False) → K .ret 80 [.b false] .empty := fun h => fin _ _ (decide_eq_false h).symm
  refine if_mk (fun g0 => ?_) (fun g => no fun e => by rw [e] at g; simp at g)
  refine if_mk (fun g1 => ?_) (fun g => no fun e => by rw [e] at g; simp at g)
  refine if_mk (fun g2 => ?_) (fun g => no fun e => by rw [e] at g; simp at g)
  refine if_mk (fun g3 => ?_) (fun g => no fun e => by rw [e] at g; simp at g)
  refine if_mk (fun g4 => ?_) (fun g => no fun e => by rw [e] at g; simp at g)
  refine if_mk (fun g5 => ?_) (fun g => no fun e => by rw [e] at g; simp at g)
  refine if_mk (fun g6 => ?_) (fun g => no fun e => by rw [e] at g; simp at g)
  refine if_mk (fun g7 => ?_) (fun g => no fun e => by rw [e] at g; simp at g)
  refine if_mk (fun g8 => ?_) (fun g => no fun e => by rw [e] at g; simp at g)
  refine ⟨_, equalT_con a.lines b.lines hl, if_mk (fun g9 => ⟨_, equalI_con a.ages b.ages ha, fin _ _ ?_⟩) (fun g => no fun e => by rw [e] at g; simp at g)⟩
  obtain ⟨a0, a1, a2, a3, a4, a5, a6, a7, a8, a9, a10⟩ := a
  obtain ⟨b0, b1, b2, b3, b4, b5, b6, b7, b8, b9, b10⟩ := b
  simp only [beq_iff_eq, decide_eq_true_eq] at g0 g1 g2 g3 g4 g5 g6 g7 g8 g9
  simp only [Side.mk.injEq, g0, g1, g2, g3, g4, g5, g6, g7, g8, g9, true_and, and_true]
end Go.Y
