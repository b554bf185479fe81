/- What the pieces of functions come to: printed by program. -/
import Derived.Test.YtlnpmefmmiacaaaGreatYTryzP
import Derived.Test.YtlnpmefmmiacaaaGreatYFun
import Derived.Test.YtlnpmefmmiacaaaGreatGParse
import Derived.Test.YtlnpmefmmiacaaaGreatGRef03b
namespace Go.Y
open Go.Proofs
set_option maxRecDepth 100000
set_option maxHeartbeats 0
theorem f41_0 (x0Kind : Int) (s0Text : List UInt8) (x0Lo : Int) (x0Hi : Int) (x0To : Int) (x1Cap : Int) (cs1Places : List V) (n1Places : Nat) (h : Heap) (K : Out → Nat → List V → Heap → Prop) : (codeP Tryz.Y (Tryz.Y.loc 41) 100 ((flat (bodyOf Tryz.f41))) ⟨(V.agg [V.i IntKind.i64 x0Kind, V.s s0Text, V.i IntKind.i64 x0Lo, V.i IntKind.i64 x0Hi, V.i IntKind.i64 x0To] :: V.agg [V.i IntKind.i64 x1Cap, V.ts cs1Places n1Places none] :: List.replicate 106 .undef), [], h⟩ (VQ [4] K)) =
  (If (leI (0 : Int) x0Lo)
  (If (leI x0Lo (9 : Int))
 (If (x0Hi == (-1 : Int))
 (If (leI (0 : Int) x0To)
 (If (x0Kind == (1 : Int))
 (If (ltI x0To (↑n1Places : Int))
 (If (leI (1 : Int) (↑s0Text.length : Int))
 (K Out.ret 108 [V.b (leI (↑s0Text.length : Int) x1Cap)] h)
 (K Out.ret 108 [V.b false] h))
 (K Out.ret 108 [V.b false] h))
 (If (x0Kind == (2 : Int))
 (∃ (cs : List V),
 ∃ (l : Nat),
 ∃ (c : Option Nat),
 ∃ (n : Int),
 ∃ (n_1 : Int),
 (PCon Tryz.Y (47 : Nat) [V.s s0Text] fun (v : V) =>
 v = V.tup [V.ts cs l c, V.i IntKind.i64 n, V.i IntKind.i64 n_1]) ∧
 If (x0Lo == (0 : Int))
 (If (x0Hi == (0 : Int))
 (If (ltI x0To (↑n1Places : Int)) (K Out.ret 108 [V.b (n_1 == (0 : Int))] h)
 (K Out.ret 108 [V.b false] h))
 (K Out.ret 108 [V.b false] h))
 (K Out.ret 108 [V.b false] h))
 (If (x0Kind == (3 : Int))
 (If (x0To == (0 : Int)) (K Out.ret 108 [V.b (s0Text == #[].toList)] h)
 (K Out.ret 108 [V.b false] h))
 (K Out.ret 108 [V.b false] h))))
 (If (x0Kind == (1 : Int)) (K Out.ret 108 [V.b false] h)
 (If (x0Kind == (2 : Int))
 (∃ (cs : List V),
 ∃ (l : Nat),
 ∃ (c : Option Nat),
 ∃ (n : Int),
 ∃ (n_1 : Int),
 (PCon Tryz.Y (47 : Nat) [V.s s0Text] fun (v : V) =>
 v = V.tup [V.ts cs l c, V.i IntKind.i64 n, V.i IntKind.i64 n_1]) ∧
 If (x0Lo == (0 : Int))
 (If (x0Hi == (0 : Int)) (K Out.ret 108 [V.b false] h)
 (K Out.ret 108 [V.b false] h))
 (K Out.ret 108 [V.b false] h))
 (If (x0Kind == (3 : Int))
 (If (x0To == (0 : Int)) (K Out.ret 108 [V.b (s0Text == #[].toList)] h)
 (K Out.ret 108 [V.b false] h))
 (K Out.ret 108 [V.b false] h)))))
 (If (leI x0Lo x0Hi)
 (If (leI (0 : Int) x0To)
 (If (x0Kind == (1 : Int))
 (If (leI x0Hi (9 : Int))
 (If (ltI x0To (↑n1Places : Int))
 (If (leI (1 : Int) (↑s0Text.length : Int))
 (K Out.ret 108 [V.b (leI (↑s0Text.length : Int) x1Cap)] h)
 (K Out.ret 108 [V.b false] h))
 (K Out.ret 108 [V.b false] h))
 (K Out.ret 108 [V.b false] h))
 (If (x0Kind == (2 : Int))
 (∃ (cs : List V),
 ∃ (l : Nat),
 ∃ (c : Option Nat),
 ∃ (n : Int),
 ∃ (n_1 : Int),
 (PCon Tryz.Y (47 : Nat) [V.s s0Text] fun (v : V) =>
 v = V.tup [V.ts cs l c, V.i IntKind.i64 n, V.i IntKind.i64 n_1]) ∧
 If (x0Lo == (0 : Int))
 (If (x0Hi == (0 : Int))
 (If (ltI x0To (↑n1Places : Int)) (K Out.ret 108 [V.b (n_1 == (0 : Int))] h)
 (K Out.ret 108 [V.b false] h))
 (K Out.ret 108 [V.b false] h))
 (K Out.ret 108 [V.b false] h))
 (If (x0Kind == (3 : Int))
 (If (leI x0Hi (9 : Int))
 (If (x0To == (0 : Int)) (K Out.ret 108 [V.b (s0Text == #[].toList)] h)
 (K Out.ret 108 [V.b false] h))
 (K Out.ret 108 [V.b false] h))
 (K Out.ret 108 [V.b false] h))))
 (If (x0Kind == (1 : Int))
 (If (leI x0Hi (9 : Int)) (K Out.ret 108 [V.b false] h) (K Out.ret 108 [V.b false] h))
 (If (x0Kind == (2 : Int))
 (∃ (cs : List V),
 ∃ (l : Nat),
 ∃ (c : Option Nat),
 ∃ (n : Int),
 ∃ (n_1 : Int),
 (PCon Tryz.Y (47 : Nat) [V.s s0Text] fun (v : V) =>
 v = V.tup [V.ts cs l c, V.i IntKind.i64 n, V.i IntKind.i64 n_1]) ∧
 If (x0Lo == (0 : Int))
 (If (x0Hi == (0 : Int)) (K Out.ret 108 [V.b false] h)
 (K Out.ret 108 [V.b false] h))
 (K Out.ret 108 [V.b false] h))
 (If (x0Kind == (3 : Int))
 (If (leI x0Hi (9 : Int))
 (If (x0To == (0 : Int)) (K Out.ret 108 [V.b (s0Text == #[].toList)] h)
 (K Out.ret 108 [V.b false] h))
 (K Out.ret 108 [V.b false] h))
 (K Out.ret 108 [V.b false] h)))))
 (If (leI (0 : Int) x0To)
 (If (x0Kind == (1 : Int)) (K Out.ret 108 [V.b false] h)
 (If (x0Kind == (2 : Int))
 (∃ (cs : List V),
 ∃ (l : Nat),
 ∃ (c : Option Nat),
 ∃ (n : Int),
 ∃ (n_1 : Int),
 (PCon Tryz.Y (47 : Nat) [V.s s0Text] fun (v : V) =>
 v = V.tup [V.ts cs l c, V.i IntKind.i64 n, V.i IntKind.i64 n_1]) ∧
 If (x0Lo == (0 : Int))
 (If (x0Hi == (0 : Int))
 (If (ltI x0To (↑n1Places : Int)) (K Out.ret 108 [V.b (n_1 == (0 : Int))] h)
 (K Out.ret 108 [V.b false] h))
 (K Out.ret 108 [V.b false] h))
 (K Out.ret 108 [V.b false] h))
 (If (x0Kind == (3 : Int)) (K Out.ret 108 [V.b false] h)
 (K Out.ret 108 [V.b false] h))))
 (If (x0Kind == (1 : Int)) (K Out.ret 108 [V.b false] h)
 (If (x0Kind == (2 : Int))
 (∃ (cs : List V),
 ∃ (l : Nat),
 ∃ (c : Option Nat),
 ∃ (n : Int),
 ∃ (n_1 : Int),
 (PCon Tryz.Y (47 : Nat) [V.s s0Text] fun (v : V) =>
 v = V.tup [V.ts cs l c, V.i IntKind.i64 n, V.i IntKind.i64 n_1]) ∧
 If (x0Lo == (0 : Int))
 (If (x0Hi == (0 : Int)) (K Out.ret 108 [V.b false] h)
 (K Out.ret 108 [V.b false] h))
 (K Out.ret 108 [V.b false] h))
 (If (x0Kind == (3 : Int)) (K Out.ret 108 [V.b false] h)
 (K Out.ret 108 [V.b false] h)))))))
 (If (leI (0 : Int) x0To)
 (If (x0Kind == (1 : Int)) (K Out.ret 108 [V.b false] h)
 (If (x0Kind == (2 : Int))
 (∃ (cs : List V),
 ∃ (l : Nat),
 ∃ (c : Option Nat),
 ∃ (n : Int),
 ∃ (n_1 : Int),
 (PCon Tryz.Y (47 : Nat) [V.s s0Text] fun (v : V) =>
 v = V.tup [V.ts cs l c, V.i IntKind.i64 n, V.i IntKind.i64 n_1]) ∧
 If (x0Lo == (0 : Int))
 (If (x0Hi == (0 : Int))
 (If (ltI x0To (↑n1Places : Int)) (K Out.ret 108 [V.b (n_1 == (0 : Int))] h)
 (K Out.ret 108 [V.b false] h))
 (K Out.ret 108 [V.b false] h))
 (K Out.ret 108 [V.b false] h))
 (If (x0Kind == (3 : Int)) (K Out.ret 108 [V.b false] h) (K Out.ret 108 [V.b false] h))))
 (If (x0Kind == (1 : Int)) (K Out.ret 108 [V.b false] h)
 (If (x0Kind == (2 : Int))
 (∃ (cs : List V),
 ∃ (l : Nat),
 ∃ (c : Option Nat),
 ∃ (n : Int),
 ∃ (n_1 : Int),
 (PCon Tryz.Y (47 : Nat) [V.s s0Text] fun (v : V) =>
 v = V.tup [V.ts cs l c, V.i IntKind.i64 n, V.i IntKind.i64 n_1]) ∧
 If (x0Lo == (0 : Int))
 (If (x0Hi == (0 : Int)) (K Out.ret 108 [V.b false] h)
 (K Out.ret 108 [V.b false] h))
 (K Out.ret 108 [V.b false] h))
 (If (x0Kind == (3 : Int)) (K Out.ret 108 [V.b false] h) (K Out.ret 108 [V.b false] h))))))
  (If (leI (0 : Int) x0To)
 (If (x0Kind == (1 : Int)) (K Out.ret 108 [V.b false] h)
 (If (x0Kind == (2 : Int))
 (∃ (cs : List V),
 ∃ (l : Nat),
 ∃ (c : Option Nat),
 ∃ (n : Int),
 ∃ (n_1 : Int),
 (PCon Tryz.Y (47 : Nat) [V.s s0Text] fun (v : V) =>
 v = V.tup [V.ts cs l c, V.i IntKind.i64 n, V.i IntKind.i64 n_1]) ∧
 If (x0Lo == (0 : Int))
 (If (x0Hi == (0 : Int))
 (If (ltI x0To (↑n1Places : Int)) (K Out.ret 108 [V.b (n_1 == (0 : Int))] h)
 (K Out.ret 108 [V.b false] h))
 (K Out.ret 108 [V.b false] h))
 (K Out.ret 108 [V.b false] h))
 (If (x0Kind == (3 : Int)) (K Out.ret 108 [V.b false] h) (K Out.ret 108 [V.b false] h))))
 (If (x0Kind == (1 : Int)) (K Out.ret 108 [V.b false] h)
 (If (x0Kind == (2 : Int))
 (∃ (cs : List V),
 ∃ (l : Nat),
 ∃ (c : Option Nat),
 ∃ (n : Int),
 ∃ (n_1 : Int),
 (PCon Tryz.Y (47 : Nat) [V.s s0Text] fun (v : V) =>
 v = V.tup [V.ts cs l c, V.i IntKind.i64 n, V.i IntKind.i64 n_1]) ∧
 If (x0Lo == (0 : Int))
 (If (x0Hi == (0 : Int)) (K Out.ret 108 [V.b false] h)
 (K Out.ret 108 [V.b false] h))
 (K Out.ret 108 [V.b false] h))
 (If (x0Kind == (3 : Int)) (K Out.ret 108 [V.b false] h) (K Out.ret 108 [V.b false] h)))))) := by kernel_rfl
end Go.Y

/- souffleurref13.edge, by its contract. -/
namespace Go.Y
open Go.Proofs
set_option maxRecDepth 100000

theorem nonempty_le (s : List UInt8) : (!(s == [])) = leI 1 (s.length : Nat) := by
  cases s with
  | nil => rfl
  | cons c r => simp [leI]; omega
theorem edgeS_eq (e : Edge) (cap : Int) (np : Nat) : edgeS e cap np =
    cond (e.kind == 1) (leI 0 e.to && ltI e.to np && (leI 0 e.lo && leI e.lo 9 && (e.hi == -1 || leI e.lo e.hi && leI e.hi 9)) && leI 1 (e.text.length : Nat) && leI e.text.length cap)
      (cond (e.kind == 2) (leI 0 e.to && ltI e.to np && (e.lo == 0) && (e.hi == 0) && globS e.text)
        (cond (e.kind == 3) ((e.to == 0) && (e.text == []) && (leI 0 e.lo && leI e.lo 9 && (e.hi == -1 || leI e.lo e.hi && leI e.hi 9))) false)) := by
  unfold edgeS toS timesS
  rw [nonempty_le]
  by_cases h1 : e.kind = 1
  · simp only [h1, if_true, beq_self_eq_true, cond_true]
  · have b1 : (e.kind == 1) = false := by simpa using h1
    rw [if_neg h1, b1, cond_false]
    by_cases h2 : e.kind = 2
    · simp only [h2, if_true, beq_self_eq_true, cond_true]
    · have b2 : (e.kind == 2) = false := by simpa using h2
      rw [if_neg h2, b2, cond_false]
      by_cases h3 : e.kind = 3
      · simp only [h3, if_true, beq_self_eq_true, cond_true]
      · have b3 : (e.kind == 3) = false := by simpa using h3
        rw [if_neg h3, b3, cond_false]

theorem redge_con (e : Edge) (cap : Int) (cs : List V) (np : Nat) : PCon Tryz.Y 41 [.agg (encE e), .agg [.i .i64 cap, .ts cs np none]] (· = .b (edgeS e cap np)) := by
  refine tree_con Tryz.Yok (fn := Tryz.f41) (by kernel_rfl) (by kernel_rfl) rfl (fun K => f41_0 e.kind e.text e.lo e.hi e.to cap cs np .empty K) rfl ?_
  obtain ⟨l, a, er, hp, he⟩ := parseR_cases e.text
  have hpc : PCon Tryz.Y 47 [.s e.text] fun v => v = .tup [.ts (row encG l) l.length none, .i .i64 a, .i .i64 er] := (rparse_con e.text).mono fun r hr => by rw [hr, hp]
  have fin : ∀ (b : Bool) (h : Heap), b = edgeS e cap np → Fin Tryz.Y Tryz.f41 [4] (fun v h => ∃ r, Frz h v r ∧ r = .b (edgeS e cap np)) .ret 108 [.b b] h := fun b h e2 => finV1 (.inr rfl) rfl (.b _) (by rw [e2])
  generalize Fin Tryz.Y Tryz.f41 [4] (fun v h => ∃ r, Frz h v r ∧ r = .b (edgeS e cap np)) = K at fin ⊢
  rw [edgeS_eq, ← he] at fin
  clear he hp
  repeat' first
    | refine if_mk (fun _ => ?_) (fun _ => ?_)
    | refine ⟨_, _, _, _, _, hpc, ?_⟩
    | refine fin _ _ ?_
  all_goals simp only [*, cond_true, cond_false, Bool.and_true, Bool.true_and, Bool.and_false, Bool.false_and, Bool.or_true, Bool.true_or, Bool.or_false, Bool.false_or]
  all_goals rfl
end Go.Y
