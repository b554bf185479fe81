/- What the pieces of functions come to: printed by program. -/
import Derived.Test.YtfnpgefoikffdaaDoorYTrydP
import Derived.Test.YtfnpgefoikffdaaDoorYFun
namespace Go.Y
open Go.Proofs
set_option maxRecDepth 100000
set_option maxHeartbeats 0
theorem f10_0 (x0PC : Int) (cs0Vars : List V) (n0Vars : Nat) (s0Cuts_0 : List UInt8) (s0Cuts_1 : List UInt8) (s0Cuts_2 : List UInt8) (s0Cuts_3 : List UInt8) (s0Cuts_4 : List UInt8) (s0Cuts_5 : List UInt8) (s0Cuts_6 : List UInt8) (s0Cuts_7 : List UInt8) (s0Cuts_8 : List UInt8) (s0Cuts_9 : List UInt8) (cs0Stack : List V) (n0Stack : Nat) (x0Mode : Int) (x0Err : Int) (x0Use : Int) (x0Timeout : Int) (x0Elapsed : Int) (cs0Before : List V) (n0Before : Nat) (cs0After : List V) (n0After : Nat) (cs0Sides : List V) (n0Sides : Nat) (h : Heap) (K : Out → Nat → List V → Heap → Prop) : (codeP Tryd.Y (Tryd.Y.loc 10) 100 (pre (flat (bodyOf Tryd.f10))) ⟨(V.agg [V.i IntKind.i64 x0PC, V.ts cs0Vars n0Vars none, V.s s0Cuts_0, V.s s0Cuts_1, V.s s0Cuts_2, V.s s0Cuts_3, V.s s0Cuts_4, V.s s0Cuts_5, V.s s0Cuts_6, V.s s0Cuts_7, V.s s0Cuts_8, V.s s0Cuts_9, V.ts cs0Stack n0Stack none, V.i IntKind.i64 x0Mode, V.i IntKind.i64 x0Err, V.i IntKind.i64 x0Use, V.i IntKind.i64 x0Timeout, V.i IntKind.i64 x0Elapsed, V.ts cs0Before n0Before none, V.ts cs0After n0After none, V.ts cs0Sides n0Sides none] :: List.replicate 139 .undef), [], h⟩ (VQ [1, 3, 4] K)) =
  (If (leI (0 : Int) x0Mode)
  (If (leI x0Mode (3 : Int))
 (((0 : Int) ≤ x0Mode ∧ x0Mode < (↑(4 : Nat) : Int)) ∧
 ∃ (s : List UInt8),
 takeX 1
 (List.drop (x0Mode.toNat * (1 : Nat))
 [V.s ([114, 117, 110, 115] : List UInt8),
 V.s ([119, 97, 105, 116, 115] : List UInt8),
 V.s ([101, 110, 100, 101, 100] : List UInt8),
 V.s
 ([98, 114, 111, 107, 101, 110] : List UInt8)]) =
 some [V.s s] ∧
 ∃ (s_1 : List UInt8),
 (PCon Tryd.Y (19 : Nat) [V.i IntKind.i64 x0PC] fun (v : V) => v = V.s s_1) ∧
 s.length + s_1.length ≤ 1152921504606846976 ∧
 If (x0Mode == (3 : Int))
 (∃ (s_2 : List UInt8),
 (PCon Tryd.Y (19 : Nat) [V.i IntKind.i64 x0Err] fun (v : V) => v = V.s s_2) ∧
 (s ++ s_1).length + s_2.length ≤ 1152921504606846976 ∧
 (s ++ s_1 ++ s_2).length + ([10] : List UInt8).length ≤ 1152921504606846976 ∧
 K Out.normal 140
 [V.lb
 [V.i IntKind.i64 x0PC, V.ts cs0Vars n0Vars none, V.s s0Cuts_0, V.s s0Cuts_1,
 V.s s0Cuts_2, V.s s0Cuts_3, V.s s0Cuts_4, V.s s0Cuts_5, V.s s0Cuts_6, V.s s0Cuts_7,
 V.s s0Cuts_8, V.s s0Cuts_9, V.ts cs0Stack n0Stack none, V.i IntKind.i64 x0Mode,
 V.i IntKind.i64 x0Err, V.i IntKind.i64 x0Use, V.i IntKind.i64 x0Timeout,
 V.i IntKind.i64 x0Elapsed, V.ts cs0Before n0Before none, V.ts cs0After n0After none,
 V.ts cs0Sides n0Sides none],
 V.s (s ++ s_1 ++ s_2 ++ ([10] : List UInt8)), V.i IntKind.i64 (0 : Int)]
 h)
 ((s ++ s_1).length + ([10] : List UInt8).length ≤ 1152921504606846976 ∧
 K Out.normal 140
 [V.lb
 [V.i IntKind.i64 x0PC, V.ts cs0Vars n0Vars none, V.s s0Cuts_0, V.s s0Cuts_1, V.s s0Cuts_2,
 V.s s0Cuts_3, V.s s0Cuts_4, V.s s0Cuts_5, V.s s0Cuts_6, V.s s0Cuts_7, V.s s0Cuts_8,
 V.s s0Cuts_9, V.ts cs0Stack n0Stack none, V.i IntKind.i64 x0Mode, V.i IntKind.i64 x0Err,
 V.i IntKind.i64 x0Use, V.i IntKind.i64 x0Timeout, V.i IntKind.i64 x0Elapsed,
 V.ts cs0Before n0Before none, V.ts cs0After n0After none, V.ts cs0Sides n0Sides none],
 V.s (s ++ s_1 ++ ([10] : List UInt8)), V.i IntKind.i64 (0 : Int)]
 h))
 (∃ (s : List UInt8),
 (PCon Tryd.Y (19 : Nat) [V.i IntKind.i64 x0PC] fun (v : V) => v = V.s s) ∧
 ([63] : List UInt8).length + s.length ≤ 1152921504606846976 ∧
 If (x0Mode == (3 : Int))
 (∃ (s_1 : List UInt8),
 (PCon Tryd.Y (19 : Nat) [V.i IntKind.i64 x0Err] fun (v : V) => v = V.s s_1) ∧
 (([63] : List UInt8) ++ s).length + s_1.length ≤ 1152921504606846976 ∧
 (([63] : List UInt8) ++ s ++ s_1).length + ([10] : List UInt8).length ≤
 1152921504606846976 ∧
 K Out.normal 140
 [V.lb
 [V.i IntKind.i64 x0PC, V.ts cs0Vars n0Vars none, V.s s0Cuts_0, V.s s0Cuts_1, V.s s0Cuts_2,
 V.s s0Cuts_3, V.s s0Cuts_4, V.s s0Cuts_5, V.s s0Cuts_6, V.s s0Cuts_7, V.s s0Cuts_8,
 V.s s0Cuts_9, V.ts cs0Stack n0Stack none, V.i IntKind.i64 x0Mode, V.i IntKind.i64 x0Err,
 V.i IntKind.i64 x0Use, V.i IntKind.i64 x0Timeout, V.i IntKind.i64 x0Elapsed,
 V.ts cs0Before n0Before none, V.ts cs0After n0After none, V.ts cs0Sides n0Sides none],
 V.s (([63] : List UInt8) ++ s ++ s_1 ++ ([10] : List UInt8)), V.i IntKind.i64 (0 : Int)]
 h)
 ((([63] : List UInt8) ++ s).length + ([10] : List UInt8).length ≤ 1152921504606846976 ∧
 K Out.normal 140
 [V.lb
 [V.i IntKind.i64 x0PC, V.ts cs0Vars n0Vars none, V.s s0Cuts_0, V.s s0Cuts_1, V.s s0Cuts_2,
 V.s s0Cuts_3, V.s s0Cuts_4, V.s s0Cuts_5, V.s s0Cuts_6, V.s s0Cuts_7, V.s s0Cuts_8, V.s s0Cuts_9,
 V.ts cs0Stack n0Stack none, V.i IntKind.i64 x0Mode, V.i IntKind.i64 x0Err, V.i IntKind.i64 x0Use,
 V.i IntKind.i64 x0Timeout, V.i IntKind.i64 x0Elapsed, V.ts cs0Before n0Before none,
 V.ts cs0After n0After none, V.ts cs0Sides n0Sides none],
 V.s (([63] : List UInt8) ++ s ++ ([10] : List UInt8)), V.i IntKind.i64 (0 : Int)]
 h)))
  (∃ (s : List UInt8),
 (PCon Tryd.Y (19 : Nat) [V.i IntKind.i64 x0PC] fun (v : V) => v = V.s s) ∧
 ([63] : List UInt8).length + s.length ≤ 1152921504606846976 ∧
 If (x0Mode == (3 : Int))
 (∃ (s_1 : List UInt8),
 (PCon Tryd.Y (19 : Nat) [V.i IntKind.i64 x0Err] fun (v : V) => v = V.s s_1) ∧
 (([63] : List UInt8) ++ s).length + s_1.length ≤ 1152921504606846976 ∧
 (([63] : List UInt8) ++ s ++ s_1).length + ([10] : List UInt8).length ≤
 1152921504606846976 ∧
 K Out.normal 140
 [V.lb
 [V.i IntKind.i64 x0PC, V.ts cs0Vars n0Vars none, V.s s0Cuts_0, V.s s0Cuts_1, V.s s0Cuts_2,
 V.s s0Cuts_3, V.s s0Cuts_4, V.s s0Cuts_5, V.s s0Cuts_6, V.s s0Cuts_7, V.s s0Cuts_8,
 V.s s0Cuts_9, V.ts cs0Stack n0Stack none, V.i IntKind.i64 x0Mode, V.i IntKind.i64 x0Err,
 V.i IntKind.i64 x0Use, V.i IntKind.i64 x0Timeout, V.i IntKind.i64 x0Elapsed,
 V.ts cs0Before n0Before none, V.ts cs0After n0After none, V.ts cs0Sides n0Sides none],
 V.s (([63] : List UInt8) ++ s ++ s_1 ++ ([10] : List UInt8)), V.i IntKind.i64 (0 : Int)]
 h)
 ((([63] : List UInt8) ++ s).length + ([10] : List UInt8).length ≤ 1152921504606846976 ∧
 K Out.normal 140
 [V.lb
 [V.i IntKind.i64 x0PC, V.ts cs0Vars n0Vars none, V.s s0Cuts_0, V.s s0Cuts_1, V.s s0Cuts_2,
 V.s s0Cuts_3, V.s s0Cuts_4, V.s s0Cuts_5, V.s s0Cuts_6, V.s s0Cuts_7, V.s s0Cuts_8, V.s s0Cuts_9,
 V.ts cs0Stack n0Stack none, V.i IntKind.i64 x0Mode, V.i IntKind.i64 x0Err, V.i IntKind.i64 x0Use,
 V.i IntKind.i64 x0Timeout, V.i IntKind.i64 x0Elapsed, V.ts cs0Before n0Before none,
 V.ts cs0After n0After none, V.ts cs0Sides n0Sides none],
 V.s (([63] : List UInt8) ++ s ++ ([10] : List UInt8)), V.i IntKind.i64 (0 : Int)]
 h))) := by kernel_rfl
theorem f10_1 (x0PC : Int) (cs0Vars : List V) (n0Vars : Nat) (cs0Stack : List V) (n0Stack : Nat) (x0Mode : Int) (x0Err : Int) (x0Use : Int) (x0Timeout : Int) (x0Elapsed : Int) (cs0Before : List V) (n0Before : Nat) (cs0After : List V) (n0After : Nat) (cs0Sides : List V) (n0Sides : Nat) (s1_2 : List UInt8) (s1_3 : List UInt8) (s1_4 : List UInt8) (s1_5 : List UInt8) (s1_6 : List UInt8) (s1_7 : List UInt8) (s1_8 : List UInt8) (s1_9 : List UInt8) (s1_10 : List UInt8) (s1_11 : List UInt8) (s3 : List UInt8) (x4 : Int) (h : Heap) (K : Out → Nat → List V → Heap → Prop) : (codeP Tryd.Y (Tryd.Y.loc 10) 100 ((flat (loopB (post (flat (bodyOf Tryd.f10)))))) ⟨mk 140 (([1, 3, 4] : List Nat).zip [V.lb [V.i IntKind.i64 x0PC, V.ts cs0Vars n0Vars none, V.s s1_2, V.s s1_3, V.s s1_4, V.s s1_5, V.s s1_6, V.s s1_7, V.s s1_8, V.s s1_9, V.s s1_10, V.s s1_11, V.ts cs0Stack n0Stack none, V.i IntKind.i64 x0Mode, V.i IntKind.i64 x0Err, V.i IntKind.i64 x0Use, V.i IntKind.i64 x0Timeout, V.i IntKind.i64 x0Elapsed, V.ts cs0Before n0Before none, V.ts cs0After n0After none, V.ts cs0Sides n0Sides none], V.s s3, V.i IntKind.i64 x4]), [], h⟩ (VQ [1, 3, 4] K)) =
  (If (ltI x4 (↑n0Vars : Int))
  (s3.length + ([115, 101, 116, 32] : List UInt8).length ≤
 1152921504606846976 ∧
 ((0 : Int) ≤ x4 ∧ x4 < (↑n0Vars : Int)) ∧
 ∃ (s : List UInt8),
 takeX 1 (List.drop (0 : Nat) (List.drop (x4.toNat * (2 : Nat)) cs0Vars)) = some [V.s s] ∧
 (s3 ++ ([115, 101, 116, 32] : List UInt8)).length + s.length ≤
 1152921504606846976 ∧
 (s3 ++ ([115, 101, 116, 32] : List UInt8) ++ s).length +
 ([32] : List UInt8).length ≤
 1152921504606846976 ∧
 ((0 : Int) ≤ x4 ∧ x4 < (↑n0Vars : Int)) ∧
 ∃ (s_1 : List UInt8),
 takeX 1 (List.drop (1 : Nat) (List.drop (x4.toNat * (2 : Nat)) cs0Vars)) = some [V.s s_1] ∧
 ∃ (s_2 : List UInt8),
 (PCon Tryd.Y (12 : Nat) [V.s s_1] fun (v : V) => v = V.s s_2) ∧
 (s3 ++ ([115, 101, 116, 32] : List UInt8) ++ s ++
 ([32] : List UInt8)).length +
 s_2.length ≤
 1152921504606846976 ∧
 (s3 ++ ([115, 101, 116, 32] : List UInt8) ++ s ++
 ([32] : List UInt8) ++
 s_2).length +
 ([10] : List UInt8).length ≤
 1152921504606846976 ∧
 K Out.normal 140
 [V.lb
 [V.i IntKind.i64 x0PC, V.ts cs0Vars n0Vars none, V.s s1_2, V.s s1_3, V.s s1_4,
 V.s s1_5, V.s s1_6, V.s s1_7, V.s s1_8, V.s s1_9, V.s s1_10, V.s s1_11,
 V.ts cs0Stack n0Stack none, V.i IntKind.i64 x0Mode, V.i IntKind.i64 x0Err,
 V.i IntKind.i64 x0Use, V.i IntKind.i64 x0Timeout, V.i IntKind.i64 x0Elapsed,
 V.ts cs0Before n0Before none, V.ts cs0After n0After none,
 V.ts cs0Sides n0Sides none],
 V.s
 (s3 ++ ([115, 101, 116, 32] : List UInt8) ++ s ++
 ([32] : List UInt8) ++
 s_2 ++
 ([10] : List UInt8)),
 V.i IntKind.i64 (IntKind.i64.wrap (x4 + (1 : Int)))]
 h)
  (K (Out.exit 0) 140
 [V.lb
 [V.i IntKind.i64 x0PC, V.ts cs0Vars n0Vars none, V.s s1_2, V.s s1_3, V.s s1_4, V.s s1_5, V.s s1_6, V.s s1_7,
 V.s s1_8, V.s s1_9, V.s s1_10, V.s s1_11, V.ts cs0Stack n0Stack none, V.i IntKind.i64 x0Mode,
 V.i IntKind.i64 x0Err, V.i IntKind.i64 x0Use, V.i IntKind.i64 x0Timeout, V.i IntKind.i64 x0Elapsed,
 V.ts cs0Before n0Before none, V.ts cs0After n0After none, V.ts cs0Sides n0Sides none],
 V.s s3, V.i IntKind.i64 x4]
 h)) := by kernel_rfl
theorem f10_2 (x0PC : Int) (cs0Vars : List V) (n0Vars : Nat) (cs0Stack : List V) (n0Stack : Nat) (x0Mode : Int) (x0Err : Int) (x0Use : Int) (x0Timeout : Int) (x0Elapsed : Int) (cs0Before : List V) (n0Before : Nat) (cs0After : List V) (n0After : Nat) (cs0Sides : List V) (n0Sides : Nat) (s1_2z2 : List UInt8) (s1_3z2 : List UInt8) (s1_4z2 : List UInt8) (s1_5z2 : List UInt8) (s1_6z2 : List UInt8) (s1_7z2 : List UInt8) (s1_8z2 : List UInt8) (s1_9z2 : List UInt8) (s1_10z2 : List UInt8) (s1_11z2 : List UInt8) (s3z2 : List UInt8) (h : Heap) (K : Out → Nat → List V → Heap → Prop) : (codeP Tryd.Y (Tryd.Y.loc 10) 100 (pre ((post (flat (bodyOf Tryd.f10))).drop 1)) ⟨mk 140 (([1, 3] : List Nat).zip [V.lb [V.i IntKind.i64 x0PC, V.ts cs0Vars n0Vars none, V.s s1_2z2, V.s s1_3z2, V.s s1_4z2, V.s s1_5z2, V.s s1_6z2, V.s s1_7z2, V.s s1_8z2, V.s s1_9z2, V.s s1_10z2, V.s s1_11z2, V.ts cs0Stack n0Stack none, V.i IntKind.i64 x0Mode, V.i IntKind.i64 x0Err, V.i IntKind.i64 x0Use, V.i IntKind.i64 x0Timeout, V.i IntKind.i64 x0Elapsed, V.ts cs0Before n0Before none, V.ts cs0After n0After none, V.ts cs0Sides n0Sides none], V.s s3z2]), [], h⟩ (VQ [1, 3, 5] K)) =
  (K Out.normal 140
  [V.lb
 [V.i IntKind.i64 x0PC, V.ts cs0Vars n0Vars none, V.s s1_2z2, V.s s1_3z2, V.s s1_4z2, V.s s1_5z2, V.s s1_6z2,
 V.s s1_7z2, V.s s1_8z2, V.s s1_9z2, V.s s1_10z2, V.s s1_11z2, V.ts cs0Stack n0Stack none,
 V.i IntKind.i64 x0Mode, V.i IntKind.i64 x0Err, V.i IntKind.i64 x0Use, V.i IntKind.i64 x0Timeout,
 V.i IntKind.i64 x0Elapsed, V.ts cs0Before n0Before none, V.ts cs0After n0After none,
 V.ts cs0Sides n0Sides none],
 V.s s3z2, V.i IntKind.i64 (0 : Int)]
  h) := by kernel_rfl
theorem f10_3 (x0PC : Int) (cs0Vars : List V) (n0Vars : Nat) (cs0Stack : List V) (n0Stack : Nat) (x0Mode : Int) (x0Err : Int) (x0Use : Int) (x0Timeout : Int) (x0Elapsed : Int) (cs0Before : List V) (n0Before : Nat) (cs0After : List V) (n0After : Nat) (cs0Sides : List V) (n0Sides : Nat) (s1_2z3 : List UInt8) (s1_3z3 : List UInt8) (s1_4z3 : List UInt8) (s1_5z3 : List UInt8) (s1_6z3 : List UInt8) (s1_7z3 : List UInt8) (s1_8z3 : List UInt8) (s1_9z3 : List UInt8) (s1_10z3 : List UInt8) (s1_11z3 : List UInt8) (s3z3 : List UInt8) (x5 : Int) (h : Heap) (K : Out → Nat → List V → Heap → Prop) : (codeP Tryd.Y (Tryd.Y.loc 10) 100 (pre (flat (loopB (post ((post (flat (bodyOf Tryd.f10))).drop 1))))) ⟨mk 140 (([1, 3, 5] : List Nat).zip [V.lb [V.i IntKind.i64 x0PC, V.ts cs0Vars n0Vars none, V.s s1_2z3, V.s s1_3z3, V.s s1_4z3, V.s s1_5z3, V.s s1_6z3, V.s s1_7z3, V.s s1_8z3, V.s s1_9z3, V.s s1_10z3, V.s s1_11z3, V.ts cs0Stack n0Stack none, V.i IntKind.i64 x0Mode, V.i IntKind.i64 x0Err, V.i IntKind.i64 x0Use, V.i IntKind.i64 x0Timeout, V.i IntKind.i64 x0Elapsed, V.ts cs0Before n0Before none, V.ts cs0After n0After none, V.ts cs0Sides n0Sides none], V.s s3z3, V.i IntKind.i64 x5]), [], h⟩ (VQ [1, 3, 5] K)) =
  (If (ltI x5 (↑n0Sides : Int))
  (K Out.normal 140
 [V.lb
 [V.i IntKind.i64 x0PC, V.ts cs0Vars n0Vars none, V.s s1_2z3, V.s s1_3z3, V.s s1_4z3, V.s s1_5z3, V.s s1_6z3,
 V.s s1_7z3, V.s s1_8z3, V.s s1_9z3, V.s s1_10z3, V.s s1_11z3, V.ts cs0Stack n0Stack none,
 V.i IntKind.i64 x0Mode, V.i IntKind.i64 x0Err, V.i IntKind.i64 x0Use, V.i IntKind.i64 x0Timeout,
 V.i IntKind.i64 x0Elapsed, V.ts cs0Before n0Before none, V.ts cs0After n0After none,
 V.ts cs0Sides n0Sides none],
 V.s s3z3, V.i IntKind.i64 x5]
 h)
  (K (Out.exit 2) 140
 [V.lb
 [V.i IntKind.i64 x0PC, V.ts cs0Vars n0Vars none, V.s s1_2z3, V.s s1_3z3, V.s s1_4z3, V.s s1_5z3, V.s s1_6z3,
 V.s s1_7z3, V.s s1_8z3, V.s s1_9z3, V.s s1_10z3, V.s s1_11z3, V.ts cs0Stack n0Stack none,
 V.i IntKind.i64 x0Mode, V.i IntKind.i64 x0Err, V.i IntKind.i64 x0Use, V.i IntKind.i64 x0Timeout,
 V.i IntKind.i64 x0Elapsed, V.ts cs0Before n0Before none, V.ts cs0After n0After none,
 V.ts cs0Sides n0Sides none],
 V.s s3z3, V.i IntKind.i64 x5]
 h)) := by kernel_rfl
theorem f10_4 (x0PC : Int) (cs0Vars : List V) (n0Vars : Nat) (cs0Stack : List V) (n0Stack : Nat) (x0Mode : Int) (x0Err : Int) (x0Use : Int) (x0Timeout : Int) (x0Elapsed : Int) (cs0Before : List V) (n0Before : Nat) (cs0After : List V) (n0After : Nat) (cs0Sides : List V) (n0Sides : Nat) (s1_2z3 : List UInt8) (s1_3z3 : List UInt8) (s1_4z3 : List UInt8) (s1_5z3 : List UInt8) (s1_6z3 : List UInt8) (s1_7z3 : List UInt8) (s1_8z3 : List UInt8) (s1_9z3 : List UInt8) (s1_10z3 : List UInt8) (s1_11z3 : List UInt8) (s3z3 : List UInt8) (x5 : Int) (h : Heap) (K : Out → Nat → List V → Heap → Prop) : (codeP Tryd.Y (Tryd.Y.loc 10) 100 (pre (flat (blockB (post (flat (loopB (post ((post (flat (bodyOf Tryd.f10))).drop 1)))))))) ⟨mk 140 (([1, 3, 5] : List Nat).zip [V.lb [V.i IntKind.i64 x0PC, V.ts cs0Vars n0Vars none, V.s s1_2z3, V.s s1_3z3, V.s s1_4z3, V.s s1_5z3, V.s s1_6z3, V.s s1_7z3, V.s s1_8z3, V.s s1_9z3, V.s s1_10z3, V.s s1_11z3, V.ts cs0Stack n0Stack none, V.i IntKind.i64 x0Mode, V.i IntKind.i64 x0Err, V.i IntKind.i64 x0Use, V.i IntKind.i64 x0Timeout, V.i IntKind.i64 x0Elapsed, V.ts cs0Before n0Before none, V.ts cs0After n0After none, V.ts cs0Sides n0Sides none], V.s s3z3, V.i IntKind.i64 x5]), [], h⟩ (VQ [1, 3, 5, 6, 7] K)) =
  (((0 : Int) ≤ x5 ∧ x5 < (↑n0Sides : Int)) ∧
  ∃ (b : Bool),
 ∃ (b_1 : Bool),
 ∃ (b_2 : Bool),
 ∃ (n : Int),
 ∃ (n_1 : Int),
 ∃ (s : List UInt8),
 ∃ (cs : List V),
 ∃ (l : Nat),
 ∃ (c : Option Nat),
 ∃ (s_1 : List UInt8),
 ∃ (cs_1 : List V),
 ∃ (l_1 : Nat),
 ∃ (c_1 : Option Nat),
 ∃ (s_2 : List UInt8),
 ∃ (s_3 : List UInt8),
 takeX 11 (List.drop (x5.toNat * (11 : Nat)) cs0Sides) =
 some
 [V.b b, V.b b_1, V.b b_2, V.i IntKind.i64 n, V.i IntKind.i64 n_1, V.s s,
 V.ts cs l c, V.s s_1, V.ts cs_1 l_1 c_1, V.s s_2, V.s s_3] ∧
 If (!b)
 (K (Out.exit 3) 140
 [V.lb
 [V.i IntKind.i64 x0PC, V.ts cs0Vars n0Vars none, V.s s1_2z3, V.s s1_3z3,
 V.s s1_4z3, V.s s1_5z3, V.s s1_6z3, V.s s1_7z3, V.s s1_8z3, V.s s1_9z3,
 V.s s1_10z3, V.s s1_11z3, V.ts cs0Stack n0Stack none,
 V.i IntKind.i64 x0Mode, V.i IntKind.i64 x0Err, V.i IntKind.i64 x0Use,
 V.i IntKind.i64 x0Timeout, V.i IntKind.i64 x0Elapsed,
 V.ts cs0Before n0Before none, V.ts cs0After n0After none,
 V.ts cs0Sides n0Sides none],
 V.s s3z3, V.i IntKind.i64 x5,
 V.lb
 [V.b b, V.b b_1, V.b b_2, V.i IntKind.i64 n, V.i IntKind.i64 n_1, V.s s,
 V.ts cs l c, V.s s_1, V.ts cs_1 l_1 c_1, V.s s_2, V.s s_3],
 V.undef]
 h)
 (s3z3.length +
 ([112, 101, 101, 114] : List UInt8).length ≤
 1152921504606846976 ∧
 ∃ (s_4 : List UInt8),
 (PCon Tryd.Y (19 : Nat) [V.i IntKind.i64 x5] fun (v : V) => v = V.s s_4) ∧
 (s3z3 ++
 ([112, 101, 101, 114] : List UInt8)).length +
 s_4.length ≤
 1152921504606846976 ∧
 ∃ (s_5 : List UInt8),
 (PCon Tryd.Y (19 : Nat) [V.i IntKind.i64 n] fun (v : V) => v = V.s s_5) ∧
 (s3z3 ++
 ([112, 101, 101, 114] : List UInt8) ++
 s_4).length +
 s_5.length ≤
 1152921504606846976 ∧
 ∃ (s_6 : List UInt8),
 (PCon Tryd.Y (19 : Nat) [V.i IntKind.i64 n_1] fun (v : V) =>
 v = V.s s_6) ∧
 (s3z3 ++
 ([112, 101, 101, 114] : List UInt8) ++
 s_4 ++
 s_5).length +
 s_6.length ≤
 1152921504606846976 ∧
 If b_1
 ((s3z3 ++
 ([112, 101, 101, 114] : List UInt8) ++
 s_4 ++
 s_5 ++
 s_6).length +
 ([32, 115, 104, 117, 116] : List UInt8).length ≤
 1152921504606846976 ∧
 If b_2
 ((s3z3 ++
 ([112, 101, 101, 114] : List UInt8) ++
 s_4 ++
 s_5 ++
 s_6 ++
 ([32, 115, 104, 117, 116] : List UInt8)).length +
 ([32, 101, 111, 102] : List UInt8).length ≤
 1152921504606846976 ∧
 ∃ (s_7 : List UInt8),
 (PCon Tryd.Y (28 : Nat)
 [V.s
 ([116, 121, 112, 101, 100] : List UInt8),
 V.s s]
 fun (v : V) => v = V.s s_7) ∧
 (s3z3 ++
 ([112, 101, 101, 114] : List UInt8) ++
 s_4 ++
 s_5 ++
 s_6 ++
 ([32, 115, 104, 117, 116] : List UInt8) ++
 ([32, 101, 111, 102] : List UInt8)).length +
 s_7.length ≤
 1152921504606846976 ∧
 If (ltI (0 : Int) (↑l : Int))
 ((s3z3 ++
 ([112, 101, 101, 114] : List UInt8) ++
 s_4 ++
 s_5 ++
 s_6 ++
 ([32, 115, 104, 117, 116] : List UInt8) ++
 ([32, 101, 111, 102] : List UInt8) ++
 s_7).length +
 ([32, 108, 105, 110, 101, 115] : List UInt8).length ≤
 1152921504606846976 ∧
 K Out.normal 140
 [V.lb
 [V.i IntKind.i64 x0PC,
 V.ts cs0Vars n0Vars none, V.s s1_2z3,
 V.s s1_3z3, V.s s1_4z3, V.s s1_5z3,
 V.s s1_6z3, V.s s1_7z3, V.s s1_8z3,
 V.s s1_9z3, V.s s1_10z3, V.s s1_11z3,
 V.ts cs0Stack n0Stack none,
 V.i IntKind.i64 x0Mode,
 V.i IntKind.i64 x0Err,
 V.i IntKind.i64 x0Use,
 V.i IntKind.i64 x0Timeout,
 V.i IntKind.i64 x0Elapsed,
 V.ts cs0Before n0Before none,
 V.ts cs0After n0After none,
 V.ts cs0Sides n0Sides none],
 V.s
 (s3z3 ++
 ([112, 101, 101, 114] : List UInt8) ++
 s_4 ++
 s_5 ++
 s_6 ++
 ([32, 115, 104, 117, 116] : List UInt8) ++
 ([32, 101, 111, 102] : List UInt8) ++
 s_7 ++
 ([32, 108, 105, 110, 101, 115] : List UInt8)),
 V.i IntKind.i64 x5,
 V.lb
 [V.b b, V.b b_1, V.b b_2,
 V.i IntKind.i64 n,
 V.i IntKind.i64 n_1, V.s s,
 V.ts cs l c, V.s s_1,
 V.ts cs_1 l_1 c_1, V.s s_2, V.s s_3],
 V.i IntKind.i64 (0 : Int)]
 h)
 (K Out.normal 140
 [V.lb
 [V.i IntKind.i64 x0PC,
 V.ts cs0Vars n0Vars none, V.s s1_2z3,
 V.s s1_3z3, V.s s1_4z3, V.s s1_5z3,
 V.s s1_6z3, V.s s1_7z3, V.s s1_8z3,
 V.s s1_9z3, V.s s1_10z3, V.s s1_11z3,
 V.ts cs0Stack n0Stack none,
 V.i IntKind.i64 x0Mode,
 V.i IntKind.i64 x0Err,
 V.i IntKind.i64 x0Use,
 V.i IntKind.i64 x0Timeout,
 V.i IntKind.i64 x0Elapsed,
 V.ts cs0Before n0Before none,
 V.ts cs0After n0After none,
 V.ts cs0Sides n0Sides none],
 V.s
 (s3z3 ++
 ([112, 101, 101, 114] : List UInt8) ++
 s_4 ++
 s_5 ++
 s_6 ++
 ([32, 115, 104, 117, 116] : List UInt8) ++
 ([32, 101, 111, 102] : List UInt8) ++
 s_7),
 V.i IntKind.i64 x5,
 V.lb
 [V.b b, V.b b_1, V.b b_2,
 V.i IntKind.i64 n, V.i IntKind.i64 n_1,
 V.s s, V.ts cs l c, V.s s_1,
 V.ts cs_1 l_1 c_1, V.s s_2, V.s s_3],
 V.i IntKind.i64 (0 : Int)]
 h))
 (∃ (s_7 : List UInt8),
 (PCon Tryd.Y (28 : Nat)
 [V.s
 ([116, 121, 112, 101, 100] : List UInt8),
 V.s s]
 fun (v : V) => v = V.s s_7) ∧
 (s3z3 ++
 ([112, 101, 101, 114] : List UInt8) ++
 s_4 ++
 s_5 ++
 s_6 ++
 ([32, 115, 104, 117, 116] : List UInt8)).length +
 s_7.length ≤
 1152921504606846976 ∧
 If (ltI (0 : Int) (↑l : Int))
 ((s3z3 ++
 ([112, 101, 101, 114] : List UInt8) ++
 s_4 ++
 s_5 ++
 s_6 ++
 ([32, 115, 104, 117, 116] : List UInt8) ++
 s_7).length +
 ([32, 108, 105, 110, 101, 115] : List UInt8).length ≤
 1152921504606846976 ∧
 K Out.normal 140
 [V.lb
 [V.i IntKind.i64 x0PC,
 V.ts cs0Vars n0Vars none, V.s s1_2z3,
 V.s s1_3z3, V.s s1_4z3, V.s s1_5z3,
 V.s s1_6z3, V.s s1_7z3, V.s s1_8z3,
 V.s s1_9z3, V.s s1_10z3, V.s s1_11z3,
 V.ts cs0Stack n0Stack none,
 V.i IntKind.i64 x0Mode,
 V.i IntKind.i64 x0Err,
 V.i IntKind.i64 x0Use,
 V.i IntKind.i64 x0Timeout,
 V.i IntKind.i64 x0Elapsed,
 V.ts cs0Before n0Before none,
 V.ts cs0After n0After none,
 V.ts cs0Sides n0Sides none],
 V.s
 (s3z3 ++
 ([112, 101, 101, 114] : List UInt8) ++
 s_4 ++
 s_5 ++
 s_6 ++
 ([32, 115, 104, 117, 116] : List UInt8) ++
 s_7 ++
 ([32, 108, 105, 110, 101, 115] : List UInt8)),
 V.i IntKind.i64 x5,
 V.lb
 [V.b b, V.b b_1, V.b b_2,
 V.i IntKind.i64 n, V.i IntKind.i64 n_1,
 V.s s, V.ts cs l c, V.s s_1,
 V.ts cs_1 l_1 c_1, V.s s_2, V.s s_3],
 V.i IntKind.i64 (0 : Int)]
 h)
 (K Out.normal 140
 [V.lb
 [V.i IntKind.i64 x0PC,
 V.ts cs0Vars n0Vars none, V.s s1_2z3,
 V.s s1_3z3, V.s s1_4z3, V.s s1_5z3,
 V.s s1_6z3, V.s s1_7z3, V.s s1_8z3,
 V.s s1_9z3, V.s s1_10z3, V.s s1_11z3,
 V.ts cs0Stack n0Stack none,
 V.i IntKind.i64 x0Mode,
 V.i IntKind.i64 x0Err,
 V.i IntKind.i64 x0Use,
 V.i IntKind.i64 x0Timeout,
 V.i IntKind.i64 x0Elapsed,
 V.ts cs0Before n0Before none,
 V.ts cs0After n0After none,
 V.ts cs0Sides n0Sides none],
 V.s
 (s3z3 ++
 ([112, 101, 101, 114] : List UInt8) ++
 s_4 ++
 s_5 ++
 s_6 ++
 ([32, 115, 104, 117, 116] : List UInt8) ++
 s_7),
 V.i IntKind.i64 x5,
 V.lb
 [V.b b, V.b b_1, V.b b_2, V.i IntKind.i64 n,
 V.i IntKind.i64 n_1, V.s s, V.ts cs l c,
 V.s s_1, V.ts cs_1 l_1 c_1, V.s s_2,
 V.s s_3],
 V.i IntKind.i64 (0 : Int)]
 h)))
 (If b_2
 ((s3z3 ++
 ([112, 101, 101, 114] : List UInt8) ++
 s_4 ++
 s_5 ++
 s_6).length +
 ([32, 101, 111, 102] : List UInt8).length ≤
 1152921504606846976 ∧
 ∃ (s_7 : List UInt8),
 (PCon Tryd.Y (28 : Nat)
 [V.s
 ([116, 121, 112, 101, 100] : List UInt8),
 V.s s]
 fun (v : V) => v = V.s s_7) ∧
 (s3z3 ++
 ([112, 101, 101, 114] : List UInt8) ++
 s_4 ++
 s_5 ++
 s_6 ++
 ([32, 101, 111, 102] : List UInt8)).length +
 s_7.length ≤
 1152921504606846976 ∧
 If (ltI (0 : Int) (↑l : Int))
 ((s3z3 ++
 ([112, 101, 101, 114] : List UInt8) ++
 s_4 ++
 s_5 ++
 s_6 ++
 ([32, 101, 111, 102] : List UInt8) ++
 s_7).length +
 ([32, 108, 105, 110, 101, 115] : List UInt8).length ≤
 1152921504606846976 ∧
 K Out.normal 140
 [V.lb
 [V.i IntKind.i64 x0PC,
 V.ts cs0Vars n0Vars none, V.s s1_2z3,
 V.s s1_3z3, V.s s1_4z3, V.s s1_5z3,
 V.s s1_6z3, V.s s1_7z3, V.s s1_8z3,
 V.s s1_9z3, V.s s1_10z3, V.s s1_11z3,
 V.ts cs0Stack n0Stack none,
 V.i IntKind.i64 x0Mode,
 V.i IntKind.i64 x0Err,
 V.i IntKind.i64 x0Use,
 V.i IntKind.i64 x0Timeout,
 V.i IntKind.i64 x0Elapsed,
 V.ts cs0Before n0Before none,
 V.ts cs0After n0After none,
 V.ts cs0Sides n0Sides none],
 V.s
 (s3z3 ++
 ([112, 101, 101, 114] : List UInt8) ++
 s_4 ++
 s_5 ++
 s_6 ++
 ([32, 101, 111, 102] : List UInt8) ++
 s_7 ++
 ([32, 108, 105, 110, 101, 115] : List UInt8)),
 V.i IntKind.i64 x5,
 V.lb
 [V.b b, V.b b_1, V.b b_2,
 V.i IntKind.i64 n, V.i IntKind.i64 n_1,
 V.s s, V.ts cs l c, V.s s_1,
 V.ts cs_1 l_1 c_1, V.s s_2, V.s s_3],
 V.i IntKind.i64 (0 : Int)]
 h)
 (K Out.normal 140
 [V.lb
 [V.i IntKind.i64 x0PC,
 V.ts cs0Vars n0Vars none, V.s s1_2z3,
 V.s s1_3z3, V.s s1_4z3, V.s s1_5z3,
 V.s s1_6z3, V.s s1_7z3, V.s s1_8z3,
 V.s s1_9z3, V.s s1_10z3, V.s s1_11z3,
 V.ts cs0Stack n0Stack none,
 V.i IntKind.i64 x0Mode,
 V.i IntKind.i64 x0Err,
 V.i IntKind.i64 x0Use,
 V.i IntKind.i64 x0Timeout,
 V.i IntKind.i64 x0Elapsed,
 V.ts cs0Before n0Before none,
 V.ts cs0After n0After none,
 V.ts cs0Sides n0Sides none],
 V.s
 (s3z3 ++
 ([112, 101, 101, 114] : List UInt8) ++
 s_4 ++
 s_5 ++
 s_6 ++
 ([32, 101, 111, 102] : List UInt8) ++
 s_7),
 V.i IntKind.i64 x5,
 V.lb
 [V.b b, V.b b_1, V.b b_2, V.i IntKind.i64 n,
 V.i IntKind.i64 n_1, V.s s, V.ts cs l c,
 V.s s_1, V.ts cs_1 l_1 c_1, V.s s_2,
 V.s s_3],
 V.i IntKind.i64 (0 : Int)]
 h))
 (∃ (s_7 : List UInt8),
 (PCon Tryd.Y (28 : Nat)
 [V.s
 ([116, 121, 112, 101, 100] : List UInt8),
 V.s s]
 fun (v : V) => v = V.s s_7) ∧
 (s3z3 ++
 ([112, 101, 101, 114] : List UInt8) ++
 s_4 ++
 s_5 ++
 s_6).length +
 s_7.length ≤
 1152921504606846976 ∧
 If (ltI (0 : Int) (↑l : Int))
 ((s3z3 ++
 ([112, 101, 101, 114] : List UInt8) ++
 s_4 ++
 s_5 ++
 s_6 ++
 s_7).length +
 ([32, 108, 105, 110, 101, 115] : List UInt8).length ≤
 1152921504606846976 ∧
 K Out.normal 140
 [V.lb
 [V.i IntKind.i64 x0PC,
 V.ts cs0Vars n0Vars none, V.s s1_2z3,
 V.s s1_3z3, V.s s1_4z3, V.s s1_5z3,
 V.s s1_6z3, V.s s1_7z3, V.s s1_8z3,
 V.s s1_9z3, V.s s1_10z3, V.s s1_11z3,
 V.ts cs0Stack n0Stack none,
 V.i IntKind.i64 x0Mode,
 V.i IntKind.i64 x0Err,
 V.i IntKind.i64 x0Use,
 V.i IntKind.i64 x0Timeout,
 V.i IntKind.i64 x0Elapsed,
 V.ts cs0Before n0Before none,
 V.ts cs0After n0After none,
 V.ts cs0Sides n0Sides none],
 V.s
 (s3z3 ++
 ([112, 101, 101, 114] : List UInt8) ++
 s_4 ++
 s_5 ++
 s_6 ++
 s_7 ++
 ([32, 108, 105, 110, 101, 115] : List UInt8)),
 V.i IntKind.i64 x5,
 V.lb
 [V.b b, V.b b_1, V.b b_2, V.i IntKind.i64 n,
 V.i IntKind.i64 n_1, V.s s, V.ts cs l c,
 V.s s_1, V.ts cs_1 l_1 c_1, V.s s_2,
 V.s s_3],
 V.i IntKind.i64 (0 : Int)]
 h)
 (K Out.normal 140
 [V.lb
 [V.i IntKind.i64 x0PC,
 V.ts cs0Vars n0Vars none, V.s s1_2z3,
 V.s s1_3z3, V.s s1_4z3, V.s s1_5z3,
 V.s s1_6z3, V.s s1_7z3, V.s s1_8z3,
 V.s s1_9z3, V.s s1_10z3, V.s s1_11z3,
 V.ts cs0Stack n0Stack none,
 V.i IntKind.i64 x0Mode,
 V.i IntKind.i64 x0Err,
 V.i IntKind.i64 x0Use,
 V.i IntKind.i64 x0Timeout,
 V.i IntKind.i64 x0Elapsed,
 V.ts cs0Before n0Before none,
 V.ts cs0After n0After none,
 V.ts cs0Sides n0Sides none],
 V.s
 (s3z3 ++
 ([112, 101, 101, 114] : List UInt8) ++
 s_4 ++
 s_5 ++
 s_6 ++
 s_7),
 V.i IntKind.i64 x5,
 V.lb
 [V.b b, V.b b_1, V.b b_2, V.i IntKind.i64 n,
 V.i IntKind.i64 n_1, V.s s, V.ts cs l c,
 V.s s_1, V.ts cs_1 l_1 c_1, V.s s_2,
 V.s s_3],
 V.i IntKind.i64 (0 : Int)]
 h))))) := by kernel_rfl
theorem f10_5 (x0PC : Int) (cs0Vars : List V) (n0Vars : Nat) (cs0Stack : List V) (n0Stack : Nat) (x0Mode : Int) (x0Err : Int) (x0Use : Int) (x0Timeout : Int) (x0Elapsed : Int) (cs0Before : List V) (n0Before : Nat) (cs0After : List V) (n0After : Nat) (cs0Sides : List V) (n0Sides : Nat) (x5 : Int) (s1_2z7 : List UInt8) (s1_3z7 : List UInt8) (s1_4z7 : List UInt8) (s1_5z7 : List UInt8) (s1_6z7 : List UInt8) (s1_7z7 : List UInt8) (s1_8z7 : List UInt8) (s1_9z7 : List UInt8) (s1_10z7 : List UInt8) (s1_11z7 : List UInt8) (s3z7 : List UInt8) (b6_0z3 : Bool) (b6_1z3 : Bool) (b6_2z3 : Bool) (x6_3z2 : Int) (x6_4z2 : Int) (s6_5z3 : List UInt8) (c6_6z2 : Option Nat) (cs6_6z2 : List V) (n6_6z2 : Nat) (s6_7z3 : List UInt8) (c6_8z2 : Option Nat) (cs6_8z2 : List V) (n6_8z2 : Nat) (s6_9z3 : List UInt8) (s6_10z3 : List UInt8) (x7z2 : Int) (h : Heap) (K : Out → Nat → List V → Heap → Prop) : (codeP Tryd.Y (Tryd.Y.loc 10) 100 ((flat (loopB (post (flat (blockB (post (flat (loopB (post ((post (flat (bodyOf Tryd.f10))).drop 1))))))))))) ⟨mk 140 (([1, 3, 5, 6, 7] : List Nat).zip [V.lb [V.i IntKind.i64 x0PC, V.ts cs0Vars n0Vars none, V.s s1_2z7, V.s s1_3z7, V.s s1_4z7, V.s s1_5z7, V.s s1_6z7, V.s s1_7z7, V.s s1_8z7, V.s s1_9z7, V.s s1_10z7, V.s s1_11z7, V.ts cs0Stack n0Stack none, V.i IntKind.i64 x0Mode, V.i IntKind.i64 x0Err, V.i IntKind.i64 x0Use, V.i IntKind.i64 x0Timeout, V.i IntKind.i64 x0Elapsed, V.ts cs0Before n0Before none, V.ts cs0After n0After none, V.ts cs0Sides n0Sides none], V.s s3z7, V.i IntKind.i64 x5, V.lb [V.b b6_0z3, V.b b6_1z3, V.b b6_2z3, V.i IntKind.i64 x6_3z2, V.i IntKind.i64 x6_4z2, V.s s6_5z3, V.ts cs6_6z2 n6_6z2 c6_6z2, V.s s6_7z3, V.ts cs6_8z2 n6_8z2 c6_8z2, V.s s6_9z3, V.s s6_10z3], V.i IntKind.i64 x7z2]), [], h⟩ (VQ [1, 3, 5, 6, 7] K)) =
  (If (ltI x7z2 (↑n6_6z2 : Int))
  (s3z7.length + ([32] : List UInt8).length ≤ 1152921504606846976 ∧
 ((0 : Int) ≤ x7z2 ∧ x7z2 < (↑n6_6z2 : Int)) ∧
 ∃ (s : List UInt8),
 takeX 1 (List.drop (x7z2.toNat * (1 : Nat)) cs6_6z2) = some [V.s s] ∧
 ∃ (s_1 : List UInt8),
 (PCon Tryd.Y (12 : Nat) [V.s s] fun (v : V) => v = V.s s_1) ∧
 (s3z7 ++ ([32] : List UInt8)).length + s_1.length ≤ 1152921504606846976 ∧
 K Out.normal 140
 [V.lb
 [V.i IntKind.i64 x0PC, V.ts cs0Vars n0Vars none, V.s s1_2z7, V.s s1_3z7, V.s s1_4z7, V.s s1_5z7,
 V.s s1_6z7, V.s s1_7z7, V.s s1_8z7, V.s s1_9z7, V.s s1_10z7, V.s s1_11z7,
 V.ts cs0Stack n0Stack none, V.i IntKind.i64 x0Mode, V.i IntKind.i64 x0Err,
 V.i IntKind.i64 x0Use, V.i IntKind.i64 x0Timeout, V.i IntKind.i64 x0Elapsed,
 V.ts cs0Before n0Before none, V.ts cs0After n0After none, V.ts cs0Sides n0Sides none],
 V.s (s3z7 ++ ([32] : List UInt8) ++ s_1), V.i IntKind.i64 x5,
 V.lb
 [V.b b6_0z3, V.b b6_1z3, V.b b6_2z3, V.i IntKind.i64 x6_3z2, V.i IntKind.i64 x6_4z2, V.s s6_5z3,
 V.ts cs6_6z2 n6_6z2 c6_6z2, V.s s6_7z3, V.ts cs6_8z2 n6_8z2 c6_8z2, V.s s6_9z3, V.s s6_10z3],
 V.i IntKind.i64 (IntKind.i64.wrap (x7z2 + (1 : Int)))]
 h)
  (K (Out.exit 4) 140
 [V.lb
 [V.i IntKind.i64 x0PC, V.ts cs0Vars n0Vars none, V.s s1_2z7, V.s s1_3z7, V.s s1_4z7, V.s s1_5z7, V.s s1_6z7,
 V.s s1_7z7, V.s s1_8z7, V.s s1_9z7, V.s s1_10z7, V.s s1_11z7, V.ts cs0Stack n0Stack none,
 V.i IntKind.i64 x0Mode, V.i IntKind.i64 x0Err, V.i IntKind.i64 x0Use, V.i IntKind.i64 x0Timeout,
 V.i IntKind.i64 x0Elapsed, V.ts cs0Before n0Before none, V.ts cs0After n0After none,
 V.ts cs0Sides n0Sides none],
 V.s s3z7, V.i IntKind.i64 x5,
 V.lb
 [V.b b6_0z3, V.b b6_1z3, V.b b6_2z3, V.i IntKind.i64 x6_3z2, V.i IntKind.i64 x6_4z2, V.s s6_5z3,
 V.ts cs6_6z2 n6_6z2 c6_6z2, V.s s6_7z3, V.ts cs6_8z2 n6_8z2 c6_8z2, V.s s6_9z3, V.s s6_10z3],
 V.i IntKind.i64 x7z2]
 h)) := by kernel_rfl
theorem f10_6 (x0PC : Int) (cs0Vars : List V) (n0Vars : Nat) (cs0Stack : List V) (n0Stack : Nat) (x0Mode : Int) (x0Err : Int) (x0Use : Int) (x0Timeout : Int) (x0Elapsed : Int) (cs0Before : List V) (n0Before : Nat) (cs0After : List V) (n0After : Nat) (cs0Sides : List V) (n0Sides : Nat) (x5 : Int) (x6_3z2 : Int) (x6_4z2 : Int) (c6_6z2 : Option Nat) (cs6_6z2 : List V) (n6_6z2 : Nat) (c6_8z2 : Option Nat) (cs6_8z2 : List V) (n6_8z2 : Nat) (s1_2z8 : List UInt8) (s1_3z8 : List UInt8) (s1_4z8 : List UInt8) (s1_5z8 : List UInt8) (s1_6z8 : List UInt8) (s1_7z8 : List UInt8) (s1_8z8 : List UInt8) (s1_9z8 : List UInt8) (s1_10z8 : List UInt8) (s1_11z8 : List UInt8) (s3z8 : List UInt8) (b6_0z4 : Bool) (b6_1z4 : Bool) (b6_2z4 : Bool) (s6_5z4 : List UInt8) (s6_7z4 : List UInt8) (s6_9z4 : List UInt8) (s6_10z4 : List UInt8) (h : Heap) (K : Out → Nat → List V → Heap → Prop) : (codeP Tryd.Y (Tryd.Y.loc 10) 100 (((post (flat (blockB (post (flat (loopB (post ((post (flat (bodyOf Tryd.f10))).drop 1)))))))).drop 1)) ⟨mk 140 (([1, 3, 5, 6] : List Nat).zip [V.lb [V.i IntKind.i64 x0PC, V.ts cs0Vars n0Vars none, V.s s1_2z8, V.s s1_3z8, V.s s1_4z8, V.s s1_5z8, V.s s1_6z8, V.s s1_7z8, V.s s1_8z8, V.s s1_9z8, V.s s1_10z8, V.s s1_11z8, V.ts cs0Stack n0Stack none, V.i IntKind.i64 x0Mode, V.i IntKind.i64 x0Err, V.i IntKind.i64 x0Use, V.i IntKind.i64 x0Timeout, V.i IntKind.i64 x0Elapsed, V.ts cs0Before n0Before none, V.ts cs0After n0After none, V.ts cs0Sides n0Sides none], V.s s3z8, V.i IntKind.i64 x5, V.lb [V.b b6_0z4, V.b b6_1z4, V.b b6_2z4, V.i IntKind.i64 x6_3z2, V.i IntKind.i64 x6_4z2, V.s s6_5z4, V.ts cs6_6z2 n6_6z2 c6_6z2, V.s s6_7z4, V.ts cs6_8z2 n6_8z2 c6_8z2, V.s s6_9z4, V.s s6_10z4]]), [], h⟩ (VQ [1, 3, 5] K)) =
  (∃ (s : List UInt8),
  (PCon Tryd.Y (28 : Nat) [V.s ([102, 108, 121] : List UInt8), V.s s6_7z4] fun (v : V) =>
 v = V.s s) ∧
 s3z8.length + s.length ≤ 1152921504606846976 ∧
 ∃ (s_1 : List UInt8),
 (PCon Tryd.Y (28 : Nat)
 [V.s ([114, 101, 97, 100, 121] : List UInt8), V.s s6_9z4]
 fun (v : V) => v = V.s s_1) ∧
 (s3z8 ++ s).length + s_1.length ≤ 1152921504606846976 ∧
 ∃ (s_2 : List UInt8),
 (PCon Tryd.Y (28 : Nat)
 [V.s
 ([98, 117, 102, 102, 101, 114] : List UInt8),
 V.s s6_10z4]
 fun (v : V) => v = V.s s_2) ∧
 (s3z8 ++ s ++ s_1).length + s_2.length ≤ 1152921504606846976 ∧
 (s3z8 ++ s ++ s_1 ++ s_2).length + ([10] : List UInt8).length ≤ 1152921504606846976 ∧
 K Out.normal 140
 [V.lb
 [V.i IntKind.i64 x0PC, V.ts cs0Vars n0Vars none, V.s s1_2z8, V.s s1_3z8, V.s s1_4z8,
 V.s s1_5z8, V.s s1_6z8, V.s s1_7z8, V.s s1_8z8, V.s s1_9z8, V.s s1_10z8, V.s s1_11z8,
 V.ts cs0Stack n0Stack none, V.i IntKind.i64 x0Mode, V.i IntKind.i64 x0Err,
 V.i IntKind.i64 x0Use, V.i IntKind.i64 x0Timeout, V.i IntKind.i64 x0Elapsed,
 V.ts cs0Before n0Before none, V.ts cs0After n0After none, V.ts cs0Sides n0Sides none],
 V.s (s3z8 ++ s ++ s_1 ++ s_2 ++ ([10] : List UInt8)), V.i IntKind.i64 x5]
 h) := by kernel_rfl
theorem f10_7 (x0PC : Int) (cs0Vars : List V) (n0Vars : Nat) (cs0Stack : List V) (n0Stack : Nat) (x0Mode : Int) (x0Err : Int) (x0Use : Int) (x0Timeout : Int) (x0Elapsed : Int) (cs0Before : List V) (n0Before : Nat) (cs0After : List V) (n0After : Nat) (cs0Sides : List V) (n0Sides : Nat) (x5 : Int) (s1_2z9 : List UInt8) (s1_3z9 : List UInt8) (s1_4z9 : List UInt8) (s1_5z9 : List UInt8) (s1_6z9 : List UInt8) (s1_7z9 : List UInt8) (s1_8z9 : List UInt8) (s1_9z9 : List UInt8) (s1_10z9 : List UInt8) (s1_11z9 : List UInt8) (s3z9 : List UInt8) (h : Heap) (K : Out → Nat → List V → Heap → Prop) : (codeP Tryd.Y (Tryd.Y.loc 10) 100 (((post (flat (loopB (post ((post (flat (bodyOf Tryd.f10))).drop 1))))).drop 1)) ⟨mk 140 (([1, 3, 5] : List Nat).zip [V.lb [V.i IntKind.i64 x0PC, V.ts cs0Vars n0Vars none, V.s s1_2z9, V.s s1_3z9, V.s s1_4z9, V.s s1_5z9, V.s s1_6z9, V.s s1_7z9, V.s s1_8z9, V.s s1_9z9, V.s s1_10z9, V.s s1_11z9, V.ts cs0Stack n0Stack none, V.i IntKind.i64 x0Mode, V.i IntKind.i64 x0Err, V.i IntKind.i64 x0Use, V.i IntKind.i64 x0Timeout, V.i IntKind.i64 x0Elapsed, V.ts cs0Before n0Before none, V.ts cs0After n0After none, V.ts cs0Sides n0Sides none], V.s s3z9, V.i IntKind.i64 x5]), [], h⟩ (VQ [1, 3, 5] K)) =
  (K Out.normal 140
  [V.lb
 [V.i IntKind.i64 x0PC, V.ts cs0Vars n0Vars none, V.s s1_2z9, V.s s1_3z9, V.s s1_4z9, V.s s1_5z9, V.s s1_6z9,
 V.s s1_7z9, V.s s1_8z9, V.s s1_9z9, V.s s1_10z9, V.s s1_11z9, V.ts cs0Stack n0Stack none,
 V.i IntKind.i64 x0Mode, V.i IntKind.i64 x0Err, V.i IntKind.i64 x0Use, V.i IntKind.i64 x0Timeout,
 V.i IntKind.i64 x0Elapsed, V.ts cs0Before n0Before none, V.ts cs0After n0After none,
 V.ts cs0Sides n0Sides none],
 V.s s3z9, V.i IntKind.i64 (IntKind.i64.wrap (x5 + (1 : Int)))]
  h) := by kernel_rfl
theorem f10_8 (s3z10 : List UInt8) (h : Heap) (K : Out → Nat → List V → Heap → Prop) : (codeP Tryd.Y (Tryd.Y.loc 10) 100 (((post ((post (flat (bodyOf Tryd.f10))).drop 1)).drop 1)) ⟨mk 140 (([3] : List Nat).zip [V.s s3z10]), [], h⟩ (VQ [2] K)) =
  (K Out.ret 140 [V.s s3z10] h) := by kernel_rfl
theorem f20_0 (x0 : Int) (h : Heap) (K : Out → Nat → List V → Heap → Prop) : (codeP Tryd.Y (Tryd.Y.loc 20) 100 ((flat (bodyOf Tryd.f20))) ⟨(V.i IntKind.i64 x0 :: List.replicate 13 .undef), [], h⟩ (VQ [2] K)) =
  (If (ltI x0 (1 : Int))
  (K Out.ret 14 [V.s ([110, 111, 110, 101] : List UInt8)] h)
  (If (ltI (4 : Int) x0)
 (K Out.ret 14 [V.s ([110, 111, 110, 101] : List UInt8)] h)
 (((0 : Int) ≤ IntKind.i64.wrap (x0 - (1 : Int)) ∧ IntKind.i64.wrap (x0 - (1 : Int)) < (↑(4 : Nat) : Int)) ∧
 ∃ (s : List UInt8),
 takeX 1
 (List.drop ((IntKind.i64.wrap (x0 - (1 : Int))).toNat * (1 : Nat))
 [V.s
 ([100, 101, 97, 100, 108, 111, 99, 107] : List UInt8),
 V.s
 ([111, 117, 116, 112, 117, 116] : List UInt8),
 V.s ([101, 111, 102] : List UInt8),
 V.s ([101, 114, 114, 111, 114] : List UInt8)]) =
 some [V.s s] ∧
 K Out.ret 14 [V.s s] h))) := by kernel_rfl
theorem f53_0 (x0 : Int) (x1 : Int) (h : Heap) (K : Out → Nat → List V → Heap → Prop) : (codeP Tryd.Y (Tryd.Y.loc 53) 100 ((flat (bodyOf Tryd.f53))) ⟨(V.i IntKind.i64 x0 :: V.i IntKind.i64 x1 :: List.replicate 16 .undef), [], h⟩ (VQ [4] K)) =
  (If (x0 == (0 : Int))
  (K Out.ret 18 [V.s ([119, 97, 108, 107] : List UInt8)] h)
  (If (x0 == (1 : Int))
 (((0 : Int) ≤ IntKind.i64.wrap (x1 - (1 : Int)) ∧ IntKind.i64.wrap (x1 - (1 : Int)) < (↑(4 : Nat) : Int)) ∧
 ∃ (s : List UInt8),
 takeX 1
 (List.drop ((IntKind.i64.wrap (x1 - (1 : Int))).toNat * (1 : Nat))
 [V.s
 ([100, 101, 97, 100, 108, 111, 99, 107] : List UInt8),
 V.s
 ([111, 117, 116, 112, 117, 116] : List UInt8),
 V.s ([101, 111, 102] : List UInt8),
 V.s ([101, 114, 114, 111, 114] : List UInt8)]) =
 some [V.s s] ∧
 ([102, 97, 117, 108, 116, 32] : List UInt8).length +
 s.length ≤
 1152921504606846976 ∧
 K Out.ret 18
 [V.s
 (([102, 97, 117, 108, 116, 32] : List UInt8) ++
 s)]
 h)
 (∃ (s : List UInt8),
 (PCon Tryd.Y (54 : Nat) [V.i IntKind.i64 x1] fun (v : V) => v = V.s s) ∧
 ([114, 117, 108, 101, 32] : List UInt8).length + s.length ≤
 1152921504606846976 ∧
 K Out.ret 18
 [V.s (([114, 117, 108, 101, 32] : List UInt8) ++ s)] h))) := by kernel_rfl
theorem f15_0 (x0 : Int) (h : Heap) (K : Out → Nat → List V → Heap → Prop) : (codeP Tryd.Y (Tryd.Y.loc 15) 100 ((flat (bodyOf Tryd.f15))) ⟨(V.i IntKind.i64 x0 :: List.replicate 12 .undef), [], h⟩ (VQ [2] K)) =
  (∃ (b : Bool),
  (PCon Tryd.Y (32 : Nat)
 [V.ts [V.i IntKind.i64 (1 : Int), V.i IntKind.i64 (2 : Int), V.i IntKind.i64 (3 : Int), V.i IntKind.i64 (4 : Int)]
 4 (some 4),
 V.i IntKind.i64 x0]
 fun (v : V) => v = V.b b) ∧
 If (!b)
 (((0 : Int) ≤ (0 : Int) ∧ (0 : Int) < (↑(5 : Nat) : Int)) ∧
 ∃ (s : List UInt8),
 takeX 1
 [V.s ([110, 111, 110, 101] : List UInt8),
 V.s
 ([100, 101, 97, 100, 108, 111, 99, 107] : List UInt8),
 V.s
 ([111, 117, 116, 112, 117, 116] : List UInt8),
 V.s ([101, 111, 102] : List UInt8),
 V.s ([101, 114, 114, 111, 114] : List UInt8)] =
 some [V.s s] ∧
 K Out.ret 13 [V.s s] h)
 (((0 : Int) ≤ x0 ∧ x0 < (↑(5 : Nat) : Int)) ∧
 ∃ (s : List UInt8),
 takeX 1
 (List.drop (x0.toNat * (1 : Nat))
 [V.s ([110, 111, 110, 101] : List UInt8),
 V.s
 ([100, 101, 97, 100, 108, 111, 99, 107] : List UInt8),
 V.s
 ([111, 117, 116, 112, 117, 116] : List UInt8),
 V.s ([101, 111, 102] : List UInt8),
 V.s ([101, 114, 114, 111, 114] : List UInt8)]) =
 some [V.s s] ∧
 K Out.ret 13 [V.s s] h)) := by kernel_rfl
theorem f26_0 (x0 : Int) (h : Heap) (K : Out → Nat → List V → Heap → Prop) : (codeP Tryd.Y (Tryd.Y.loc 26) 100 ((flat (bodyOf Tryd.f26))) ⟨(V.i IntKind.i64 x0 :: List.replicate 16 .undef), [], h⟩ (VQ [2] K)) =
  (If (ltI x0 (0 : Int)) (K Out.ret 17 [V.s ([63] : List UInt8)] h)
  (If (leI (↑(4 : Nat) : Int) x0) (K Out.ret 17 [V.s ([63] : List UInt8)] h)
 (((0 : Int) ≤ x0 ∧ x0 < (↑(4 : Nat) : Int)) ∧
 ∃ (s : List UInt8),
 takeX 1
 (List.drop (x0.toNat * (1 : Nat))
 [V.s ([114, 117, 110, 115] : List UInt8),
 V.s ([119, 97, 105, 116, 115] : List UInt8),
 V.s ([101, 110, 100, 101, 100] : List UInt8),
 V.s
 ([98, 114, 111, 107, 101, 110] : List UInt8)]) =
 some [V.s s] ∧
 K Out.ret 17 [V.s s] h))) := by kernel_rfl
end Go.Y
