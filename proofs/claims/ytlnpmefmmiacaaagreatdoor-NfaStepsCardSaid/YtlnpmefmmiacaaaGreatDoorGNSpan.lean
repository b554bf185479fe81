/- ere.spans of the set of one byte. -/
import Derived.Test.YtlnpmefmmiacaaaGreatDoorGN101
import Derived.Test.YtlnpmefmmiacaaaGreatDoorNT4
namespace Go.Y
open Go.Proofs
set_option maxRecDepth 100000
set_option maxHeartbeats 1000000

abbrev encP (p : Int × Int) : List V := [.i .u8 p.1, .i .u8 p.2]
theorem encP_len (p : Int × Int) : (encP p).length = 2 := rfl
theorem app1P {h : Heap} {a : Option (Nat × Nat)} {l : Nat} {c : Option Nat} {kk : Nat} {out : List (Int × Int)} (x : Int × Int) (hl : Lst encP 2 h a l c kk out) (hb : out.length < 2 ^ 29) :
    ∃ a' l' c' k' h', appendH Tryz.Y h 128 128 (.sl a l c kk) (.ts [.i .u8 x.1, .i .u8 x.2] 1 (some 1)) = some (.sl a' l' c' k', h') ∧ Lst encP 2 h' a' l' c' k' (out ++ [x]) ∧ Fr h a h' ∧ ∃ j, a' = some (j, 0) ∧ h.nx ≤ j :=
  Lst.app1 (Y := Tryz.Y) (e := 132) (te := ⟨2, 2, .struct [(0, 5), (1, 5)], [.i .u8 0, .i .u8 0]⟩) x (by kernel_rfl) (by kernel_rfl) rfl (by decide) hl (.cons _ _ _ _ (.i _ _) (.cons _ _ _ _ (.i _ _) .nil)) rfl rfl rfl (by decide) hb

def Io97 (m : Nat) (vs : List V) (h : Heap) : Prop :=
  ∃ (i : Nat) (q : Option (Nat × Nat)) (n : Nat) (cp : Option Nat) (kk : Nat), vs = [.lb (encS4 set97), .sl none 0 (some 0) 0, .sl q n cp kk, .i .i64 (i : Nat)] ∧ m = 256 - i ∧ ((i ≤ 97 ∧ Lst encP 2 h q n cp kk []) ∨ (99 ≤ i ∧ i ≤ 256 ∧ Lst encP 2 h q n cp kk [(97, 97)]))

theorem spans94 : PCon Tryz.Y 94 [.agg (encS4 set97)] (· = .ts [.i .u8 97, .i .u8 97] 1 none) := by
  refine pcon_of Tryz.Yok (fn := Tryz.f94) (by kernel_rfl) (by kernel_rfl) rfl ?_
  refine pre_rule Tryz.Yok (n := 33) (loc := Tryz.Y.loc 94) 100 [1, 2, 3, 4] (by kernel_rfl) ?_
  refine Eq.mpr (f94_0 0 8589934592 0 0 .empty _) ?_
  refine ⟨rfl, loop2 [1, 2, 3, 4] [1, 2, 3, 4] rfl (by kernel_rfl) Io97 256 mk_len ⟨0, none, 0, some 0, 0, rfl, rfl, .inl ⟨by omega, Lst.nil _ _ _ _ _⟩⟩ ?_⟩
  rintro m vs h ⟨i, q, n, cp, kk, rfl, rfl, hI⟩
  refine pre_rule Tryz.Yok (n := 33) (loc := Tryz.Y.loc 94) 100 [1, 2, 3, 4] (by kernel_rfl) ?_
  refine Eq.mpr (f94_1 0 8589934592 0 0 q n cp kk (i : Nat) h _) ?_
  refine if_lt_nat (b := 256) (fun hlt => ?_) (fun hge => ?_)
  · refine ⟨rfl, block2 (n := 33) [1, 2, 3, 4] (by kernel_rfl) ?_⟩
    refine pre_rule Tryz.Yok (n := 33) (loc := Tryz.Y.loc 94) 100 [1, 2, 3, 4, 5] (by kernel_rfl) ?_
    refine Eq.mpr (f94_2 0 8589934592 0 0 q n cp kk (i : Nat) h _) ?_
    refine ⟨rfl, loop2 [1, 2, 3, 4, 5] [1, 2, 3, 4, 5] rfl (by kernel_rfl) (fun m vs h' => ∃ c : Nat, vs = [.lb (encS4 set97), .sl none 0 (some 0) 0, .sl q n cp kk, .i .i64 (c : Nat), .i .i64 (i : Nat)] ∧ m = 256 - c ∧ h' = h ∧ (c = i ∨ (i = 97 ∧ c = 98))) (256 - i) mk_len ⟨i, rfl, rfl, rfl, .inl rfl⟩ ?_⟩
    rintro m vs h' ⟨c, rfl, rfl, rfl, hc⟩
    refine all_rule Tryz.Yok (loc := Tryz.Y.loc 94) 100 [1, 2, 3, 4, 5] ?_
    refine Eq.mpr (f94_3 0 8589934592 0 0 q n cp kk (c : Nat) (i : Nat) h' _) ?_
    have hc256 : c < 256 := by omega
    refine if_lt_nat (b := 256) (fun _ => ⟨_, all101 c hc256, if_mk (fun hb => ?_) (fun hb => ?_)⟩) (fun hge => by omega)
    · have hb : c = 97 := by simpa using hb
      refine ⟨rfl, 256 - (c + 1), by omega, c + 1, by rw [wrap_succ (by omega)]; rfl, rfl, rfl, ?_⟩
      omega
    · have hb : c ≠ 97 := by simpa using hb
      refine roundW_exit [1, 2, 3, 4, 5] (by kernel_rfl) rfl rfl ?_
      refine all_rule Tryz.Yok (loc := Tryz.Y.loc 94) 100 [1, 2, 3, 4] ?_
      refine Eq.mpr (f94_4 0 8589934592 0 0 q n cp kk (c : Nat) (i : Nat) h' _) ?_
      have next : ∀ (q : Option (Nat × Nat)) (n : Nat) (cp : Option Nat) (kk : Nat) (h' : Heap), ((c + 1 ≤ 97 ∧ Lst encP 2 h' q n cp kk []) ∨ (99 ≤ c + 1 ∧ c + 1 ≤ 256 ∧ Lst encP 2 h' q n cp kk [(97, 97)])) → i ≤ c →
          ContW Tryz.Y 33 [1, 2, 3, 4] (blockId (post (flat (loopB (post (flat (bodyOf Tryz.f94))))))) ((post (flat (loopB (post (flat (bodyOf Tryz.f94)))))).drop 1) (VQ [1, 2, 3, 4] (RoundW Tryz.Y 33 [1, 2, 3, 4] [1, 2, 3, 4] Io97 (256 - i) (loopId (post (flat (bodyOf Tryz.f94)))) ((post (flat (bodyOf Tryz.f94))).drop 1) (FinS Tryz.Y Tryz.f94 fun v h => ∃ r, Frz h v r ∧ r = .ts [.i .u8 97, .i .u8 97] 1 none))) .normal 33 [.lb (encS4 set97), .sl none 0 (some 0) 0, .sl q n cp kk, .i .i64 (c : Nat)] h' := by
        intro q n cp kk h' hn hic
        refine ⟨rfl, [1, 2, 3, 4], rfl, ?_⟩
        refine all_rule Tryz.Yok (loc := Tryz.Y.loc 94) 100 [1, 2, 3, 4] ?_
        refine Eq.mpr (f94_5 0 8589934592 0 0 (c : Nat) q n cp kk h' _) ?_
        exact ⟨rfl, 256 - (c + 1), by omega, c + 1, q, n, cp, kk, by rw [wrap_succ (by omega)]; rfl, rfl, hn⟩
      rcases hc with rfl | ⟨rfl, rfl⟩
      · refine if_lt (fun g => by omega) (fun _ => next _ _ _ _ _ ?_ (Nat.le_refl _))
        rcases hI with ⟨g1, g2⟩ | ⟨g1, g2, g3⟩
        · exact .inl ⟨by omega, g2⟩
        · exact .inr ⟨by omega, by omega, g3⟩
      · rcases hI with ⟨g1, g2⟩ | ⟨g1, g2, g3⟩
        · refine if_lt (fun _ => ?_) (fun g => by omega)
          obtain ⟨a', l', c', k', h2, q1, q2, -, -⟩ := app1P (97, 97) g2 (by simp)
          exact ⟨a', l', c', k', h2, q1, next _ _ _ _ _ (.inr ⟨by omega, by omega, q2⟩) (by omega)⟩
        · omega
  · refine at_pick rfl (roundW_exit [3] (by kernel_rfl) rfl rfl ?_)
    refine end_rule Tryz.Yok (loc := Tryz.Y.loc 94) 100 [2] ?_
    refine Eq.mpr (f94_6 ..) ?_
    rcases hI with ⟨g1, g2⟩ | ⟨g1, g2, g3⟩
    · omega
    · exact finV1 (.inr rfl) rfl (g3.frz (by decide) encP_len) rfl
end Go.Y
