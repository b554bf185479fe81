/- The peer of PipeOrder may be, by running the code. -/
import Derived.Test.YtpddiafjmkjpmaaGClone
namespace Go.Y
open Go.Proofs
set_option maxRecDepth 100000
abbrev placeC : List V := [.s [97], .b false, .sl none 0 (some 0) 0]
abbrev peerV (k : Int) : V := .agg [.i .i64 k, .ts placeC 1 none]
theorem peer55_1 : PCon Try.Y 55 [peerV 1] (· = .b true) := callN_ok Try.Yok Try.knok (n := 200) (by kernel_rfl) rfl
theorem peer55_2 : PCon Try.Y 55 [peerV 2] (· = .b true) := callN_ok Try.Yok Try.knok (n := 200) (by kernel_rfl) rfl
theorem peer55_3 : PCon Try.Y 55 [peerV 3] (· = .b true) := callN_ok Try.Yok Try.knok (n := 200) (by kernel_rfl) rfl
theorem peer55_4 : PCon Try.Y 55 [peerV 4] (· = .b true) := callN_ok Try.Yok Try.knok (n := 200) (by kernel_rfl) rfl
theorem peer55_5 : PCon Try.Y 55 [peerV 5] (· = .b true) := callN_ok Try.Yok Try.knok (n := 200) (by kernel_rfl) rfl
theorem peer55_6 : PCon Try.Y 55 [peerV 6] (· = .b true) := callN_ok Try.Yok Try.knok (n := 200) (by kernel_rfl) rfl
theorem peer55_7 : PCon Try.Y 55 [peerV 7] (· = .b true) := callN_ok Try.Yok Try.knok (n := 200) (by kernel_rfl) rfl
theorem peer55_8 : PCon Try.Y 55 [peerV 8] (· = .b true) := callN_ok Try.Yok Try.knok (n := 200) (by kernel_rfl) rfl
theorem peer55_9 : PCon Try.Y 55 [peerV 9] (· = .b true) := callN_ok Try.Yok Try.knok (n := 200) (by kernel_rfl) rfl
theorem peer55_10 : PCon Try.Y 55 [peerV 10] (· = .b true) := callN_ok Try.Yok Try.knok (n := 200) (by kernel_rfl) rfl
theorem peer55_11 : PCon Try.Y 55 [peerV 11] (· = .b true) := callN_ok Try.Yok Try.knok (n := 200) (by kernel_rfl) rfl
theorem peer55_12 : PCon Try.Y 55 [peerV 12] (· = .b true) := callN_ok Try.Yok Try.knok (n := 200) (by kernel_rfl) rfl
theorem peer55_13 : PCon Try.Y 55 [peerV 13] (· = .b true) := callN_ok Try.Yok Try.knok (n := 200) (by kernel_rfl) rfl
theorem peer55_14 : PCon Try.Y 55 [peerV 14] (· = .b true) := callN_ok Try.Yok Try.knok (n := 200) (by kernel_rfl) rfl
theorem peer55_15 : PCon Try.Y 55 [peerV 15] (· = .b true) := callN_ok Try.Yok Try.knok (n := 200) (by kernel_rfl) rfl
theorem peer55_16 : PCon Try.Y 55 [peerV 16] (· = .b true) := callN_ok Try.Yok Try.knok (n := 200) (by kernel_rfl) rfl
theorem peer55 (k : Int) (h1 : 1 ≤ k) (h2 : k ≤ 16) : PCon Try.Y 55 [peerV k] (· = .b true) := by
  have h : k = 1 ∨ k = 2 ∨ k = 3 ∨ k = 4 ∨ k = 5 ∨ k = 6 ∨ k = 7 ∨ k = 8 ∨ k = 9 ∨ k = 10 ∨ k = 11 ∨ k = 12 ∨ k = 13 ∨ k = 14 ∨ k = 15 ∨ k = 16 := by omega
  rcases h with rfl | rfl | rfl | rfl | rfl | rfl | rfl | rfl | rfl | rfl | rfl | rfl | rfl | rfl | rfl | rfl
  · exact peer55_1
  · exact peer55_2
  · exact peer55_3
  · exact peer55_4
  · exact peer55_5
  · exact peer55_6
  · exact peer55_7
  · exact peer55_8
  · exact peer55_9
  · exact peer55_10
  · exact peer55_11
  · exact peer55_12
  · exact peer55_13
  · exact peer55_14
  · exact peer55_15
  · exact peer55_16
theorem peer47_1 : PCon Try.Y 47 [peerV 1] (· = .b true) := callN_ok Try.Yok Try.knok (n := 200) (by kernel_rfl) rfl
theorem peer47_2 : PCon Try.Y 47 [peerV 2] (· = .b true) := callN_ok Try.Yok Try.knok (n := 200) (by kernel_rfl) rfl
theorem peer47_3 : PCon Try.Y 47 [peerV 3] (· = .b true) := callN_ok Try.Yok Try.knok (n := 200) (by kernel_rfl) rfl
theorem peer47_4 : PCon Try.Y 47 [peerV 4] (· = .b true) := callN_ok Try.Yok Try.knok (n := 200) (by kernel_rfl) rfl
theorem peer47_5 : PCon Try.Y 47 [peerV 5] (· = .b true) := callN_ok Try.Yok Try.knok (n := 200) (by kernel_rfl) rfl
theorem peer47_6 : PCon Try.Y 47 [peerV 6] (· = .b true) := callN_ok Try.Yok Try.knok (n := 200) (by kernel_rfl) rfl
theorem peer47_7 : PCon Try.Y 47 [peerV 7] (· = .b true) := callN_ok Try.Yok Try.knok (n := 200) (by kernel_rfl) rfl
theorem peer47_8 : PCon Try.Y 47 [peerV 8] (· = .b true) := callN_ok Try.Yok Try.knok (n := 200) (by kernel_rfl) rfl
theorem peer47_9 : PCon Try.Y 47 [peerV 9] (· = .b true) := callN_ok Try.Yok Try.knok (n := 200) (by kernel_rfl) rfl
theorem peer47_10 : PCon Try.Y 47 [peerV 10] (· = .b true) := callN_ok Try.Yok Try.knok (n := 200) (by kernel_rfl) rfl
theorem peer47_11 : PCon Try.Y 47 [peerV 11] (· = .b true) := callN_ok Try.Yok Try.knok (n := 200) (by kernel_rfl) rfl
theorem peer47_12 : PCon Try.Y 47 [peerV 12] (· = .b true) := callN_ok Try.Yok Try.knok (n := 200) (by kernel_rfl) rfl
theorem peer47_13 : PCon Try.Y 47 [peerV 13] (· = .b true) := callN_ok Try.Yok Try.knok (n := 200) (by kernel_rfl) rfl
theorem peer47_14 : PCon Try.Y 47 [peerV 14] (· = .b true) := callN_ok Try.Yok Try.knok (n := 200) (by kernel_rfl) rfl
theorem peer47_15 : PCon Try.Y 47 [peerV 15] (· = .b true) := callN_ok Try.Yok Try.knok (n := 200) (by kernel_rfl) rfl
theorem peer47_16 : PCon Try.Y 47 [peerV 16] (· = .b true) := callN_ok Try.Yok Try.knok (n := 200) (by kernel_rfl) rfl
theorem peer47 (k : Int) (h1 : 1 ≤ k) (h2 : k ≤ 16) : PCon Try.Y 47 [peerV k] (· = .b true) := by
  have h : k = 1 ∨ k = 2 ∨ k = 3 ∨ k = 4 ∨ k = 5 ∨ k = 6 ∨ k = 7 ∨ k = 8 ∨ k = 9 ∨ k = 10 ∨ k = 11 ∨ k = 12 ∨ k = 13 ∨ k = 14 ∨ k = 15 ∨ k = 16 := by omega
  rcases h with rfl | rfl | rfl | rfl | rfl | rfl | rfl | rfl | rfl | rfl | rfl | rfl | rfl | rfl | rfl | rfl
  · exact peer47_1
  · exact peer47_2
  · exact peer47_3
  · exact peer47_4
  · exact peer47_5
  · exact peer47_6
  · exact peer47_7
  · exact peer47_8
  · exact peer47_9
  · exact peer47_10
  · exact peer47_11
  · exact peer47_12
  · exact peer47_13
  · exact peer47_14
  · exact peer47_15
  · exact peer47_16
end Go.Y
