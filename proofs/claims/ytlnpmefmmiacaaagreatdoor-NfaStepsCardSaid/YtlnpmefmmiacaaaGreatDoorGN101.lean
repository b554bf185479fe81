/- ere.has of the set of one byte: at each number, by the kernel (a program wrote these lines). -/
import Derived.Test.YtlnpmefmmiacaaaGreatDoorGKnow
namespace Go.Y
open Go.Proofs
set_option maxRecDepth 100000
set_option maxHeartbeats 0
abbrev set97 : Set4 := (0, 8589934592, 0, 0)
def P101 (c : Nat) : Prop := PCon Tryz.Y 101 [.agg (encS4 set97), .i .i64 (c : Int)] (· = .b (c == 97))
theorem b101_0 : ∀ c, c < 0 → P101 c := fun c hc => absurd hc (Nat.not_lt_zero c)
theorem p101_0 : P101 0 := callN_ok Tryz.Yok Tryz.knok (n := 200) (by kernel_rfl) (by kernel_rfl)
theorem b101_1 : ∀ c, c < 1 → P101 c := below26 b101_0 p101_0
theorem p101_1 : P101 1 := callN_ok Tryz.Yok Tryz.knok (n := 200) (by kernel_rfl) (by kernel_rfl)
theorem b101_2 : ∀ c, c < 2 → P101 c := below26 b101_1 p101_1
theorem p101_2 : P101 2 := callN_ok Tryz.Yok Tryz.knok (n := 200) (by kernel_rfl) (by kernel_rfl)
theorem b101_3 : ∀ c, c < 3 → P101 c := below26 b101_2 p101_2
theorem p101_3 : P101 3 := callN_ok Tryz.Yok Tryz.knok (n := 200) (by kernel_rfl) (by kernel_rfl)
theorem b101_4 : ∀ c, c < 4 → P101 c := below26 b101_3 p101_3
theorem p101_4 : P101 4 := callN_ok Tryz.Yok Tryz.knok (n := 200) (by kernel_rfl) (by kernel_rfl)
theorem b101_5 : ∀ c, c < 5 → P101 c := below26 b101_4 p101_4
theorem p101_5 : P101 5 := callN_ok Tryz.Yok Tryz.knok (n := 200) (by kernel_rfl) (by kernel_rfl)
theorem b101_6 : ∀ c, c < 6 → P101 c := below26 b101_5 p101_5
theorem p101_6 : P101 6 := callN_ok Tryz.Yok Tryz.knok (n := 200) (by kernel_rfl) (by kernel_rfl)
theorem b101_7 : ∀ c, c < 7 → P101 c := below26 b101_6 p101_6
theorem p101_7 : P101 7 := callN_ok Tryz.Yok Tryz.knok (n := 200) (by kernel_rfl) (by kernel_rfl)
theorem b101_8 : ∀ c, c < 8 → P101 c := below26 b101_7 p101_7
theorem p101_8 : P101 8 := callN_ok Tryz.Yok Tryz.knok (n := 200) (by kernel_rfl) (by kernel_rfl)
theorem b101_9 : ∀ c, c < 9 → P101 c := below26 b101_8 p101_8
theorem p101_9 : P101 9 := callN_ok Tryz.Yok Tryz.knok (n := 200) (by kernel_rfl) (by kernel_rfl)
theorem b101_10 : ∀ c, c < 10 → P101 c := below26 b101_9 p101_9
theorem p101_10 : P101 10 := callN_ok Tryz.Yok Tryz.knok (n := 200) (by kernel_rfl) (by kernel_rfl)
theorem b101_11 : ∀ c, c < 11 → P101 c := below26 b101_10 p101_10
theorem p101_11 : P101 11 := callN_ok Tryz.Yok Tryz.knok (n := 200) (by kernel_rfl) (by kernel_rfl)
theorem b101_12 : ∀ c, c < 12 → P101 c := below26 b101_11 p101_11
theorem p101_12 : P101 12 := callN_ok Tryz.Yok Tryz.knok (n := 200) (by kernel_rfl) (by kernel_rfl)
theorem b101_13 : ∀ c, c < 13 → P101 c := below26 b101_12 p101_12
theorem p101_13 : P101 13 := callN_ok Tryz.Yok Tryz.knok (n := 200) (by kernel_rfl) (by kernel_rfl)
theorem b101_14 : ∀ c, c < 14 → P101 c := below26 b101_13 p101_13
theorem p101_14 : P101 14 := callN_ok Tryz.Yok Tryz.knok (n := 200) (by kernel_rfl) (by kernel_rfl)
theorem b101_15 : ∀ c, c < 15 → P101 c := below26 b101_14 p101_14
theorem p101_15 : P101 15 := callN_ok Tryz.Yok Tryz.knok (n := 200) (by kernel_rfl) (by kernel_rfl)
theorem b101_16 : ∀ c, c < 16 → P101 c := below26 b101_15 p101_15
theorem p101_16 : P101 16 := callN_ok Tryz.Yok Tryz.knok (n := 200) (by kernel_rfl) (by kernel_rfl)
theorem b101_17 : ∀ c, c < 17 → P101 c := below26 b101_16 p101_16
theorem p101_17 : P101 17 := callN_ok Tryz.Yok Tryz.knok (n := 200) (by kernel_rfl) (by kernel_rfl)
theorem b101_18 : ∀ c, c < 18 → P101 c := below26 b101_17 p101_17
theorem p101_18 : P101 18 := callN_ok Tryz.Yok Tryz.knok (n := 200) (by kernel_rfl) (by kernel_rfl)
theorem b101_19 : ∀ c, c < 19 → P101 c := below26 b101_18 p101_18
theorem p101_19 : P101 19 := callN_ok Tryz.Yok Tryz.knok (n := 200) (by kernel_rfl) (by kernel_rfl)
theorem b101_20 : ∀ c, c < 20 → P101 c := below26 b101_19 p101_19
theorem p101_20 : P101 20 := callN_ok Tryz.Yok Tryz.knok (n := 200) (by kernel_rfl) (by kernel_rfl)
theorem b101_21 : ∀ c, c < 21 → P101 c := below26 b101_20 p101_20
theorem p101_21 : P101 21 := callN_ok Tryz.Yok Tryz.knok (n := 200) (by kernel_rfl) (by kernel_rfl)
theorem b101_22 : ∀ c, c < 22 → P101 c := below26 b101_21 p101_21
theorem p101_22 : P101 22 := callN_ok Tryz.Yok Tryz.knok (n := 200) (by kernel_rfl) (by kernel_rfl)
theorem b101_23 : ∀ c, c < 23 → P101 c := below26 b101_22 p101_22
theorem p101_23 : P101 23 := callN_ok Tryz.Yok Tryz.knok (n := 200) (by kernel_rfl) (by kernel_rfl)
theorem b101_24 : ∀ c, c < 24 → P101 c := below26 b101_23 p101_23
theorem p101_24 : P101 24 := callN_ok Tryz.Yok Tryz.knok (n := 200) (by kernel_rfl) (by kernel_rfl)
theorem b101_25 : ∀ c, c < 25 → P101 c := below26 b101_24 p101_24
theorem p101_25 : P101 25 := callN_ok Tryz.Yok Tryz.knok (n := 200) (by kernel_rfl) (by kernel_rfl)
theorem b101_26 : ∀ c, c < 26 → P101 c := below26 b101_25 p101_25
theorem p101_26 : P101 26 := callN_ok Tryz.Yok Tryz.knok (n := 200) (by kernel_rfl) (by kernel_rfl)
theorem b101_27 : ∀ c, c < 27 → P101 c := below26 b101_26 p101_26
theorem p101_27 : P101 27 := callN_ok Tryz.Yok Tryz.knok (n := 200) (by kernel_rfl) (by kernel_rfl)
theorem b101_28 : ∀ c, c < 28 → P101 c := below26 b101_27 p101_27
theorem p101_28 : P101 28 := callN_ok Tryz.Yok Tryz.knok (n := 200) (by kernel_rfl) (by kernel_rfl)
theorem b101_29 : ∀ c, c < 29 → P101 c := below26 b101_28 p101_28
theorem p101_29 : P101 29 := callN_ok Tryz.Yok Tryz.knok (n := 200) (by kernel_rfl) (by kernel_rfl)
theorem b101_30 : ∀ c, c < 30 → P101 c := below26 b101_29 p101_29
theorem p101_30 : P101 30 := callN_ok Tryz.Yok Tryz.knok (n := 200) (by kernel_rfl) (by kernel_rfl)
theorem b101_31 : ∀ c, c < 31 → P101 c := below26 b101_30 p101_30
theorem p101_31 : P101 31 := callN_ok Tryz.Yok Tryz.knok (n := 200) (by kernel_rfl) (by kernel_rfl)
theorem b101_32 : ∀ c, c < 32 → P101 c := below26 b101_31 p101_31
theorem p101_32 : P101 32 := callN_ok Tryz.Yok Tryz.knok (n := 200) (by kernel_rfl) (by kernel_rfl)
theorem b101_33 : ∀ c, c < 33 → P101 c := below26 b101_32 p101_32
theorem p101_33 : P101 33 := callN_ok Tryz.Yok Tryz.knok (n := 200) (by kernel_rfl) (by kernel_rfl)
theorem b101_34 : ∀ c, c < 34 → P101 c := below26 b101_33 p101_33
theorem p101_34 : P101 34 := callN_ok Tryz.Yok Tryz.knok (n := 200) (by kernel_rfl) (by kernel_rfl)
theorem b101_35 : ∀ c, c < 35 → P101 c := below26 b101_34 p101_34
theorem p101_35 : P101 35 := callN_ok Tryz.Yok Tryz.knok (n := 200) (by kernel_rfl) (by kernel_rfl)
theorem b101_36 : ∀ c, c < 36 → P101 c := below26 b101_35 p101_35
theorem p101_36 : P101 36 := callN_ok Tryz.Yok Tryz.knok (n := 200) (by kernel_rfl) (by kernel_rfl)
theorem b101_37 : ∀ c, c < 37 → P101 c := below26 b101_36 p101_36
theorem p101_37 : P101 37 := callN_ok Tryz.Yok Tryz.knok (n := 200) (by kernel_rfl) (by kernel_rfl)
theorem b101_38 : ∀ c, c < 38 → P101 c := below26 b101_37 p101_37
theorem p101_38 : P101 38 := callN_ok Tryz.Yok Tryz.knok (n := 200) (by kernel_rfl) (by kernel_rfl)
theorem b101_39 : ∀ c, c < 39 → P101 c := below26 b101_38 p101_38
theorem p101_39 : P101 39 := callN_ok Tryz.Yok Tryz.knok (n := 200) (by kernel_rfl) (by kernel_rfl)
theorem b101_40 : ∀ c, c < 40 → P101 c := below26 b101_39 p101_39
theorem p101_40 : P101 40 := callN_ok Tryz.Yok Tryz.knok (n := 200) (by kernel_rfl) (by kernel_rfl)
theorem b101_41 : ∀ c, c < 41 → P101 c := below26 b101_40 p101_40
theorem p101_41 : P101 41 := callN_ok Tryz.Yok Tryz.knok (n := 200) (by kernel_rfl) (by kernel_rfl)
theorem b101_42 : ∀ c, c < 42 → P101 c := below26 b101_41 p101_41
theorem p101_42 : P101 42 := callN_ok Tryz.Yok Tryz.knok (n := 200) (by kernel_rfl) (by kernel_rfl)
theorem b101_43 : ∀ c, c < 43 → P101 c := below26 b101_42 p101_42
theorem p101_43 : P101 43 := callN_ok Tryz.Yok Tryz.knok (n := 200) (by kernel_rfl) (by kernel_rfl)
theorem b101_44 : ∀ c, c < 44 → P101 c := below26 b101_43 p101_43
theorem p101_44 : P101 44 := callN_ok Tryz.Yok Tryz.knok (n := 200) (by kernel_rfl) (by kernel_rfl)
theorem b101_45 : ∀ c, c < 45 → P101 c := below26 b101_44 p101_44
theorem p101_45 : P101 45 := callN_ok Tryz.Yok Tryz.knok (n := 200) (by kernel_rfl) (by kernel_rfl)
theorem b101_46 : ∀ c, c < 46 → P101 c := below26 b101_45 p101_45
theorem p101_46 : P101 46 := callN_ok Tryz.Yok Tryz.knok (n := 200) (by kernel_rfl) (by kernel_rfl)
theorem b101_47 : ∀ c, c < 47 → P101 c := below26 b101_46 p101_46
theorem p101_47 : P101 47 := callN_ok Tryz.Yok Tryz.knok (n := 200) (by kernel_rfl) (by kernel_rfl)
theorem b101_48 : ∀ c, c < 48 → P101 c := below26 b101_47 p101_47
theorem p101_48 : P101 48 := callN_ok Tryz.Yok Tryz.knok (n := 200) (by kernel_rfl) (by kernel_rfl)
theorem b101_49 : ∀ c, c < 49 → P101 c := below26 b101_48 p101_48
theorem p101_49 : P101 49 := callN_ok Tryz.Yok Tryz.knok (n := 200) (by kernel_rfl) (by kernel_rfl)
theorem b101_50 : ∀ c, c < 50 → P101 c := below26 b101_49 p101_49
theorem p101_50 : P101 50 := callN_ok Tryz.Yok Tryz.knok (n := 200) (by kernel_rfl) (by kernel_rfl)
theorem b101_51 : ∀ c, c < 51 → P101 c := below26 b101_50 p101_50
theorem p101_51 : P101 51 := callN_ok Tryz.Yok Tryz.knok (n := 200) (by kernel_rfl) (by kernel_rfl)
theorem b101_52 : ∀ c, c < 52 → P101 c := below26 b101_51 p101_51
theorem p101_52 : P101 52 := callN_ok Tryz.Yok Tryz.knok (n := 200) (by kernel_rfl) (by kernel_rfl)
theorem b101_53 : ∀ c, c < 53 → P101 c := below26 b101_52 p101_52
theorem p101_53 : P101 53 := callN_ok Tryz.Yok Tryz.knok (n := 200) (by kernel_rfl) (by kernel_rfl)
theorem b101_54 : ∀ c, c < 54 → P101 c := below26 b101_53 p101_53
theorem p101_54 : P101 54 := callN_ok Tryz.Yok Tryz.knok (n := 200) (by kernel_rfl) (by kernel_rfl)
theorem b101_55 : ∀ c, c < 55 → P101 c := below26 b101_54 p101_54
theorem p101_55 : P101 55 := callN_ok Tryz.Yok Tryz.knok (n := 200) (by kernel_rfl) (by kernel_rfl)
theorem b101_56 : ∀ c, c < 56 → P101 c := below26 b101_55 p101_55
theorem p101_56 : P101 56 := callN_ok Tryz.Yok Tryz.knok (n := 200) (by kernel_rfl) (by kernel_rfl)
theorem b101_57 : ∀ c, c < 57 → P101 c := below26 b101_56 p101_56
theorem p101_57 : P101 57 := callN_ok Tryz.Yok Tryz.knok (n := 200) (by kernel_rfl) (by kernel_rfl)
theorem b101_58 : ∀ c, c < 58 → P101 c := below26 b101_57 p101_57
theorem p101_58 : P101 58 := callN_ok Tryz.Yok Tryz.knok (n := 200) (by kernel_rfl) (by kernel_rfl)
theorem b101_59 : ∀ c, c < 59 → P101 c := below26 b101_58 p101_58
theorem p101_59 : P101 59 := callN_ok Tryz.Yok Tryz.knok (n := 200) (by kernel_rfl) (by kernel_rfl)
theorem b101_60 : ∀ c, c < 60 → P101 c := below26 b101_59 p101_59
theorem p101_60 : P101 60 := callN_ok Tryz.Yok Tryz.knok (n := 200) (by kernel_rfl) (by kernel_rfl)
theorem b101_61 : ∀ c, c < 61 → P101 c := below26 b101_60 p101_60
theorem p101_61 : P101 61 := callN_ok Tryz.Yok Tryz.knok (n := 200) (by kernel_rfl) (by kernel_rfl)
theorem b101_62 : ∀ c, c < 62 → P101 c := below26 b101_61 p101_61
theorem p101_62 : P101 62 := callN_ok Tryz.Yok Tryz.knok (n := 200) (by kernel_rfl) (by kernel_rfl)
theorem b101_63 : ∀ c, c < 63 → P101 c := below26 b101_62 p101_62
theorem p101_63 : P101 63 := callN_ok Tryz.Yok Tryz.knok (n := 200) (by kernel_rfl) (by kernel_rfl)
theorem b101_64 : ∀ c, c < 64 → P101 c := below26 b101_63 p101_63
theorem p101_64 : P101 64 := callN_ok Tryz.Yok Tryz.knok (n := 200) (by kernel_rfl) (by kernel_rfl)
theorem b101_65 : ∀ c, c < 65 → P101 c := below26 b101_64 p101_64
theorem p101_65 : P101 65 := callN_ok Tryz.Yok Tryz.knok (n := 200) (by kernel_rfl) (by kernel_rfl)
theorem b101_66 : ∀ c, c < 66 → P101 c := below26 b101_65 p101_65
theorem p101_66 : P101 66 := callN_ok Tryz.Yok Tryz.knok (n := 200) (by kernel_rfl) (by kernel_rfl)
theorem b101_67 : ∀ c, c < 67 → P101 c := below26 b101_66 p101_66
theorem p101_67 : P101 67 := callN_ok Tryz.Yok Tryz.knok (n := 200) (by kernel_rfl) (by kernel_rfl)
theorem b101_68 : ∀ c, c < 68 → P101 c := below26 b101_67 p101_67
theorem p101_68 : P101 68 := callN_ok Tryz.Yok Tryz.knok (n := 200) (by kernel_rfl) (by kernel_rfl)
theorem b101_69 : ∀ c, c < 69 → P101 c := below26 b101_68 p101_68
theorem p101_69 : P101 69 := callN_ok Tryz.Yok Tryz.knok (n := 200) (by kernel_rfl) (by kernel_rfl)
theorem b101_70 : ∀ c, c < 70 → P101 c := below26 b101_69 p101_69
theorem p101_70 : P101 70 := callN_ok Tryz.Yok Tryz.knok (n := 200) (by kernel_rfl) (by kernel_rfl)
theorem b101_71 : ∀ c, c < 71 → P101 c := below26 b101_70 p101_70
theorem p101_71 : P101 71 := callN_ok Tryz.Yok Tryz.knok (n := 200) (by kernel_rfl) (by kernel_rfl)
theorem b101_72 : ∀ c, c < 72 → P101 c := below26 b101_71 p101_71
theorem p101_72 : P101 72 := callN_ok Tryz.Yok Tryz.knok (n := 200) (by kernel_rfl) (by kernel_rfl)
theorem b101_73 : ∀ c, c < 73 → P101 c := below26 b101_72 p101_72
theorem p101_73 : P101 73 := callN_ok Tryz.Yok Tryz.knok (n := 200) (by kernel_rfl) (by kernel_rfl)
theorem b101_74 : ∀ c, c < 74 → P101 c := below26 b101_73 p101_73
theorem p101_74 : P101 74 := callN_ok Tryz.Yok Tryz.knok (n := 200) (by kernel_rfl) (by kernel_rfl)
theorem b101_75 : ∀ c, c < 75 → P101 c := below26 b101_74 p101_74
theorem p101_75 : P101 75 := callN_ok Tryz.Yok Tryz.knok (n := 200) (by kernel_rfl) (by kernel_rfl)
theorem b101_76 : ∀ c, c < 76 → P101 c := below26 b101_75 p101_75
theorem p101_76 : P101 76 := callN_ok Tryz.Yok Tryz.knok (n := 200) (by kernel_rfl) (by kernel_rfl)
theorem b101_77 : ∀ c, c < 77 → P101 c := below26 b101_76 p101_76
theorem p101_77 : P101 77 := callN_ok Tryz.Yok Tryz.knok (n := 200) (by kernel_rfl) (by kernel_rfl)
theorem b101_78 : ∀ c, c < 78 → P101 c := below26 b101_77 p101_77
theorem p101_78 : P101 78 := callN_ok Tryz.Yok Tryz.knok (n := 200) (by kernel_rfl) (by kernel_rfl)
theorem b101_79 : ∀ c, c < 79 → P101 c := below26 b101_78 p101_78
theorem p101_79 : P101 79 := callN_ok Tryz.Yok Tryz.knok (n := 200) (by kernel_rfl) (by kernel_rfl)
theorem b101_80 : ∀ c, c < 80 → P101 c := below26 b101_79 p101_79
theorem p101_80 : P101 80 := callN_ok Tryz.Yok Tryz.knok (n := 200) (by kernel_rfl) (by kernel_rfl)
theorem b101_81 : ∀ c, c < 81 → P101 c := below26 b101_80 p101_80
theorem p101_81 : P101 81 := callN_ok Tryz.Yok Tryz.knok (n := 200) (by kernel_rfl) (by kernel_rfl)
theorem b101_82 : ∀ c, c < 82 → P101 c := below26 b101_81 p101_81
theorem p101_82 : P101 82 := callN_ok Tryz.Yok Tryz.knok (n := 200) (by kernel_rfl) (by kernel_rfl)
theorem b101_83 : ∀ c, c < 83 → P101 c := below26 b101_82 p101_82
theorem p101_83 : P101 83 := callN_ok Tryz.Yok Tryz.knok (n := 200) (by kernel_rfl) (by kernel_rfl)
theorem b101_84 : ∀ c, c < 84 → P101 c := below26 b101_83 p101_83
theorem p101_84 : P101 84 := callN_ok Tryz.Yok Tryz.knok (n := 200) (by kernel_rfl) (by kernel_rfl)
theorem b101_85 : ∀ c, c < 85 → P101 c := below26 b101_84 p101_84
theorem p101_85 : P101 85 := callN_ok Tryz.Yok Tryz.knok (n := 200) (by kernel_rfl) (by kernel_rfl)
theorem b101_86 : ∀ c, c < 86 → P101 c := below26 b101_85 p101_85
theorem p101_86 : P101 86 := callN_ok Tryz.Yok Tryz.knok (n := 200) (by kernel_rfl) (by kernel_rfl)
theorem b101_87 : ∀ c, c < 87 → P101 c := below26 b101_86 p101_86
theorem p101_87 : P101 87 := callN_ok Tryz.Yok Tryz.knok (n := 200) (by kernel_rfl) (by kernel_rfl)
theorem b101_88 : ∀ c, c < 88 → P101 c := below26 b101_87 p101_87
theorem p101_88 : P101 88 := callN_ok Tryz.Yok Tryz.knok (n := 200) (by kernel_rfl) (by kernel_rfl)
theorem b101_89 : ∀ c, c < 89 → P101 c := below26 b101_88 p101_88
theorem p101_89 : P101 89 := callN_ok Tryz.Yok Tryz.knok (n := 200) (by kernel_rfl) (by kernel_rfl)
theorem b101_90 : ∀ c, c < 90 → P101 c := below26 b101_89 p101_89
theorem p101_90 : P101 90 := callN_ok Tryz.Yok Tryz.knok (n := 200) (by kernel_rfl) (by kernel_rfl)
theorem b101_91 : ∀ c, c < 91 → P101 c := below26 b101_90 p101_90
theorem p101_91 : P101 91 := callN_ok Tryz.Yok Tryz.knok (n := 200) (by kernel_rfl) (by kernel_rfl)
theorem b101_92 : ∀ c, c < 92 → P101 c := below26 b101_91 p101_91
theorem p101_92 : P101 92 := callN_ok Tryz.Yok Tryz.knok (n := 200) (by kernel_rfl) (by kernel_rfl)
theorem b101_93 : ∀ c, c < 93 → P101 c := below26 b101_92 p101_92
theorem p101_93 : P101 93 := callN_ok Tryz.Yok Tryz.knok (n := 200) (by kernel_rfl) (by kernel_rfl)
theorem b101_94 : ∀ c, c < 94 → P101 c := below26 b101_93 p101_93
theorem p101_94 : P101 94 := callN_ok Tryz.Yok Tryz.knok (n := 200) (by kernel_rfl) (by kernel_rfl)
theorem b101_95 : ∀ c, c < 95 → P101 c := below26 b101_94 p101_94
theorem p101_95 : P101 95 := callN_ok Tryz.Yok Tryz.knok (n := 200) (by kernel_rfl) (by kernel_rfl)
theorem b101_96 : ∀ c, c < 96 → P101 c := below26 b101_95 p101_95
theorem p101_96 : P101 96 := callN_ok Tryz.Yok Tryz.knok (n := 200) (by kernel_rfl) (by kernel_rfl)
theorem b101_97 : ∀ c, c < 97 → P101 c := below26 b101_96 p101_96
theorem p101_97 : P101 97 := callN_ok Tryz.Yok Tryz.knok (n := 200) (by kernel_rfl) (by kernel_rfl)
theorem b101_98 : ∀ c, c < 98 → P101 c := below26 b101_97 p101_97
theorem p101_98 : P101 98 := callN_ok Tryz.Yok Tryz.knok (n := 200) (by kernel_rfl) (by kernel_rfl)
theorem b101_99 : ∀ c, c < 99 → P101 c := below26 b101_98 p101_98
theorem p101_99 : P101 99 := callN_ok Tryz.Yok Tryz.knok (n := 200) (by kernel_rfl) (by kernel_rfl)
theorem b101_100 : ∀ c, c < 100 → P101 c := below26 b101_99 p101_99
theorem p101_100 : P101 100 := callN_ok Tryz.Yok Tryz.knok (n := 200) (by kernel_rfl) (by kernel_rfl)
theorem b101_101 : ∀ c, c < 101 → P101 c := below26 b101_100 p101_100
theorem p101_101 : P101 101 := callN_ok Tryz.Yok Tryz.knok (n := 200) (by kernel_rfl) (by kernel_rfl)
theorem b101_102 : ∀ c, c < 102 → P101 c := below26 b101_101 p101_101
theorem p101_102 : P101 102 := callN_ok Tryz.Yok Tryz.knok (n := 200) (by kernel_rfl) (by kernel_rfl)
theorem b101_103 : ∀ c, c < 103 → P101 c := below26 b101_102 p101_102
theorem p101_103 : P101 103 := callN_ok Tryz.Yok Tryz.knok (n := 200) (by kernel_rfl) (by kernel_rfl)
theorem b101_104 : ∀ c, c < 104 → P101 c := below26 b101_103 p101_103
theorem p101_104 : P101 104 := callN_ok Tryz.Yok Tryz.knok (n := 200) (by kernel_rfl) (by kernel_rfl)
theorem b101_105 : ∀ c, c < 105 → P101 c := below26 b101_104 p101_104
theorem p101_105 : P101 105 := callN_ok Tryz.Yok Tryz.knok (n := 200) (by kernel_rfl) (by kernel_rfl)
theorem b101_106 : ∀ c, c < 106 → P101 c := below26 b101_105 p101_105
theorem p101_106 : P101 106 := callN_ok Tryz.Yok Tryz.knok (n := 200) (by kernel_rfl) (by kernel_rfl)
theorem b101_107 : ∀ c, c < 107 → P101 c := below26 b101_106 p101_106
theorem p101_107 : P101 107 := callN_ok Tryz.Yok Tryz.knok (n := 200) (by kernel_rfl) (by kernel_rfl)
theorem b101_108 : ∀ c, c < 108 → P101 c := below26 b101_107 p101_107
theorem p101_108 : P101 108 := callN_ok Tryz.Yok Tryz.knok (n := 200) (by kernel_rfl) (by kernel_rfl)
theorem b101_109 : ∀ c, c < 109 → P101 c := below26 b101_108 p101_108
theorem p101_109 : P101 109 := callN_ok Tryz.Yok Tryz.knok (n := 200) (by kernel_rfl) (by kernel_rfl)
theorem b101_110 : ∀ c, c < 110 → P101 c := below26 b101_109 p101_109
theorem p101_110 : P101 110 := callN_ok Tryz.Yok Tryz.knok (n := 200) (by kernel_rfl) (by kernel_rfl)
theorem b101_111 : ∀ c, c < 111 → P101 c := below26 b101_110 p101_110
theorem p101_111 : P101 111 := callN_ok Tryz.Yok Tryz.knok (n := 200) (by kernel_rfl) (by kernel_rfl)
theorem b101_112 : ∀ c, c < 112 → P101 c := below26 b101_111 p101_111
theorem p101_112 : P101 112 := callN_ok Tryz.Yok Tryz.knok (n := 200) (by kernel_rfl) (by kernel_rfl)
theorem b101_113 : ∀ c, c < 113 → P101 c := below26 b101_112 p101_112
theorem p101_113 : P101 113 := callN_ok Tryz.Yok Tryz.knok (n := 200) (by kernel_rfl) (by kernel_rfl)
theorem b101_114 : ∀ c, c < 114 → P101 c := below26 b101_113 p101_113
theorem p101_114 : P101 114 := callN_ok Tryz.Yok Tryz.knok (n := 200) (by kernel_rfl) (by kernel_rfl)
theorem b101_115 : ∀ c, c < 115 → P101 c := below26 b101_114 p101_114
theorem p101_115 : P101 115 := callN_ok Tryz.Yok Tryz.knok (n := 200) (by kernel_rfl) (by kernel_rfl)
theorem b101_116 : ∀ c, c < 116 → P101 c := below26 b101_115 p101_115
theorem p101_116 : P101 116 := callN_ok Tryz.Yok Tryz.knok (n := 200) (by kernel_rfl) (by kernel_rfl)
theorem b101_117 : ∀ c, c < 117 → P101 c := below26 b101_116 p101_116
theorem p101_117 : P101 117 := callN_ok Tryz.Yok Tryz.knok (n := 200) (by kernel_rfl) (by kernel_rfl)
theorem b101_118 : ∀ c, c < 118 → P101 c := below26 b101_117 p101_117
theorem p101_118 : P101 118 := callN_ok Tryz.Yok Tryz.knok (n := 200) (by kernel_rfl) (by kernel_rfl)
theorem b101_119 : ∀ c, c < 119 → P101 c := below26 b101_118 p101_118
theorem p101_119 : P101 119 := callN_ok Tryz.Yok Tryz.knok (n := 200) (by kernel_rfl) (by kernel_rfl)
theorem b101_120 : ∀ c, c < 120 → P101 c := below26 b101_119 p101_119
theorem p101_120 : P101 120 := callN_ok Tryz.Yok Tryz.knok (n := 200) (by kernel_rfl) (by kernel_rfl)
theorem b101_121 : ∀ c, c < 121 → P101 c := below26 b101_120 p101_120
theorem p101_121 : P101 121 := callN_ok Tryz.Yok Tryz.knok (n := 200) (by kernel_rfl) (by kernel_rfl)
theorem b101_122 : ∀ c, c < 122 → P101 c := below26 b101_121 p101_121
theorem p101_122 : P101 122 := callN_ok Tryz.Yok Tryz.knok (n := 200) (by kernel_rfl) (by kernel_rfl)
theorem b101_123 : ∀ c, c < 123 → P101 c := below26 b101_122 p101_122
theorem p101_123 : P101 123 := callN_ok Tryz.Yok Tryz.knok (n := 200) (by kernel_rfl) (by kernel_rfl)
theorem b101_124 : ∀ c, c < 124 → P101 c := below26 b101_123 p101_123
theorem p101_124 : P101 124 := callN_ok Tryz.Yok Tryz.knok (n := 200) (by kernel_rfl) (by kernel_rfl)
theorem b101_125 : ∀ c, c < 125 → P101 c := below26 b101_124 p101_124
theorem p101_125 : P101 125 := callN_ok Tryz.Yok Tryz.knok (n := 200) (by kernel_rfl) (by kernel_rfl)
theorem b101_126 : ∀ c, c < 126 → P101 c := below26 b101_125 p101_125
theorem p101_126 : P101 126 := callN_ok Tryz.Yok Tryz.knok (n := 200) (by kernel_rfl) (by kernel_rfl)
theorem b101_127 : ∀ c, c < 127 → P101 c := below26 b101_126 p101_126
theorem p101_127 : P101 127 := callN_ok Tryz.Yok Tryz.knok (n := 200) (by kernel_rfl) (by kernel_rfl)
theorem b101_128 : ∀ c, c < 128 → P101 c := below26 b101_127 p101_127
theorem p101_128 : P101 128 := callN_ok Tryz.Yok Tryz.knok (n := 200) (by kernel_rfl) (by kernel_rfl)
theorem b101_129 : ∀ c, c < 129 → P101 c := below26 b101_128 p101_128
theorem p101_129 : P101 129 := callN_ok Tryz.Yok Tryz.knok (n := 200) (by kernel_rfl) (by kernel_rfl)
theorem b101_130 : ∀ c, c < 130 → P101 c := below26 b101_129 p101_129
theorem p101_130 : P101 130 := callN_ok Tryz.Yok Tryz.knok (n := 200) (by kernel_rfl) (by kernel_rfl)
theorem b101_131 : ∀ c, c < 131 → P101 c := below26 b101_130 p101_130
theorem p101_131 : P101 131 := callN_ok Tryz.Yok Tryz.knok (n := 200) (by kernel_rfl) (by kernel_rfl)
theorem b101_132 : ∀ c, c < 132 → P101 c := below26 b101_131 p101_131
theorem p101_132 : P101 132 := callN_ok Tryz.Yok Tryz.knok (n := 200) (by kernel_rfl) (by kernel_rfl)
theorem b101_133 : ∀ c, c < 133 → P101 c := below26 b101_132 p101_132
theorem p101_133 : P101 133 := callN_ok Tryz.Yok Tryz.knok (n := 200) (by kernel_rfl) (by kernel_rfl)
theorem b101_134 : ∀ c, c < 134 → P101 c := below26 b101_133 p101_133
theorem p101_134 : P101 134 := callN_ok Tryz.Yok Tryz.knok (n := 200) (by kernel_rfl) (by kernel_rfl)
theorem b101_135 : ∀ c, c < 135 → P101 c := below26 b101_134 p101_134
theorem p101_135 : P101 135 := callN_ok Tryz.Yok Tryz.knok (n := 200) (by kernel_rfl) (by kernel_rfl)
theorem b101_136 : ∀ c, c < 136 → P101 c := below26 b101_135 p101_135
theorem p101_136 : P101 136 := callN_ok Tryz.Yok Tryz.knok (n := 200) (by kernel_rfl) (by kernel_rfl)
theorem b101_137 : ∀ c, c < 137 → P101 c := below26 b101_136 p101_136
theorem p101_137 : P101 137 := callN_ok Tryz.Yok Tryz.knok (n := 200) (by kernel_rfl) (by kernel_rfl)
theorem b101_138 : ∀ c, c < 138 → P101 c := below26 b101_137 p101_137
theorem p101_138 : P101 138 := callN_ok Tryz.Yok Tryz.knok (n := 200) (by kernel_rfl) (by kernel_rfl)
theorem b101_139 : ∀ c, c < 139 → P101 c := below26 b101_138 p101_138
theorem p101_139 : P101 139 := callN_ok Tryz.Yok Tryz.knok (n := 200) (by kernel_rfl) (by kernel_rfl)
theorem b101_140 : ∀ c, c < 140 → P101 c := below26 b101_139 p101_139
theorem p101_140 : P101 140 := callN_ok Tryz.Yok Tryz.knok (n := 200) (by kernel_rfl) (by kernel_rfl)
theorem b101_141 : ∀ c, c < 141 → P101 c := below26 b101_140 p101_140
theorem p101_141 : P101 141 := callN_ok Tryz.Yok Tryz.knok (n := 200) (by kernel_rfl) (by kernel_rfl)
theorem b101_142 : ∀ c, c < 142 → P101 c := below26 b101_141 p101_141
theorem p101_142 : P101 142 := callN_ok Tryz.Yok Tryz.knok (n := 200) (by kernel_rfl) (by kernel_rfl)
theorem b101_143 : ∀ c, c < 143 → P101 c := below26 b101_142 p101_142
theorem p101_143 : P101 143 := callN_ok Tryz.Yok Tryz.knok (n := 200) (by kernel_rfl) (by kernel_rfl)
theorem b101_144 : ∀ c, c < 144 → P101 c := below26 b101_143 p101_143
theorem p101_144 : P101 144 := callN_ok Tryz.Yok Tryz.knok (n := 200) (by kernel_rfl) (by kernel_rfl)
theorem b101_145 : ∀ c, c < 145 → P101 c := below26 b101_144 p101_144
theorem p101_145 : P101 145 := callN_ok Tryz.Yok Tryz.knok (n := 200) (by kernel_rfl) (by kernel_rfl)
theorem b101_146 : ∀ c, c < 146 → P101 c := below26 b101_145 p101_145
theorem p101_146 : P101 146 := callN_ok Tryz.Yok Tryz.knok (n := 200) (by kernel_rfl) (by kernel_rfl)
theorem b101_147 : ∀ c, c < 147 → P101 c := below26 b101_146 p101_146
theorem p101_147 : P101 147 := callN_ok Tryz.Yok Tryz.knok (n := 200) (by kernel_rfl) (by kernel_rfl)
theorem b101_148 : ∀ c, c < 148 → P101 c := below26 b101_147 p101_147
theorem p101_148 : P101 148 := callN_ok Tryz.Yok Tryz.knok (n := 200) (by kernel_rfl) (by kernel_rfl)
theorem b101_149 : ∀ c, c < 149 → P101 c := below26 b101_148 p101_148
theorem p101_149 : P101 149 := callN_ok Tryz.Yok Tryz.knok (n := 200) (by kernel_rfl) (by kernel_rfl)
theorem b101_150 : ∀ c, c < 150 → P101 c := below26 b101_149 p101_149
theorem p101_150 : P101 150 := callN_ok Tryz.Yok Tryz.knok (n := 200) (by kernel_rfl) (by kernel_rfl)
theorem b101_151 : ∀ c, c < 151 → P101 c := below26 b101_150 p101_150
theorem p101_151 : P101 151 := callN_ok Tryz.Yok Tryz.knok (n := 200) (by kernel_rfl) (by kernel_rfl)
theorem b101_152 : ∀ c, c < 152 → P101 c := below26 b101_151 p101_151
theorem p101_152 : P101 152 := callN_ok Tryz.Yok Tryz.knok (n := 200) (by kernel_rfl) (by kernel_rfl)
theorem b101_153 : ∀ c, c < 153 → P101 c := below26 b101_152 p101_152
theorem p101_153 : P101 153 := callN_ok Tryz.Yok Tryz.knok (n := 200) (by kernel_rfl) (by kernel_rfl)
theorem b101_154 : ∀ c, c < 154 → P101 c := below26 b101_153 p101_153
theorem p101_154 : P101 154 := callN_ok Tryz.Yok Tryz.knok (n := 200) (by kernel_rfl) (by kernel_rfl)
theorem b101_155 : ∀ c, c < 155 → P101 c := below26 b101_154 p101_154
theorem p101_155 : P101 155 := callN_ok Tryz.Yok Tryz.knok (n := 200) (by kernel_rfl) (by kernel_rfl)
theorem b101_156 : ∀ c, c < 156 → P101 c := below26 b101_155 p101_155
theorem p101_156 : P101 156 := callN_ok Tryz.Yok Tryz.knok (n := 200) (by kernel_rfl) (by kernel_rfl)
theorem b101_157 : ∀ c, c < 157 → P101 c := below26 b101_156 p101_156
theorem p101_157 : P101 157 := callN_ok Tryz.Yok Tryz.knok (n := 200) (by kernel_rfl) (by kernel_rfl)
theorem b101_158 : ∀ c, c < 158 → P101 c := below26 b101_157 p101_157
theorem p101_158 : P101 158 := callN_ok Tryz.Yok Tryz.knok (n := 200) (by kernel_rfl) (by kernel_rfl)
theorem b101_159 : ∀ c, c < 159 → P101 c := below26 b101_158 p101_158
theorem p101_159 : P101 159 := callN_ok Tryz.Yok Tryz.knok (n := 200) (by kernel_rfl) (by kernel_rfl)
theorem b101_160 : ∀ c, c < 160 → P101 c := below26 b101_159 p101_159
theorem p101_160 : P101 160 := callN_ok Tryz.Yok Tryz.knok (n := 200) (by kernel_rfl) (by kernel_rfl)
theorem b101_161 : ∀ c, c < 161 → P101 c := below26 b101_160 p101_160
theorem p101_161 : P101 161 := callN_ok Tryz.Yok Tryz.knok (n := 200) (by kernel_rfl) (by kernel_rfl)
theorem b101_162 : ∀ c, c < 162 → P101 c := below26 b101_161 p101_161
theorem p101_162 : P101 162 := callN_ok Tryz.Yok Tryz.knok (n := 200) (by kernel_rfl) (by kernel_rfl)
theorem b101_163 : ∀ c, c < 163 → P101 c := below26 b101_162 p101_162
theorem p101_163 : P101 163 := callN_ok Tryz.Yok Tryz.knok (n := 200) (by kernel_rfl) (by kernel_rfl)
theorem b101_164 : ∀ c, c < 164 → P101 c := below26 b101_163 p101_163
theorem p101_164 : P101 164 := callN_ok Tryz.Yok Tryz.knok (n := 200) (by kernel_rfl) (by kernel_rfl)
theorem b101_165 : ∀ c, c < 165 → P101 c := below26 b101_164 p101_164
theorem p101_165 : P101 165 := callN_ok Tryz.Yok Tryz.knok (n := 200) (by kernel_rfl) (by kernel_rfl)
theorem b101_166 : ∀ c, c < 166 → P101 c := below26 b101_165 p101_165
theorem p101_166 : P101 166 := callN_ok Tryz.Yok Tryz.knok (n := 200) (by kernel_rfl) (by kernel_rfl)
theorem b101_167 : ∀ c, c < 167 → P101 c := below26 b101_166 p101_166
theorem p101_167 : P101 167 := callN_ok Tryz.Yok Tryz.knok (n := 200) (by kernel_rfl) (by kernel_rfl)
theorem b101_168 : ∀ c, c < 168 → P101 c := below26 b101_167 p101_167
theorem p101_168 : P101 168 := callN_ok Tryz.Yok Tryz.knok (n := 200) (by kernel_rfl) (by kernel_rfl)
theorem b101_169 : ∀ c, c < 169 → P101 c := below26 b101_168 p101_168
theorem p101_169 : P101 169 := callN_ok Tryz.Yok Tryz.knok (n := 200) (by kernel_rfl) (by kernel_rfl)
theorem b101_170 : ∀ c, c < 170 → P101 c := below26 b101_169 p101_169
theorem p101_170 : P101 170 := callN_ok Tryz.Yok Tryz.knok (n := 200) (by kernel_rfl) (by kernel_rfl)
theorem b101_171 : ∀ c, c < 171 → P101 c := below26 b101_170 p101_170
theorem p101_171 : P101 171 := callN_ok Tryz.Yok Tryz.knok (n := 200) (by kernel_rfl) (by kernel_rfl)
theorem b101_172 : ∀ c, c < 172 → P101 c := below26 b101_171 p101_171
theorem p101_172 : P101 172 := callN_ok Tryz.Yok Tryz.knok (n := 200) (by kernel_rfl) (by kernel_rfl)
theorem b101_173 : ∀ c, c < 173 → P101 c := below26 b101_172 p101_172
theorem p101_173 : P101 173 := callN_ok Tryz.Yok Tryz.knok (n := 200) (by kernel_rfl) (by kernel_rfl)
theorem b101_174 : ∀ c, c < 174 → P101 c := below26 b101_173 p101_173
theorem p101_174 : P101 174 := callN_ok Tryz.Yok Tryz.knok (n := 200) (by kernel_rfl) (by kernel_rfl)
theorem b101_175 : ∀ c, c < 175 → P101 c := below26 b101_174 p101_174
theorem p101_175 : P101 175 := callN_ok Tryz.Yok Tryz.knok (n := 200) (by kernel_rfl) (by kernel_rfl)
theorem b101_176 : ∀ c, c < 176 → P101 c := below26 b101_175 p101_175
theorem p101_176 : P101 176 := callN_ok Tryz.Yok Tryz.knok (n := 200) (by kernel_rfl) (by kernel_rfl)
theorem b101_177 : ∀ c, c < 177 → P101 c := below26 b101_176 p101_176
theorem p101_177 : P101 177 := callN_ok Tryz.Yok Tryz.knok (n := 200) (by kernel_rfl) (by kernel_rfl)
theorem b101_178 : ∀ c, c < 178 → P101 c := below26 b101_177 p101_177
theorem p101_178 : P101 178 := callN_ok Tryz.Yok Tryz.knok (n := 200) (by kernel_rfl) (by kernel_rfl)
theorem b101_179 : ∀ c, c < 179 → P101 c := below26 b101_178 p101_178
theorem p101_179 : P101 179 := callN_ok Tryz.Yok Tryz.knok (n := 200) (by kernel_rfl) (by kernel_rfl)
theorem b101_180 : ∀ c, c < 180 → P101 c := below26 b101_179 p101_179
theorem p101_180 : P101 180 := callN_ok Tryz.Yok Tryz.knok (n := 200) (by kernel_rfl) (by kernel_rfl)
theorem b101_181 : ∀ c, c < 181 → P101 c := below26 b101_180 p101_180
theorem p101_181 : P101 181 := callN_ok Tryz.Yok Tryz.knok (n := 200) (by kernel_rfl) (by kernel_rfl)
theorem b101_182 : ∀ c, c < 182 → P101 c := below26 b101_181 p101_181
theorem p101_182 : P101 182 := callN_ok Tryz.Yok Tryz.knok (n := 200) (by kernel_rfl) (by kernel_rfl)
theorem b101_183 : ∀ c, c < 183 → P101 c := below26 b101_182 p101_182
theorem p101_183 : P101 183 := callN_ok Tryz.Yok Tryz.knok (n := 200) (by kernel_rfl) (by kernel_rfl)
theorem b101_184 : ∀ c, c < 184 → P101 c := below26 b101_183 p101_183
theorem p101_184 : P101 184 := callN_ok Tryz.Yok Tryz.knok (n := 200) (by kernel_rfl) (by kernel_rfl)
theorem b101_185 : ∀ c, c < 185 → P101 c := below26 b101_184 p101_184
theorem p101_185 : P101 185 := callN_ok Tryz.Yok Tryz.knok (n := 200) (by kernel_rfl) (by kernel_rfl)
theorem b101_186 : ∀ c, c < 186 → P101 c := below26 b101_185 p101_185
theorem p101_186 : P101 186 := callN_ok Tryz.Yok Tryz.knok (n := 200) (by kernel_rfl) (by kernel_rfl)
theorem b101_187 : ∀ c, c < 187 → P101 c := below26 b101_186 p101_186
theorem p101_187 : P101 187 := callN_ok Tryz.Yok Tryz.knok (n := 200) (by kernel_rfl) (by kernel_rfl)
theorem b101_188 : ∀ c, c < 188 → P101 c := below26 b101_187 p101_187
theorem p101_188 : P101 188 := callN_ok Tryz.Yok Tryz.knok (n := 200) (by kernel_rfl) (by kernel_rfl)
theorem b101_189 : ∀ c, c < 189 → P101 c := below26 b101_188 p101_188
theorem p101_189 : P101 189 := callN_ok Tryz.Yok Tryz.knok (n := 200) (by kernel_rfl) (by kernel_rfl)
theorem b101_190 : ∀ c, c < 190 → P101 c := below26 b101_189 p101_189
theorem p101_190 : P101 190 := callN_ok Tryz.Yok Tryz.knok (n := 200) (by kernel_rfl) (by kernel_rfl)
theorem b101_191 : ∀ c, c < 191 → P101 c := below26 b101_190 p101_190
theorem p101_191 : P101 191 := callN_ok Tryz.Yok Tryz.knok (n := 200) (by kernel_rfl) (by kernel_rfl)
theorem b101_192 : ∀ c, c < 192 → P101 c := below26 b101_191 p101_191
theorem p101_192 : P101 192 := callN_ok Tryz.Yok Tryz.knok (n := 200) (by kernel_rfl) (by kernel_rfl)
theorem b101_193 : ∀ c, c < 193 → P101 c := below26 b101_192 p101_192
theorem p101_193 : P101 193 := callN_ok Tryz.Yok Tryz.knok (n := 200) (by kernel_rfl) (by kernel_rfl)
theorem b101_194 : ∀ c, c < 194 → P101 c := below26 b101_193 p101_193
theorem p101_194 : P101 194 := callN_ok Tryz.Yok Tryz.knok (n := 200) (by kernel_rfl) (by kernel_rfl)
theorem b101_195 : ∀ c, c < 195 → P101 c := below26 b101_194 p101_194
theorem p101_195 : P101 195 := callN_ok Tryz.Yok Tryz.knok (n := 200) (by kernel_rfl) (by kernel_rfl)
theorem b101_196 : ∀ c, c < 196 → P101 c := below26 b101_195 p101_195
theorem p101_196 : P101 196 := callN_ok Tryz.Yok Tryz.knok (n := 200) (by kernel_rfl) (by kernel_rfl)
theorem b101_197 : ∀ c, c < 197 → P101 c := below26 b101_196 p101_196
theorem p101_197 : P101 197 := callN_ok Tryz.Yok Tryz.knok (n := 200) (by kernel_rfl) (by kernel_rfl)
theorem b101_198 : ∀ c, c < 198 → P101 c := below26 b101_197 p101_197
theorem p101_198 : P101 198 := callN_ok Tryz.Yok Tryz.knok (n := 200) (by kernel_rfl) (by kernel_rfl)
theorem b101_199 : ∀ c, c < 199 → P101 c := below26 b101_198 p101_198
theorem p101_199 : P101 199 := callN_ok Tryz.Yok Tryz.knok (n := 200) (by kernel_rfl) (by kernel_rfl)
theorem b101_200 : ∀ c, c < 200 → P101 c := below26 b101_199 p101_199
theorem p101_200 : P101 200 := callN_ok Tryz.Yok Tryz.knok (n := 200) (by kernel_rfl) (by kernel_rfl)
theorem b101_201 : ∀ c, c < 201 → P101 c := below26 b101_200 p101_200
theorem p101_201 : P101 201 := callN_ok Tryz.Yok Tryz.knok (n := 200) (by kernel_rfl) (by kernel_rfl)
theorem b101_202 : ∀ c, c < 202 → P101 c := below26 b101_201 p101_201
theorem p101_202 : P101 202 := callN_ok Tryz.Yok Tryz.knok (n := 200) (by kernel_rfl) (by kernel_rfl)
theorem b101_203 : ∀ c, c < 203 → P101 c := below26 b101_202 p101_202
theorem p101_203 : P101 203 := callN_ok Tryz.Yok Tryz.knok (n := 200) (by kernel_rfl) (by kernel_rfl)
theorem b101_204 : ∀ c, c < 204 → P101 c := below26 b101_203 p101_203
theorem p101_204 : P101 204 := callN_ok Tryz.Yok Tryz.knok (n := 200) (by kernel_rfl) (by kernel_rfl)
theorem b101_205 : ∀ c, c < 205 → P101 c := below26 b101_204 p101_204
theorem p101_205 : P101 205 := callN_ok Tryz.Yok Tryz.knok (n := 200) (by kernel_rfl) (by kernel_rfl)
theorem b101_206 : ∀ c, c < 206 → P101 c := below26 b101_205 p101_205
theorem p101_206 : P101 206 := callN_ok Tryz.Yok Tryz.knok (n := 200) (by kernel_rfl) (by kernel_rfl)
theorem b101_207 : ∀ c, c < 207 → P101 c := below26 b101_206 p101_206
theorem p101_207 : P101 207 := callN_ok Tryz.Yok Tryz.knok (n := 200) (by kernel_rfl) (by kernel_rfl)
theorem b101_208 : ∀ c, c < 208 → P101 c := below26 b101_207 p101_207
theorem p101_208 : P101 208 := callN_ok Tryz.Yok Tryz.knok (n := 200) (by kernel_rfl) (by kernel_rfl)
theorem b101_209 : ∀ c, c < 209 → P101 c := below26 b101_208 p101_208
theorem p101_209 : P101 209 := callN_ok Tryz.Yok Tryz.knok (n := 200) (by kernel_rfl) (by kernel_rfl)
theorem b101_210 : ∀ c, c < 210 → P101 c := below26 b101_209 p101_209
theorem p101_210 : P101 210 := callN_ok Tryz.Yok Tryz.knok (n := 200) (by kernel_rfl) (by kernel_rfl)
theorem b101_211 : ∀ c, c < 211 → P101 c := below26 b101_210 p101_210
theorem p101_211 : P101 211 := callN_ok Tryz.Yok Tryz.knok (n := 200) (by kernel_rfl) (by kernel_rfl)
theorem b101_212 : ∀ c, c < 212 → P101 c := below26 b101_211 p101_211
theorem p101_212 : P101 212 := callN_ok Tryz.Yok Tryz.knok (n := 200) (by kernel_rfl) (by kernel_rfl)
theorem b101_213 : ∀ c, c < 213 → P101 c := below26 b101_212 p101_212
theorem p101_213 : P101 213 := callN_ok Tryz.Yok Tryz.knok (n := 200) (by kernel_rfl) (by kernel_rfl)
theorem b101_214 : ∀ c, c < 214 → P101 c := below26 b101_213 p101_213
theorem p101_214 : P101 214 := callN_ok Tryz.Yok Tryz.knok (n := 200) (by kernel_rfl) (by kernel_rfl)
theorem b101_215 : ∀ c, c < 215 → P101 c := below26 b101_214 p101_214
theorem p101_215 : P101 215 := callN_ok Tryz.Yok Tryz.knok (n := 200) (by kernel_rfl) (by kernel_rfl)
theorem b101_216 : ∀ c, c < 216 → P101 c := below26 b101_215 p101_215
theorem p101_216 : P101 216 := callN_ok Tryz.Yok Tryz.knok (n := 200) (by kernel_rfl) (by kernel_rfl)
theorem b101_217 : ∀ c, c < 217 → P101 c := below26 b101_216 p101_216
theorem p101_217 : P101 217 := callN_ok Tryz.Yok Tryz.knok (n := 200) (by kernel_rfl) (by kernel_rfl)
theorem b101_218 : ∀ c, c < 218 → P101 c := below26 b101_217 p101_217
theorem p101_218 : P101 218 := callN_ok Tryz.Yok Tryz.knok (n := 200) (by kernel_rfl) (by kernel_rfl)
theorem b101_219 : ∀ c, c < 219 → P101 c := below26 b101_218 p101_218
theorem p101_219 : P101 219 := callN_ok Tryz.Yok Tryz.knok (n := 200) (by kernel_rfl) (by kernel_rfl)
theorem b101_220 : ∀ c, c < 220 → P101 c := below26 b101_219 p101_219
theorem p101_220 : P101 220 := callN_ok Tryz.Yok Tryz.knok (n := 200) (by kernel_rfl) (by kernel_rfl)
theorem b101_221 : ∀ c, c < 221 → P101 c := below26 b101_220 p101_220
theorem p101_221 : P101 221 := callN_ok Tryz.Yok Tryz.knok (n := 200) (by kernel_rfl) (by kernel_rfl)
theorem b101_222 : ∀ c, c < 222 → P101 c := below26 b101_221 p101_221
theorem p101_222 : P101 222 := callN_ok Tryz.Yok Tryz.knok (n := 200) (by kernel_rfl) (by kernel_rfl)
theorem b101_223 : ∀ c, c < 223 → P101 c := below26 b101_222 p101_222
theorem p101_223 : P101 223 := callN_ok Tryz.Yok Tryz.knok (n := 200) (by kernel_rfl) (by kernel_rfl)
theorem b101_224 : ∀ c, c < 224 → P101 c := below26 b101_223 p101_223
theorem p101_224 : P101 224 := callN_ok Tryz.Yok Tryz.knok (n := 200) (by kernel_rfl) (by kernel_rfl)
theorem b101_225 : ∀ c, c < 225 → P101 c := below26 b101_224 p101_224
theorem p101_225 : P101 225 := callN_ok Tryz.Yok Tryz.knok (n := 200) (by kernel_rfl) (by kernel_rfl)
theorem b101_226 : ∀ c, c < 226 → P101 c := below26 b101_225 p101_225
theorem p101_226 : P101 226 := callN_ok Tryz.Yok Tryz.knok (n := 200) (by kernel_rfl) (by kernel_rfl)
theorem b101_227 : ∀ c, c < 227 → P101 c := below26 b101_226 p101_226
theorem p101_227 : P101 227 := callN_ok Tryz.Yok Tryz.knok (n := 200) (by kernel_rfl) (by kernel_rfl)
theorem b101_228 : ∀ c, c < 228 → P101 c := below26 b101_227 p101_227
theorem p101_228 : P101 228 := callN_ok Tryz.Yok Tryz.knok (n := 200) (by kernel_rfl) (by kernel_rfl)
theorem b101_229 : ∀ c, c < 229 → P101 c := below26 b101_228 p101_228
theorem p101_229 : P101 229 := callN_ok Tryz.Yok Tryz.knok (n := 200) (by kernel_rfl) (by kernel_rfl)
theorem b101_230 : ∀ c, c < 230 → P101 c := below26 b101_229 p101_229
theorem p101_230 : P101 230 := callN_ok Tryz.Yok Tryz.knok (n := 200) (by kernel_rfl) (by kernel_rfl)
theorem b101_231 : ∀ c, c < 231 → P101 c := below26 b101_230 p101_230
theorem p101_231 : P101 231 := callN_ok Tryz.Yok Tryz.knok (n := 200) (by kernel_rfl) (by kernel_rfl)
theorem b101_232 : ∀ c, c < 232 → P101 c := below26 b101_231 p101_231
theorem p101_232 : P101 232 := callN_ok Tryz.Yok Tryz.knok (n := 200) (by kernel_rfl) (by kernel_rfl)
theorem b101_233 : ∀ c, c < 233 → P101 c := below26 b101_232 p101_232
theorem p101_233 : P101 233 := callN_ok Tryz.Yok Tryz.knok (n := 200) (by kernel_rfl) (by kernel_rfl)
theorem b101_234 : ∀ c, c < 234 → P101 c := below26 b101_233 p101_233
theorem p101_234 : P101 234 := callN_ok Tryz.Yok Tryz.knok (n := 200) (by kernel_rfl) (by kernel_rfl)
theorem b101_235 : ∀ c, c < 235 → P101 c := below26 b101_234 p101_234
theorem p101_235 : P101 235 := callN_ok Tryz.Yok Tryz.knok (n := 200) (by kernel_rfl) (by kernel_rfl)
theorem b101_236 : ∀ c, c < 236 → P101 c := below26 b101_235 p101_235
theorem p101_236 : P101 236 := callN_ok Tryz.Yok Tryz.knok (n := 200) (by kernel_rfl) (by kernel_rfl)
theorem b101_237 : ∀ c, c < 237 → P101 c := below26 b101_236 p101_236
theorem p101_237 : P101 237 := callN_ok Tryz.Yok Tryz.knok (n := 200) (by kernel_rfl) (by kernel_rfl)
theorem b101_238 : ∀ c, c < 238 → P101 c := below26 b101_237 p101_237
theorem p101_238 : P101 238 := callN_ok Tryz.Yok Tryz.knok (n := 200) (by kernel_rfl) (by kernel_rfl)
theorem b101_239 : ∀ c, c < 239 → P101 c := below26 b101_238 p101_238
theorem p101_239 : P101 239 := callN_ok Tryz.Yok Tryz.knok (n := 200) (by kernel_rfl) (by kernel_rfl)
theorem b101_240 : ∀ c, c < 240 → P101 c := below26 b101_239 p101_239
theorem p101_240 : P101 240 := callN_ok Tryz.Yok Tryz.knok (n := 200) (by kernel_rfl) (by kernel_rfl)
theorem b101_241 : ∀ c, c < 241 → P101 c := below26 b101_240 p101_240
theorem p101_241 : P101 241 := callN_ok Tryz.Yok Tryz.knok (n := 200) (by kernel_rfl) (by kernel_rfl)
theorem b101_242 : ∀ c, c < 242 → P101 c := below26 b101_241 p101_241
theorem p101_242 : P101 242 := callN_ok Tryz.Yok Tryz.knok (n := 200) (by kernel_rfl) (by kernel_rfl)
theorem b101_243 : ∀ c, c < 243 → P101 c := below26 b101_242 p101_242
theorem p101_243 : P101 243 := callN_ok Tryz.Yok Tryz.knok (n := 200) (by kernel_rfl) (by kernel_rfl)
theorem b101_244 : ∀ c, c < 244 → P101 c := below26 b101_243 p101_243
theorem p101_244 : P101 244 := callN_ok Tryz.Yok Tryz.knok (n := 200) (by kernel_rfl) (by kernel_rfl)
theorem b101_245 : ∀ c, c < 245 → P101 c := below26 b101_244 p101_244
theorem p101_245 : P101 245 := callN_ok Tryz.Yok Tryz.knok (n := 200) (by kernel_rfl) (by kernel_rfl)
theorem b101_246 : ∀ c, c < 246 → P101 c := below26 b101_245 p101_245
theorem p101_246 : P101 246 := callN_ok Tryz.Yok Tryz.knok (n := 200) (by kernel_rfl) (by kernel_rfl)
theorem b101_247 : ∀ c, c < 247 → P101 c := below26 b101_246 p101_246
theorem p101_247 : P101 247 := callN_ok Tryz.Yok Tryz.knok (n := 200) (by kernel_rfl) (by kernel_rfl)
theorem b101_248 : ∀ c, c < 248 → P101 c := below26 b101_247 p101_247
theorem p101_248 : P101 248 := callN_ok Tryz.Yok Tryz.knok (n := 200) (by kernel_rfl) (by kernel_rfl)
theorem b101_249 : ∀ c, c < 249 → P101 c := below26 b101_248 p101_248
theorem p101_249 : P101 249 := callN_ok Tryz.Yok Tryz.knok (n := 200) (by kernel_rfl) (by kernel_rfl)
theorem b101_250 : ∀ c, c < 250 → P101 c := below26 b101_249 p101_249
theorem p101_250 : P101 250 := callN_ok Tryz.Yok Tryz.knok (n := 200) (by kernel_rfl) (by kernel_rfl)
theorem b101_251 : ∀ c, c < 251 → P101 c := below26 b101_250 p101_250
theorem p101_251 : P101 251 := callN_ok Tryz.Yok Tryz.knok (n := 200) (by kernel_rfl) (by kernel_rfl)
theorem b101_252 : ∀ c, c < 252 → P101 c := below26 b101_251 p101_251
theorem p101_252 : P101 252 := callN_ok Tryz.Yok Tryz.knok (n := 200) (by kernel_rfl) (by kernel_rfl)
theorem b101_253 : ∀ c, c < 253 → P101 c := below26 b101_252 p101_252
theorem p101_253 : P101 253 := callN_ok Tryz.Yok Tryz.knok (n := 200) (by kernel_rfl) (by kernel_rfl)
theorem b101_254 : ∀ c, c < 254 → P101 c := below26 b101_253 p101_253
theorem p101_254 : P101 254 := callN_ok Tryz.Yok Tryz.knok (n := 200) (by kernel_rfl) (by kernel_rfl)
theorem b101_255 : ∀ c, c < 255 → P101 c := below26 b101_254 p101_254
theorem p101_255 : P101 255 := callN_ok Tryz.Yok Tryz.knok (n := 200) (by kernel_rfl) (by kernel_rfl)
theorem b101_256 : ∀ c, c < 256 → P101 c := below26 b101_255 p101_255
theorem all101 : ∀ c, c < 256 → P101 c := b101_256
end Go.Y
