/- Has: at each byte, by the kernel (a program wrote these lines). -/
import Derived.Test.YtlnpmefmmiacaaaGreatDoorYTryzP
import Derived.Test.YtlnpmefmmiacaaaGreatDoorYFun
namespace Go.Y
open Go.Proofs
set_option maxRecDepth 100000
set_option maxHeartbeats 0
def pick4 (x0 x1 x2 x3 : Int) : Nat → Int
  | 0 => x0
  | 1 => x1
  | 2 => x2
  | _ => x3
def T26 (x0 x1 x2 x3 : Int) (c : Nat) (h : Heap) (K : Out → Nat → List V → Heap → Prop) : Prop :=
  ((64 : Int) = (0 : Int) → False) ∧ ((0 : Int) ≤ IntKind.u8.wrap (Int.tdiv (c : Int) (64 : Int)) ∧ IntKind.u8.wrap (Int.tdiv (c : Int) (64 : Int)) < (↑(4 : Nat) : Int)) ∧
    ((64 : Int) = (0 : Int) → False) ∧ (0 : Int) ≤ Int.tmod (c : Int) (64 : Int) ∧ ((2 : Int) = (0 : Int) → False) ∧
      K Out.ret 14 [V.b (((pick4 x0 x1 x2 x3 (c / 64)).fdiv ((2 : Int) ^ min (Int.tmod (c : Int) (64 : Int)).toNat IntKind.u64.bits)).tmod (2 : Int) == (1 : Int))] h
def P26 (c : Nat) : Prop := ∀ (x0 x1 x2 x3 : Int) (h : Heap) (K : Out → Nat → List V → Heap → Prop), codeP Tryz.Y (Tryz.Y.loc 26) 100 (flat (bodyOf Tryz.f26)) ⟨(V.agg [V.i IntKind.u64 x0, V.i IntKind.u64 x1, V.i IntKind.u64 x2, V.i IntKind.u64 x3] :: V.i IntKind.u8 (c : Int) :: List.replicate 12 .undef), [], h⟩ (VQ [4] K) = T26 x0 x1 x2 x3 c h K
theorem below26 {P : Nat → Prop} {n : Nat} (h : ∀ c, c < n → P c) (hn : P n) : ∀ c, c < n + 1 → P c := fun c hc => by
  rcases Nat.lt_or_ge c n with h1 | h1
  · exact h c h1
  · have : c = n := by omega
    subst this; exact hn
theorem b26_0 : ∀ c, c < 0 → P26 c := fun c hc => absurd hc (Nat.not_lt_zero c)
theorem p26_0 : P26 0 := by
  intro x0 x1 x2 x3 h K
  kernel_rfl
theorem b26_1 : ∀ c, c < 1 → P26 c := below26 b26_0 p26_0
theorem p26_1 : P26 1 := by
  intro x0 x1 x2 x3 h K
  kernel_rfl
theorem b26_2 : ∀ c, c < 2 → P26 c := below26 b26_1 p26_1
theorem p26_2 : P26 2 := by
  intro x0 x1 x2 x3 h K
  kernel_rfl
theorem b26_3 : ∀ c, c < 3 → P26 c := below26 b26_2 p26_2
theorem p26_3 : P26 3 := by
  intro x0 x1 x2 x3 h K
  kernel_rfl
theorem b26_4 : ∀ c, c < 4 → P26 c := below26 b26_3 p26_3
theorem p26_4 : P26 4 := by
  intro x0 x1 x2 x3 h K
  kernel_rfl
theorem b26_5 : ∀ c, c < 5 → P26 c := below26 b26_4 p26_4
theorem p26_5 : P26 5 := by
  intro x0 x1 x2 x3 h K
  kernel_rfl
theorem b26_6 : ∀ c, c < 6 → P26 c := below26 b26_5 p26_5
theorem p26_6 : P26 6 := by
  intro x0 x1 x2 x3 h K
  kernel_rfl
theorem b26_7 : ∀ c, c < 7 → P26 c := below26 b26_6 p26_6
theorem p26_7 : P26 7 := by
  intro x0 x1 x2 x3 h K
  kernel_rfl
theorem b26_8 : ∀ c, c < 8 → P26 c := below26 b26_7 p26_7
theorem p26_8 : P26 8 := by
  intro x0 x1 x2 x3 h K
  kernel_rfl
theorem b26_9 : ∀ c, c < 9 → P26 c := below26 b26_8 p26_8
theorem p26_9 : P26 9 := by
  intro x0 x1 x2 x3 h K
  kernel_rfl
theorem b26_10 : ∀ c, c < 10 → P26 c := below26 b26_9 p26_9
theorem p26_10 : P26 10 := by
  intro x0 x1 x2 x3 h K
  kernel_rfl
theorem b26_11 : ∀ c, c < 11 → P26 c := below26 b26_10 p26_10
theorem p26_11 : P26 11 := by
  intro x0 x1 x2 x3 h K
  kernel_rfl
theorem b26_12 : ∀ c, c < 12 → P26 c := below26 b26_11 p26_11
theorem p26_12 : P26 12 := by
  intro x0 x1 x2 x3 h K
  kernel_rfl
theorem b26_13 : ∀ c, c < 13 → P26 c := below26 b26_12 p26_12
theorem p26_13 : P26 13 := by
  intro x0 x1 x2 x3 h K
  kernel_rfl
theorem b26_14 : ∀ c, c < 14 → P26 c := below26 b26_13 p26_13
theorem p26_14 : P26 14 := by
  intro x0 x1 x2 x3 h K
  kernel_rfl
theorem b26_15 : ∀ c, c < 15 → P26 c := below26 b26_14 p26_14
theorem p26_15 : P26 15 := by
  intro x0 x1 x2 x3 h K
  kernel_rfl
theorem b26_16 : ∀ c, c < 16 → P26 c := below26 b26_15 p26_15
theorem p26_16 : P26 16 := by
  intro x0 x1 x2 x3 h K
  kernel_rfl
theorem b26_17 : ∀ c, c < 17 → P26 c := below26 b26_16 p26_16
theorem p26_17 : P26 17 := by
  intro x0 x1 x2 x3 h K
  kernel_rfl
theorem b26_18 : ∀ c, c < 18 → P26 c := below26 b26_17 p26_17
theorem p26_18 : P26 18 := by
  intro x0 x1 x2 x3 h K
  kernel_rfl
theorem b26_19 : ∀ c, c < 19 → P26 c := below26 b26_18 p26_18
theorem p26_19 : P26 19 := by
  intro x0 x1 x2 x3 h K
  kernel_rfl
theorem b26_20 : ∀ c, c < 20 → P26 c := below26 b26_19 p26_19
theorem p26_20 : P26 20 := by
  intro x0 x1 x2 x3 h K
  kernel_rfl
theorem b26_21 : ∀ c, c < 21 → P26 c := below26 b26_20 p26_20
theorem p26_21 : P26 21 := by
  intro x0 x1 x2 x3 h K
  kernel_rfl
theorem b26_22 : ∀ c, c < 22 → P26 c := below26 b26_21 p26_21
theorem p26_22 : P26 22 := by
  intro x0 x1 x2 x3 h K
  kernel_rfl
theorem b26_23 : ∀ c, c < 23 → P26 c := below26 b26_22 p26_22
theorem p26_23 : P26 23 := by
  intro x0 x1 x2 x3 h K
  kernel_rfl
theorem b26_24 : ∀ c, c < 24 → P26 c := below26 b26_23 p26_23
theorem p26_24 : P26 24 := by
  intro x0 x1 x2 x3 h K
  kernel_rfl
theorem b26_25 : ∀ c, c < 25 → P26 c := below26 b26_24 p26_24
theorem p26_25 : P26 25 := by
  intro x0 x1 x2 x3 h K
  kernel_rfl
theorem b26_26 : ∀ c, c < 26 → P26 c := below26 b26_25 p26_25
theorem p26_26 : P26 26 := by
  intro x0 x1 x2 x3 h K
  kernel_rfl
theorem b26_27 : ∀ c, c < 27 → P26 c := below26 b26_26 p26_26
theorem p26_27 : P26 27 := by
  intro x0 x1 x2 x3 h K
  kernel_rfl
theorem b26_28 : ∀ c, c < 28 → P26 c := below26 b26_27 p26_27
theorem p26_28 : P26 28 := by
  intro x0 x1 x2 x3 h K
  kernel_rfl
theorem b26_29 : ∀ c, c < 29 → P26 c := below26 b26_28 p26_28
theorem p26_29 : P26 29 := by
  intro x0 x1 x2 x3 h K
  kernel_rfl
theorem b26_30 : ∀ c, c < 30 → P26 c := below26 b26_29 p26_29
theorem p26_30 : P26 30 := by
  intro x0 x1 x2 x3 h K
  kernel_rfl
theorem b26_31 : ∀ c, c < 31 → P26 c := below26 b26_30 p26_30
theorem p26_31 : P26 31 := by
  intro x0 x1 x2 x3 h K
  kernel_rfl
theorem b26_32 : ∀ c, c < 32 → P26 c := below26 b26_31 p26_31
theorem p26_32 : P26 32 := by
  intro x0 x1 x2 x3 h K
  kernel_rfl
theorem b26_33 : ∀ c, c < 33 → P26 c := below26 b26_32 p26_32
theorem p26_33 : P26 33 := by
  intro x0 x1 x2 x3 h K
  kernel_rfl
theorem b26_34 : ∀ c, c < 34 → P26 c := below26 b26_33 p26_33
theorem p26_34 : P26 34 := by
  intro x0 x1 x2 x3 h K
  kernel_rfl
theorem b26_35 : ∀ c, c < 35 → P26 c := below26 b26_34 p26_34
theorem p26_35 : P26 35 := by
  intro x0 x1 x2 x3 h K
  kernel_rfl
theorem b26_36 : ∀ c, c < 36 → P26 c := below26 b26_35 p26_35
theorem p26_36 : P26 36 := by
  intro x0 x1 x2 x3 h K
  kernel_rfl
theorem b26_37 : ∀ c, c < 37 → P26 c := below26 b26_36 p26_36
theorem p26_37 : P26 37 := by
  intro x0 x1 x2 x3 h K
  kernel_rfl
theorem b26_38 : ∀ c, c < 38 → P26 c := below26 b26_37 p26_37
theorem p26_38 : P26 38 := by
  intro x0 x1 x2 x3 h K
  kernel_rfl
theorem b26_39 : ∀ c, c < 39 → P26 c := below26 b26_38 p26_38
theorem p26_39 : P26 39 := by
  intro x0 x1 x2 x3 h K
  kernel_rfl
theorem b26_40 : ∀ c, c < 40 → P26 c := below26 b26_39 p26_39
theorem p26_40 : P26 40 := by
  intro x0 x1 x2 x3 h K
  kernel_rfl
theorem b26_41 : ∀ c, c < 41 → P26 c := below26 b26_40 p26_40
theorem p26_41 : P26 41 := by
  intro x0 x1 x2 x3 h K
  kernel_rfl
theorem b26_42 : ∀ c, c < 42 → P26 c := below26 b26_41 p26_41
theorem p26_42 : P26 42 := by
  intro x0 x1 x2 x3 h K
  kernel_rfl
theorem b26_43 : ∀ c, c < 43 → P26 c := below26 b26_42 p26_42
theorem p26_43 : P26 43 := by
  intro x0 x1 x2 x3 h K
  kernel_rfl
theorem b26_44 : ∀ c, c < 44 → P26 c := below26 b26_43 p26_43
theorem p26_44 : P26 44 := by
  intro x0 x1 x2 x3 h K
  kernel_rfl
theorem b26_45 : ∀ c, c < 45 → P26 c := below26 b26_44 p26_44
theorem p26_45 : P26 45 := by
  intro x0 x1 x2 x3 h K
  kernel_rfl
theorem b26_46 : ∀ c, c < 46 → P26 c := below26 b26_45 p26_45
theorem p26_46 : P26 46 := by
  intro x0 x1 x2 x3 h K
  kernel_rfl
theorem b26_47 : ∀ c, c < 47 → P26 c := below26 b26_46 p26_46
theorem p26_47 : P26 47 := by
  intro x0 x1 x2 x3 h K
  kernel_rfl
theorem b26_48 : ∀ c, c < 48 → P26 c := below26 b26_47 p26_47
theorem p26_48 : P26 48 := by
  intro x0 x1 x2 x3 h K
  kernel_rfl
theorem b26_49 : ∀ c, c < 49 → P26 c := below26 b26_48 p26_48
theorem p26_49 : P26 49 := by
  intro x0 x1 x2 x3 h K
  kernel_rfl
theorem b26_50 : ∀ c, c < 50 → P26 c := below26 b26_49 p26_49
theorem p26_50 : P26 50 := by
  intro x0 x1 x2 x3 h K
  kernel_rfl
theorem b26_51 : ∀ c, c < 51 → P26 c := below26 b26_50 p26_50
theorem p26_51 : P26 51 := by
  intro x0 x1 x2 x3 h K
  kernel_rfl
theorem b26_52 : ∀ c, c < 52 → P26 c := below26 b26_51 p26_51
theorem p26_52 : P26 52 := by
  intro x0 x1 x2 x3 h K
  kernel_rfl
theorem b26_53 : ∀ c, c < 53 → P26 c := below26 b26_52 p26_52
theorem p26_53 : P26 53 := by
  intro x0 x1 x2 x3 h K
  kernel_rfl
theorem b26_54 : ∀ c, c < 54 → P26 c := below26 b26_53 p26_53
theorem p26_54 : P26 54 := by
  intro x0 x1 x2 x3 h K
  kernel_rfl
theorem b26_55 : ∀ c, c < 55 → P26 c := below26 b26_54 p26_54
theorem p26_55 : P26 55 := by
  intro x0 x1 x2 x3 h K
  kernel_rfl
theorem b26_56 : ∀ c, c < 56 → P26 c := below26 b26_55 p26_55
theorem p26_56 : P26 56 := by
  intro x0 x1 x2 x3 h K
  kernel_rfl
theorem b26_57 : ∀ c, c < 57 → P26 c := below26 b26_56 p26_56
theorem p26_57 : P26 57 := by
  intro x0 x1 x2 x3 h K
  kernel_rfl
theorem b26_58 : ∀ c, c < 58 → P26 c := below26 b26_57 p26_57
theorem p26_58 : P26 58 := by
  intro x0 x1 x2 x3 h K
  kernel_rfl
theorem b26_59 : ∀ c, c < 59 → P26 c := below26 b26_58 p26_58
theorem p26_59 : P26 59 := by
  intro x0 x1 x2 x3 h K
  kernel_rfl
theorem b26_60 : ∀ c, c < 60 → P26 c := below26 b26_59 p26_59
theorem p26_60 : P26 60 := by
  intro x0 x1 x2 x3 h K
  kernel_rfl
theorem b26_61 : ∀ c, c < 61 → P26 c := below26 b26_60 p26_60
theorem p26_61 : P26 61 := by
  intro x0 x1 x2 x3 h K
  kernel_rfl
theorem b26_62 : ∀ c, c < 62 → P26 c := below26 b26_61 p26_61
theorem p26_62 : P26 62 := by
  intro x0 x1 x2 x3 h K
  kernel_rfl
theorem b26_63 : ∀ c, c < 63 → P26 c := below26 b26_62 p26_62
theorem p26_63 : P26 63 := by
  intro x0 x1 x2 x3 h K
  kernel_rfl
theorem b26_64 : ∀ c, c < 64 → P26 c := below26 b26_63 p26_63
theorem p26_64 : P26 64 := by
  intro x0 x1 x2 x3 h K
  kernel_rfl
theorem b26_65 : ∀ c, c < 65 → P26 c := below26 b26_64 p26_64
theorem p26_65 : P26 65 := by
  intro x0 x1 x2 x3 h K
  kernel_rfl
theorem b26_66 : ∀ c, c < 66 → P26 c := below26 b26_65 p26_65
theorem p26_66 : P26 66 := by
  intro x0 x1 x2 x3 h K
  kernel_rfl
theorem b26_67 : ∀ c, c < 67 → P26 c := below26 b26_66 p26_66
theorem p26_67 : P26 67 := by
  intro x0 x1 x2 x3 h K
  kernel_rfl
theorem b26_68 : ∀ c, c < 68 → P26 c := below26 b26_67 p26_67
theorem p26_68 : P26 68 := by
  intro x0 x1 x2 x3 h K
  kernel_rfl
theorem b26_69 : ∀ c, c < 69 → P26 c := below26 b26_68 p26_68
theorem p26_69 : P26 69 := by
  intro x0 x1 x2 x3 h K
  kernel_rfl
theorem b26_70 : ∀ c, c < 70 → P26 c := below26 b26_69 p26_69
theorem p26_70 : P26 70 := by
  intro x0 x1 x2 x3 h K
  kernel_rfl
theorem b26_71 : ∀ c, c < 71 → P26 c := below26 b26_70 p26_70
theorem p26_71 : P26 71 := by
  intro x0 x1 x2 x3 h K
  kernel_rfl
theorem b26_72 : ∀ c, c < 72 → P26 c := below26 b26_71 p26_71
theorem p26_72 : P26 72 := by
  intro x0 x1 x2 x3 h K
  kernel_rfl
theorem b26_73 : ∀ c, c < 73 → P26 c := below26 b26_72 p26_72
theorem p26_73 : P26 73 := by
  intro x0 x1 x2 x3 h K
  kernel_rfl
theorem b26_74 : ∀ c, c < 74 → P26 c := below26 b26_73 p26_73
theorem p26_74 : P26 74 := by
  intro x0 x1 x2 x3 h K
  kernel_rfl
theorem b26_75 : ∀ c, c < 75 → P26 c := below26 b26_74 p26_74
theorem p26_75 : P26 75 := by
  intro x0 x1 x2 x3 h K
  kernel_rfl
theorem b26_76 : ∀ c, c < 76 → P26 c := below26 b26_75 p26_75
theorem p26_76 : P26 76 := by
  intro x0 x1 x2 x3 h K
  kernel_rfl
theorem b26_77 : ∀ c, c < 77 → P26 c := below26 b26_76 p26_76
theorem p26_77 : P26 77 := by
  intro x0 x1 x2 x3 h K
  kernel_rfl
theorem b26_78 : ∀ c, c < 78 → P26 c := below26 b26_77 p26_77
theorem p26_78 : P26 78 := by
  intro x0 x1 x2 x3 h K
  kernel_rfl
theorem b26_79 : ∀ c, c < 79 → P26 c := below26 b26_78 p26_78
theorem p26_79 : P26 79 := by
  intro x0 x1 x2 x3 h K
  kernel_rfl
theorem b26_80 : ∀ c, c < 80 → P26 c := below26 b26_79 p26_79
theorem p26_80 : P26 80 := by
  intro x0 x1 x2 x3 h K
  kernel_rfl
theorem b26_81 : ∀ c, c < 81 → P26 c := below26 b26_80 p26_80
theorem p26_81 : P26 81 := by
  intro x0 x1 x2 x3 h K
  kernel_rfl
theorem b26_82 : ∀ c, c < 82 → P26 c := below26 b26_81 p26_81
theorem p26_82 : P26 82 := by
  intro x0 x1 x2 x3 h K
  kernel_rfl
theorem b26_83 : ∀ c, c < 83 → P26 c := below26 b26_82 p26_82
theorem p26_83 : P26 83 := by
  intro x0 x1 x2 x3 h K
  kernel_rfl
theorem b26_84 : ∀ c, c < 84 → P26 c := below26 b26_83 p26_83
theorem p26_84 : P26 84 := by
  intro x0 x1 x2 x3 h K
  kernel_rfl
theorem b26_85 : ∀ c, c < 85 → P26 c := below26 b26_84 p26_84
theorem p26_85 : P26 85 := by
  intro x0 x1 x2 x3 h K
  kernel_rfl
theorem b26_86 : ∀ c, c < 86 → P26 c := below26 b26_85 p26_85
theorem p26_86 : P26 86 := by
  intro x0 x1 x2 x3 h K
  kernel_rfl
theorem b26_87 : ∀ c, c < 87 → P26 c := below26 b26_86 p26_86
theorem p26_87 : P26 87 := by
  intro x0 x1 x2 x3 h K
  kernel_rfl
theorem b26_88 : ∀ c, c < 88 → P26 c := below26 b26_87 p26_87
theorem p26_88 : P26 88 := by
  intro x0 x1 x2 x3 h K
  kernel_rfl
theorem b26_89 : ∀ c, c < 89 → P26 c := below26 b26_88 p26_88
theorem p26_89 : P26 89 := by
  intro x0 x1 x2 x3 h K
  kernel_rfl
theorem b26_90 : ∀ c, c < 90 → P26 c := below26 b26_89 p26_89
theorem p26_90 : P26 90 := by
  intro x0 x1 x2 x3 h K
  kernel_rfl
theorem b26_91 : ∀ c, c < 91 → P26 c := below26 b26_90 p26_90
theorem p26_91 : P26 91 := by
  intro x0 x1 x2 x3 h K
  kernel_rfl
theorem b26_92 : ∀ c, c < 92 → P26 c := below26 b26_91 p26_91
theorem p26_92 : P26 92 := by
  intro x0 x1 x2 x3 h K
  kernel_rfl
theorem b26_93 : ∀ c, c < 93 → P26 c := below26 b26_92 p26_92
theorem p26_93 : P26 93 := by
  intro x0 x1 x2 x3 h K
  kernel_rfl
theorem b26_94 : ∀ c, c < 94 → P26 c := below26 b26_93 p26_93
theorem p26_94 : P26 94 := by
  intro x0 x1 x2 x3 h K
  kernel_rfl
theorem b26_95 : ∀ c, c < 95 → P26 c := below26 b26_94 p26_94
theorem p26_95 : P26 95 := by
  intro x0 x1 x2 x3 h K
  kernel_rfl
theorem b26_96 : ∀ c, c < 96 → P26 c := below26 b26_95 p26_95
theorem p26_96 : P26 96 := by
  intro x0 x1 x2 x3 h K
  kernel_rfl
theorem b26_97 : ∀ c, c < 97 → P26 c := below26 b26_96 p26_96
theorem p26_97 : P26 97 := by
  intro x0 x1 x2 x3 h K
  kernel_rfl
theorem b26_98 : ∀ c, c < 98 → P26 c := below26 b26_97 p26_97
theorem p26_98 : P26 98 := by
  intro x0 x1 x2 x3 h K
  kernel_rfl
theorem b26_99 : ∀ c, c < 99 → P26 c := below26 b26_98 p26_98
theorem p26_99 : P26 99 := by
  intro x0 x1 x2 x3 h K
  kernel_rfl
theorem b26_100 : ∀ c, c < 100 → P26 c := below26 b26_99 p26_99
theorem p26_100 : P26 100 := by
  intro x0 x1 x2 x3 h K
  kernel_rfl
theorem b26_101 : ∀ c, c < 101 → P26 c := below26 b26_100 p26_100
theorem p26_101 : P26 101 := by
  intro x0 x1 x2 x3 h K
  kernel_rfl
theorem b26_102 : ∀ c, c < 102 → P26 c := below26 b26_101 p26_101
theorem p26_102 : P26 102 := by
  intro x0 x1 x2 x3 h K
  kernel_rfl
theorem b26_103 : ∀ c, c < 103 → P26 c := below26 b26_102 p26_102
theorem p26_103 : P26 103 := by
  intro x0 x1 x2 x3 h K
  kernel_rfl
theorem b26_104 : ∀ c, c < 104 → P26 c := below26 b26_103 p26_103
theorem p26_104 : P26 104 := by
  intro x0 x1 x2 x3 h K
  kernel_rfl
theorem b26_105 : ∀ c, c < 105 → P26 c := below26 b26_104 p26_104
theorem p26_105 : P26 105 := by
  intro x0 x1 x2 x3 h K
  kernel_rfl
theorem b26_106 : ∀ c, c < 106 → P26 c := below26 b26_105 p26_105
theorem p26_106 : P26 106 := by
  intro x0 x1 x2 x3 h K
  kernel_rfl
theorem b26_107 : ∀ c, c < 107 → P26 c := below26 b26_106 p26_106
theorem p26_107 : P26 107 := by
  intro x0 x1 x2 x3 h K
  kernel_rfl
theorem b26_108 : ∀ c, c < 108 → P26 c := below26 b26_107 p26_107
theorem p26_108 : P26 108 := by
  intro x0 x1 x2 x3 h K
  kernel_rfl
theorem b26_109 : ∀ c, c < 109 → P26 c := below26 b26_108 p26_108
theorem p26_109 : P26 109 := by
  intro x0 x1 x2 x3 h K
  kernel_rfl
theorem b26_110 : ∀ c, c < 110 → P26 c := below26 b26_109 p26_109
theorem p26_110 : P26 110 := by
  intro x0 x1 x2 x3 h K
  kernel_rfl
theorem b26_111 : ∀ c, c < 111 → P26 c := below26 b26_110 p26_110
theorem p26_111 : P26 111 := by
  intro x0 x1 x2 x3 h K
  kernel_rfl
theorem b26_112 : ∀ c, c < 112 → P26 c := below26 b26_111 p26_111
theorem p26_112 : P26 112 := by
  intro x0 x1 x2 x3 h K
  kernel_rfl
theorem b26_113 : ∀ c, c < 113 → P26 c := below26 b26_112 p26_112
theorem p26_113 : P26 113 := by
  intro x0 x1 x2 x3 h K
  kernel_rfl
theorem b26_114 : ∀ c, c < 114 → P26 c := below26 b26_113 p26_113
theorem p26_114 : P26 114 := by
  intro x0 x1 x2 x3 h K
  kernel_rfl
theorem b26_115 : ∀ c, c < 115 → P26 c := below26 b26_114 p26_114
theorem p26_115 : P26 115 := by
  intro x0 x1 x2 x3 h K
  kernel_rfl
theorem b26_116 : ∀ c, c < 116 → P26 c := below26 b26_115 p26_115
theorem p26_116 : P26 116 := by
  intro x0 x1 x2 x3 h K
  kernel_rfl
theorem b26_117 : ∀ c, c < 117 → P26 c := below26 b26_116 p26_116
theorem p26_117 : P26 117 := by
  intro x0 x1 x2 x3 h K
  kernel_rfl
theorem b26_118 : ∀ c, c < 118 → P26 c := below26 b26_117 p26_117
theorem p26_118 : P26 118 := by
  intro x0 x1 x2 x3 h K
  kernel_rfl
theorem b26_119 : ∀ c, c < 119 → P26 c := below26 b26_118 p26_118
theorem p26_119 : P26 119 := by
  intro x0 x1 x2 x3 h K
  kernel_rfl
theorem b26_120 : ∀ c, c < 120 → P26 c := below26 b26_119 p26_119
theorem p26_120 : P26 120 := by
  intro x0 x1 x2 x3 h K
  kernel_rfl
theorem b26_121 : ∀ c, c < 121 → P26 c := below26 b26_120 p26_120
theorem p26_121 : P26 121 := by
  intro x0 x1 x2 x3 h K
  kernel_rfl
theorem b26_122 : ∀ c, c < 122 → P26 c := below26 b26_121 p26_121
theorem p26_122 : P26 122 := by
  intro x0 x1 x2 x3 h K
  kernel_rfl
theorem b26_123 : ∀ c, c < 123 → P26 c := below26 b26_122 p26_122
theorem p26_123 : P26 123 := by
  intro x0 x1 x2 x3 h K
  kernel_rfl
theorem b26_124 : ∀ c, c < 124 → P26 c := below26 b26_123 p26_123
theorem p26_124 : P26 124 := by
  intro x0 x1 x2 x3 h K
  kernel_rfl
theorem b26_125 : ∀ c, c < 125 → P26 c := below26 b26_124 p26_124
theorem p26_125 : P26 125 := by
  intro x0 x1 x2 x3 h K
  kernel_rfl
theorem b26_126 : ∀ c, c < 126 → P26 c := below26 b26_125 p26_125
theorem p26_126 : P26 126 := by
  intro x0 x1 x2 x3 h K
  kernel_rfl
theorem b26_127 : ∀ c, c < 127 → P26 c := below26 b26_126 p26_126
theorem p26_127 : P26 127 := by
  intro x0 x1 x2 x3 h K
  kernel_rfl
theorem b26_128 : ∀ c, c < 128 → P26 c := below26 b26_127 p26_127
theorem p26_128 : P26 128 := by
  intro x0 x1 x2 x3 h K
  kernel_rfl
theorem b26_129 : ∀ c, c < 129 → P26 c := below26 b26_128 p26_128
theorem p26_129 : P26 129 := by
  intro x0 x1 x2 x3 h K
  kernel_rfl
theorem b26_130 : ∀ c, c < 130 → P26 c := below26 b26_129 p26_129
theorem p26_130 : P26 130 := by
  intro x0 x1 x2 x3 h K
  kernel_rfl
theorem b26_131 : ∀ c, c < 131 → P26 c := below26 b26_130 p26_130
theorem p26_131 : P26 131 := by
  intro x0 x1 x2 x3 h K
  kernel_rfl
theorem b26_132 : ∀ c, c < 132 → P26 c := below26 b26_131 p26_131
theorem p26_132 : P26 132 := by
  intro x0 x1 x2 x3 h K
  kernel_rfl
theorem b26_133 : ∀ c, c < 133 → P26 c := below26 b26_132 p26_132
theorem p26_133 : P26 133 := by
  intro x0 x1 x2 x3 h K
  kernel_rfl
theorem b26_134 : ∀ c, c < 134 → P26 c := below26 b26_133 p26_133
theorem p26_134 : P26 134 := by
  intro x0 x1 x2 x3 h K
  kernel_rfl
theorem b26_135 : ∀ c, c < 135 → P26 c := below26 b26_134 p26_134
theorem p26_135 : P26 135 := by
  intro x0 x1 x2 x3 h K
  kernel_rfl
theorem b26_136 : ∀ c, c < 136 → P26 c := below26 b26_135 p26_135
theorem p26_136 : P26 136 := by
  intro x0 x1 x2 x3 h K
  kernel_rfl
theorem b26_137 : ∀ c, c < 137 → P26 c := below26 b26_136 p26_136
theorem p26_137 : P26 137 := by
  intro x0 x1 x2 x3 h K
  kernel_rfl
theorem b26_138 : ∀ c, c < 138 → P26 c := below26 b26_137 p26_137
theorem p26_138 : P26 138 := by
  intro x0 x1 x2 x3 h K
  kernel_rfl
theorem b26_139 : ∀ c, c < 139 → P26 c := below26 b26_138 p26_138
theorem p26_139 : P26 139 := by
  intro x0 x1 x2 x3 h K
  kernel_rfl
theorem b26_140 : ∀ c, c < 140 → P26 c := below26 b26_139 p26_139
theorem p26_140 : P26 140 := by
  intro x0 x1 x2 x3 h K
  kernel_rfl
theorem b26_141 : ∀ c, c < 141 → P26 c := below26 b26_140 p26_140
theorem p26_141 : P26 141 := by
  intro x0 x1 x2 x3 h K
  kernel_rfl
theorem b26_142 : ∀ c, c < 142 → P26 c := below26 b26_141 p26_141
theorem p26_142 : P26 142 := by
  intro x0 x1 x2 x3 h K
  kernel_rfl
theorem b26_143 : ∀ c, c < 143 → P26 c := below26 b26_142 p26_142
theorem p26_143 : P26 143 := by
  intro x0 x1 x2 x3 h K
  kernel_rfl
theorem b26_144 : ∀ c, c < 144 → P26 c := below26 b26_143 p26_143
theorem p26_144 : P26 144 := by
  intro x0 x1 x2 x3 h K
  kernel_rfl
theorem b26_145 : ∀ c, c < 145 → P26 c := below26 b26_144 p26_144
theorem p26_145 : P26 145 := by
  intro x0 x1 x2 x3 h K
  kernel_rfl
theorem b26_146 : ∀ c, c < 146 → P26 c := below26 b26_145 p26_145
theorem p26_146 : P26 146 := by
  intro x0 x1 x2 x3 h K
  kernel_rfl
theorem b26_147 : ∀ c, c < 147 → P26 c := below26 b26_146 p26_146
theorem p26_147 : P26 147 := by
  intro x0 x1 x2 x3 h K
  kernel_rfl
theorem b26_148 : ∀ c, c < 148 → P26 c := below26 b26_147 p26_147
theorem p26_148 : P26 148 := by
  intro x0 x1 x2 x3 h K
  kernel_rfl
theorem b26_149 : ∀ c, c < 149 → P26 c := below26 b26_148 p26_148
theorem p26_149 : P26 149 := by
  intro x0 x1 x2 x3 h K
  kernel_rfl
theorem b26_150 : ∀ c, c < 150 → P26 c := below26 b26_149 p26_149
theorem p26_150 : P26 150 := by
  intro x0 x1 x2 x3 h K
  kernel_rfl
theorem b26_151 : ∀ c, c < 151 → P26 c := below26 b26_150 p26_150
theorem p26_151 : P26 151 := by
  intro x0 x1 x2 x3 h K
  kernel_rfl
theorem b26_152 : ∀ c, c < 152 → P26 c := below26 b26_151 p26_151
theorem p26_152 : P26 152 := by
  intro x0 x1 x2 x3 h K
  kernel_rfl
theorem b26_153 : ∀ c, c < 153 → P26 c := below26 b26_152 p26_152
theorem p26_153 : P26 153 := by
  intro x0 x1 x2 x3 h K
  kernel_rfl
theorem b26_154 : ∀ c, c < 154 → P26 c := below26 b26_153 p26_153
theorem p26_154 : P26 154 := by
  intro x0 x1 x2 x3 h K
  kernel_rfl
theorem b26_155 : ∀ c, c < 155 → P26 c := below26 b26_154 p26_154
theorem p26_155 : P26 155 := by
  intro x0 x1 x2 x3 h K
  kernel_rfl
theorem b26_156 : ∀ c, c < 156 → P26 c := below26 b26_155 p26_155
theorem p26_156 : P26 156 := by
  intro x0 x1 x2 x3 h K
  kernel_rfl
theorem b26_157 : ∀ c, c < 157 → P26 c := below26 b26_156 p26_156
theorem p26_157 : P26 157 := by
  intro x0 x1 x2 x3 h K
  kernel_rfl
theorem b26_158 : ∀ c, c < 158 → P26 c := below26 b26_157 p26_157
theorem p26_158 : P26 158 := by
  intro x0 x1 x2 x3 h K
  kernel_rfl
theorem b26_159 : ∀ c, c < 159 → P26 c := below26 b26_158 p26_158
theorem p26_159 : P26 159 := by
  intro x0 x1 x2 x3 h K
  kernel_rfl
theorem b26_160 : ∀ c, c < 160 → P26 c := below26 b26_159 p26_159
theorem p26_160 : P26 160 := by
  intro x0 x1 x2 x3 h K
  kernel_rfl
theorem b26_161 : ∀ c, c < 161 → P26 c := below26 b26_160 p26_160
theorem p26_161 : P26 161 := by
  intro x0 x1 x2 x3 h K
  kernel_rfl
theorem b26_162 : ∀ c, c < 162 → P26 c := below26 b26_161 p26_161
theorem p26_162 : P26 162 := by
  intro x0 x1 x2 x3 h K
  kernel_rfl
theorem b26_163 : ∀ c, c < 163 → P26 c := below26 b26_162 p26_162
theorem p26_163 : P26 163 := by
  intro x0 x1 x2 x3 h K
  kernel_rfl
theorem b26_164 : ∀ c, c < 164 → P26 c := below26 b26_163 p26_163
theorem p26_164 : P26 164 := by
  intro x0 x1 x2 x3 h K
  kernel_rfl
theorem b26_165 : ∀ c, c < 165 → P26 c := below26 b26_164 p26_164
theorem p26_165 : P26 165 := by
  intro x0 x1 x2 x3 h K
  kernel_rfl
theorem b26_166 : ∀ c, c < 166 → P26 c := below26 b26_165 p26_165
theorem p26_166 : P26 166 := by
  intro x0 x1 x2 x3 h K
  kernel_rfl
theorem b26_167 : ∀ c, c < 167 → P26 c := below26 b26_166 p26_166
theorem p26_167 : P26 167 := by
  intro x0 x1 x2 x3 h K
  kernel_rfl
theorem b26_168 : ∀ c, c < 168 → P26 c := below26 b26_167 p26_167
theorem p26_168 : P26 168 := by
  intro x0 x1 x2 x3 h K
  kernel_rfl
theorem b26_169 : ∀ c, c < 169 → P26 c := below26 b26_168 p26_168
theorem p26_169 : P26 169 := by
  intro x0 x1 x2 x3 h K
  kernel_rfl
theorem b26_170 : ∀ c, c < 170 → P26 c := below26 b26_169 p26_169
theorem p26_170 : P26 170 := by
  intro x0 x1 x2 x3 h K
  kernel_rfl
theorem b26_171 : ∀ c, c < 171 → P26 c := below26 b26_170 p26_170
theorem p26_171 : P26 171 := by
  intro x0 x1 x2 x3 h K
  kernel_rfl
theorem b26_172 : ∀ c, c < 172 → P26 c := below26 b26_171 p26_171
theorem p26_172 : P26 172 := by
  intro x0 x1 x2 x3 h K
  kernel_rfl
theorem b26_173 : ∀ c, c < 173 → P26 c := below26 b26_172 p26_172
theorem p26_173 : P26 173 := by
  intro x0 x1 x2 x3 h K
  kernel_rfl
theorem b26_174 : ∀ c, c < 174 → P26 c := below26 b26_173 p26_173
theorem p26_174 : P26 174 := by
  intro x0 x1 x2 x3 h K
  kernel_rfl
theorem b26_175 : ∀ c, c < 175 → P26 c := below26 b26_174 p26_174
theorem p26_175 : P26 175 := by
  intro x0 x1 x2 x3 h K
  kernel_rfl
theorem b26_176 : ∀ c, c < 176 → P26 c := below26 b26_175 p26_175
theorem p26_176 : P26 176 := by
  intro x0 x1 x2 x3 h K
  kernel_rfl
theorem b26_177 : ∀ c, c < 177 → P26 c := below26 b26_176 p26_176
theorem p26_177 : P26 177 := by
  intro x0 x1 x2 x3 h K
  kernel_rfl
theorem b26_178 : ∀ c, c < 178 → P26 c := below26 b26_177 p26_177
theorem p26_178 : P26 178 := by
  intro x0 x1 x2 x3 h K
  kernel_rfl
theorem b26_179 : ∀ c, c < 179 → P26 c := below26 b26_178 p26_178
theorem p26_179 : P26 179 := by
  intro x0 x1 x2 x3 h K
  kernel_rfl
theorem b26_180 : ∀ c, c < 180 → P26 c := below26 b26_179 p26_179
theorem p26_180 : P26 180 := by
  intro x0 x1 x2 x3 h K
  kernel_rfl
theorem b26_181 : ∀ c, c < 181 → P26 c := below26 b26_180 p26_180
theorem p26_181 : P26 181 := by
  intro x0 x1 x2 x3 h K
  kernel_rfl
theorem b26_182 : ∀ c, c < 182 → P26 c := below26 b26_181 p26_181
theorem p26_182 : P26 182 := by
  intro x0 x1 x2 x3 h K
  kernel_rfl
theorem b26_183 : ∀ c, c < 183 → P26 c := below26 b26_182 p26_182
theorem p26_183 : P26 183 := by
  intro x0 x1 x2 x3 h K
  kernel_rfl
theorem b26_184 : ∀ c, c < 184 → P26 c := below26 b26_183 p26_183
theorem p26_184 : P26 184 := by
  intro x0 x1 x2 x3 h K
  kernel_rfl
theorem b26_185 : ∀ c, c < 185 → P26 c := below26 b26_184 p26_184
theorem p26_185 : P26 185 := by
  intro x0 x1 x2 x3 h K
  kernel_rfl
theorem b26_186 : ∀ c, c < 186 → P26 c := below26 b26_185 p26_185
theorem p26_186 : P26 186 := by
  intro x0 x1 x2 x3 h K
  kernel_rfl
theorem b26_187 : ∀ c, c < 187 → P26 c := below26 b26_186 p26_186
theorem p26_187 : P26 187 := by
  intro x0 x1 x2 x3 h K
  kernel_rfl
theorem b26_188 : ∀ c, c < 188 → P26 c := below26 b26_187 p26_187
theorem p26_188 : P26 188 := by
  intro x0 x1 x2 x3 h K
  kernel_rfl
theorem b26_189 : ∀ c, c < 189 → P26 c := below26 b26_188 p26_188
theorem p26_189 : P26 189 := by
  intro x0 x1 x2 x3 h K
  kernel_rfl
theorem b26_190 : ∀ c, c < 190 → P26 c := below26 b26_189 p26_189
theorem p26_190 : P26 190 := by
  intro x0 x1 x2 x3 h K
  kernel_rfl
theorem b26_191 : ∀ c, c < 191 → P26 c := below26 b26_190 p26_190
theorem p26_191 : P26 191 := by
  intro x0 x1 x2 x3 h K
  kernel_rfl
theorem b26_192 : ∀ c, c < 192 → P26 c := below26 b26_191 p26_191
theorem p26_192 : P26 192 := by
  intro x0 x1 x2 x3 h K
  kernel_rfl
theorem b26_193 : ∀ c, c < 193 → P26 c := below26 b26_192 p26_192
theorem p26_193 : P26 193 := by
  intro x0 x1 x2 x3 h K
  kernel_rfl
theorem b26_194 : ∀ c, c < 194 → P26 c := below26 b26_193 p26_193
theorem p26_194 : P26 194 := by
  intro x0 x1 x2 x3 h K
  kernel_rfl
theorem b26_195 : ∀ c, c < 195 → P26 c := below26 b26_194 p26_194
theorem p26_195 : P26 195 := by
  intro x0 x1 x2 x3 h K
  kernel_rfl
theorem b26_196 : ∀ c, c < 196 → P26 c := below26 b26_195 p26_195
theorem p26_196 : P26 196 := by
  intro x0 x1 x2 x3 h K
  kernel_rfl
theorem b26_197 : ∀ c, c < 197 → P26 c := below26 b26_196 p26_196
theorem p26_197 : P26 197 := by
  intro x0 x1 x2 x3 h K
  kernel_rfl
theorem b26_198 : ∀ c, c < 198 → P26 c := below26 b26_197 p26_197
theorem p26_198 : P26 198 := by
  intro x0 x1 x2 x3 h K
  kernel_rfl
theorem b26_199 : ∀ c, c < 199 → P26 c := below26 b26_198 p26_198
theorem p26_199 : P26 199 := by
  intro x0 x1 x2 x3 h K
  kernel_rfl
theorem b26_200 : ∀ c, c < 200 → P26 c := below26 b26_199 p26_199
theorem p26_200 : P26 200 := by
  intro x0 x1 x2 x3 h K
  kernel_rfl
theorem b26_201 : ∀ c, c < 201 → P26 c := below26 b26_200 p26_200
theorem p26_201 : P26 201 := by
  intro x0 x1 x2 x3 h K
  kernel_rfl
theorem b26_202 : ∀ c, c < 202 → P26 c := below26 b26_201 p26_201
theorem p26_202 : P26 202 := by
  intro x0 x1 x2 x3 h K
  kernel_rfl
theorem b26_203 : ∀ c, c < 203 → P26 c := below26 b26_202 p26_202
theorem p26_203 : P26 203 := by
  intro x0 x1 x2 x3 h K
  kernel_rfl
theorem b26_204 : ∀ c, c < 204 → P26 c := below26 b26_203 p26_203
theorem p26_204 : P26 204 := by
  intro x0 x1 x2 x3 h K
  kernel_rfl
theorem b26_205 : ∀ c, c < 205 → P26 c := below26 b26_204 p26_204
theorem p26_205 : P26 205 := by
  intro x0 x1 x2 x3 h K
  kernel_rfl
theorem b26_206 : ∀ c, c < 206 → P26 c := below26 b26_205 p26_205
theorem p26_206 : P26 206 := by
  intro x0 x1 x2 x3 h K
  kernel_rfl
theorem b26_207 : ∀ c, c < 207 → P26 c := below26 b26_206 p26_206
theorem p26_207 : P26 207 := by
  intro x0 x1 x2 x3 h K
  kernel_rfl
theorem b26_208 : ∀ c, c < 208 → P26 c := below26 b26_207 p26_207
theorem p26_208 : P26 208 := by
  intro x0 x1 x2 x3 h K
  kernel_rfl
theorem b26_209 : ∀ c, c < 209 → P26 c := below26 b26_208 p26_208
theorem p26_209 : P26 209 := by
  intro x0 x1 x2 x3 h K
  kernel_rfl
theorem b26_210 : ∀ c, c < 210 → P26 c := below26 b26_209 p26_209
theorem p26_210 : P26 210 := by
  intro x0 x1 x2 x3 h K
  kernel_rfl
theorem b26_211 : ∀ c, c < 211 → P26 c := below26 b26_210 p26_210
theorem p26_211 : P26 211 := by
  intro x0 x1 x2 x3 h K
  kernel_rfl
theorem b26_212 : ∀ c, c < 212 → P26 c := below26 b26_211 p26_211
theorem p26_212 : P26 212 := by
  intro x0 x1 x2 x3 h K
  kernel_rfl
theorem b26_213 : ∀ c, c < 213 → P26 c := below26 b26_212 p26_212
theorem p26_213 : P26 213 := by
  intro x0 x1 x2 x3 h K
  kernel_rfl
theorem b26_214 : ∀ c, c < 214 → P26 c := below26 b26_213 p26_213
theorem p26_214 : P26 214 := by
  intro x0 x1 x2 x3 h K
  kernel_rfl
theorem b26_215 : ∀ c, c < 215 → P26 c := below26 b26_214 p26_214
theorem p26_215 : P26 215 := by
  intro x0 x1 x2 x3 h K
  kernel_rfl
theorem b26_216 : ∀ c, c < 216 → P26 c := below26 b26_215 p26_215
theorem p26_216 : P26 216 := by
  intro x0 x1 x2 x3 h K
  kernel_rfl
theorem b26_217 : ∀ c, c < 217 → P26 c := below26 b26_216 p26_216
theorem p26_217 : P26 217 := by
  intro x0 x1 x2 x3 h K
  kernel_rfl
theorem b26_218 : ∀ c, c < 218 → P26 c := below26 b26_217 p26_217
theorem p26_218 : P26 218 := by
  intro x0 x1 x2 x3 h K
  kernel_rfl
theorem b26_219 : ∀ c, c < 219 → P26 c := below26 b26_218 p26_218
theorem p26_219 : P26 219 := by
  intro x0 x1 x2 x3 h K
  kernel_rfl
theorem b26_220 : ∀ c, c < 220 → P26 c := below26 b26_219 p26_219
theorem p26_220 : P26 220 := by
  intro x0 x1 x2 x3 h K
  kernel_rfl
theorem b26_221 : ∀ c, c < 221 → P26 c := below26 b26_220 p26_220
theorem p26_221 : P26 221 := by
  intro x0 x1 x2 x3 h K
  kernel_rfl
theorem b26_222 : ∀ c, c < 222 → P26 c := below26 b26_221 p26_221
theorem p26_222 : P26 222 := by
  intro x0 x1 x2 x3 h K
  kernel_rfl
theorem b26_223 : ∀ c, c < 223 → P26 c := below26 b26_222 p26_222
theorem p26_223 : P26 223 := by
  intro x0 x1 x2 x3 h K
  kernel_rfl
theorem b26_224 : ∀ c, c < 224 → P26 c := below26 b26_223 p26_223
theorem p26_224 : P26 224 := by
  intro x0 x1 x2 x3 h K
  kernel_rfl
theorem b26_225 : ∀ c, c < 225 → P26 c := below26 b26_224 p26_224
theorem p26_225 : P26 225 := by
  intro x0 x1 x2 x3 h K
  kernel_rfl
theorem b26_226 : ∀ c, c < 226 → P26 c := below26 b26_225 p26_225
theorem p26_226 : P26 226 := by
  intro x0 x1 x2 x3 h K
  kernel_rfl
theorem b26_227 : ∀ c, c < 227 → P26 c := below26 b26_226 p26_226
theorem p26_227 : P26 227 := by
  intro x0 x1 x2 x3 h K
  kernel_rfl
theorem b26_228 : ∀ c, c < 228 → P26 c := below26 b26_227 p26_227
theorem p26_228 : P26 228 := by
  intro x0 x1 x2 x3 h K
  kernel_rfl
theorem b26_229 : ∀ c, c < 229 → P26 c := below26 b26_228 p26_228
theorem p26_229 : P26 229 := by
  intro x0 x1 x2 x3 h K
  kernel_rfl
theorem b26_230 : ∀ c, c < 230 → P26 c := below26 b26_229 p26_229
theorem p26_230 : P26 230 := by
  intro x0 x1 x2 x3 h K
  kernel_rfl
theorem b26_231 : ∀ c, c < 231 → P26 c := below26 b26_230 p26_230
theorem p26_231 : P26 231 := by
  intro x0 x1 x2 x3 h K
  kernel_rfl
theorem b26_232 : ∀ c, c < 232 → P26 c := below26 b26_231 p26_231
theorem p26_232 : P26 232 := by
  intro x0 x1 x2 x3 h K
  kernel_rfl
theorem b26_233 : ∀ c, c < 233 → P26 c := below26 b26_232 p26_232
theorem p26_233 : P26 233 := by
  intro x0 x1 x2 x3 h K
  kernel_rfl
theorem b26_234 : ∀ c, c < 234 → P26 c := below26 b26_233 p26_233
theorem p26_234 : P26 234 := by
  intro x0 x1 x2 x3 h K
  kernel_rfl
theorem b26_235 : ∀ c, c < 235 → P26 c := below26 b26_234 p26_234
theorem p26_235 : P26 235 := by
  intro x0 x1 x2 x3 h K
  kernel_rfl
theorem b26_236 : ∀ c, c < 236 → P26 c := below26 b26_235 p26_235
theorem p26_236 : P26 236 := by
  intro x0 x1 x2 x3 h K
  kernel_rfl
theorem b26_237 : ∀ c, c < 237 → P26 c := below26 b26_236 p26_236
theorem p26_237 : P26 237 := by
  intro x0 x1 x2 x3 h K
  kernel_rfl
theorem b26_238 : ∀ c, c < 238 → P26 c := below26 b26_237 p26_237
theorem p26_238 : P26 238 := by
  intro x0 x1 x2 x3 h K
  kernel_rfl
theorem b26_239 : ∀ c, c < 239 → P26 c := below26 b26_238 p26_238
theorem p26_239 : P26 239 := by
  intro x0 x1 x2 x3 h K
  kernel_rfl
theorem b26_240 : ∀ c, c < 240 → P26 c := below26 b26_239 p26_239
theorem p26_240 : P26 240 := by
  intro x0 x1 x2 x3 h K
  kernel_rfl
theorem b26_241 : ∀ c, c < 241 → P26 c := below26 b26_240 p26_240
theorem p26_241 : P26 241 := by
  intro x0 x1 x2 x3 h K
  kernel_rfl
theorem b26_242 : ∀ c, c < 242 → P26 c := below26 b26_241 p26_241
theorem p26_242 : P26 242 := by
  intro x0 x1 x2 x3 h K
  kernel_rfl
theorem b26_243 : ∀ c, c < 243 → P26 c := below26 b26_242 p26_242
theorem p26_243 : P26 243 := by
  intro x0 x1 x2 x3 h K
  kernel_rfl
theorem b26_244 : ∀ c, c < 244 → P26 c := below26 b26_243 p26_243
theorem p26_244 : P26 244 := by
  intro x0 x1 x2 x3 h K
  kernel_rfl
theorem b26_245 : ∀ c, c < 245 → P26 c := below26 b26_244 p26_244
theorem p26_245 : P26 245 := by
  intro x0 x1 x2 x3 h K
  kernel_rfl
theorem b26_246 : ∀ c, c < 246 → P26 c := below26 b26_245 p26_245
theorem p26_246 : P26 246 := by
  intro x0 x1 x2 x3 h K
  kernel_rfl
theorem b26_247 : ∀ c, c < 247 → P26 c := below26 b26_246 p26_246
theorem p26_247 : P26 247 := by
  intro x0 x1 x2 x3 h K
  kernel_rfl
theorem b26_248 : ∀ c, c < 248 → P26 c := below26 b26_247 p26_247
theorem p26_248 : P26 248 := by
  intro x0 x1 x2 x3 h K
  kernel_rfl
theorem b26_249 : ∀ c, c < 249 → P26 c := below26 b26_248 p26_248
theorem p26_249 : P26 249 := by
  intro x0 x1 x2 x3 h K
  kernel_rfl
theorem b26_250 : ∀ c, c < 250 → P26 c := below26 b26_249 p26_249
theorem p26_250 : P26 250 := by
  intro x0 x1 x2 x3 h K
  kernel_rfl
theorem b26_251 : ∀ c, c < 251 → P26 c := below26 b26_250 p26_250
theorem p26_251 : P26 251 := by
  intro x0 x1 x2 x3 h K
  kernel_rfl
theorem b26_252 : ∀ c, c < 252 → P26 c := below26 b26_251 p26_251
theorem p26_252 : P26 252 := by
  intro x0 x1 x2 x3 h K
  kernel_rfl
theorem b26_253 : ∀ c, c < 253 → P26 c := below26 b26_252 p26_252
theorem p26_253 : P26 253 := by
  intro x0 x1 x2 x3 h K
  kernel_rfl
theorem b26_254 : ∀ c, c < 254 → P26 c := below26 b26_253 p26_253
theorem p26_254 : P26 254 := by
  intro x0 x1 x2 x3 h K
  kernel_rfl
theorem b26_255 : ∀ c, c < 255 → P26 c := below26 b26_254 p26_254
theorem p26_255 : P26 255 := by
  intro x0 x1 x2 x3 h K
  kernel_rfl
theorem b26_256 : ∀ c, c < 256 → P26 c := below26 b26_255 p26_255
theorem all26 : ∀ c, c < 256 → P26 c := b26_256
end Go.Y
