/- Automata: Has, having. -/
import Derived.Test.YtlnpmefmmiacaaaGreatDoorNT2
import Derived.Test.YtlnpmefmmiacaaaGreatDoorGBase
import Derived.Test.YtlnpmefmmiacaaaGreatDoorGN26
import Derived.Test.YtlnpmefmmiacaaaGreatDoorGCool
namespace Go.Y
open Go.Proofs
set_option maxRecDepth 100000
set_option maxHeartbeats 1000000

theorem tree_con {Y : YP} (hY : YOK Y) {f : FuncId} {fn : Func} (hf : Y.P.funcs[f]? = some fn) (hb : fn.body.isSome = true) {args : List V} (hc : coldAll args = true) {P : V → Prop} {slots : List Nat} {env' : List V} {T : (Out → Nat → List V → Heap → Prop) → Prop}
    (tree : ∀ K, codeP Y (Y.loc f) 100 (flat (bodyOf fn)) ⟨env', [], .empty⟩ (VQ slots K) = T K) (he : args ++ List.replicate (fn.ntmps - args.length) .undef = env')
    (hfin : T (Fin Y fn slots (fun v h => ∃ r, Frz h v r ∧ P r))) : PCon Y f args P := by
  refine pcon_of hY hf hb hc ?_
  rw [he]
  refine end_rule hY (loc := Y.loc f) 100 slots ?_
  rw [tree]
  exact hfin

/-! ### bits -/
theorem byteHi {c : Nat} : (c : Int).fdiv ((2 : Int) ^ min (Int.toNat (6 : Int)) IntKind.u8.bits) = ((c / 64 : Nat) : Int) := by
  have e : (2 : Int) ^ min (Int.toNat (6 : Int)) IntKind.u8.bits = 64 := by decide
  rw [e, Int.fdiv_eq_ediv_of_nonneg _ (by decide)]
  omega
theorem byteLo {c : Nat} (hc : c < 256) : IntKind.u8.wrap (((BitVec.ofInt IntKind.u8.bits (c : Int) &&& BitVec.ofInt IntKind.u8.bits (63 : Int)).toNat : Nat) : Int) = ((c % 64 : Nat) : Int) := by
  have h : ∀ c : _root_.Fin 256, IntKind.u8.wrap (((BitVec.ofInt IntKind.u8.bits (c.val : Int) &&& BitVec.ofInt IntKind.u8.bits (63 : Int)).toNat : Nat) : Int) = ((c.val % 64 : Nat) : Int) := by decide +kernel
  exact h ⟨c, hc⟩
theorem bitLo (y : Int) : IntKind.u64.wrap (((BitVec.ofInt IntKind.u64.bits y &&& BitVec.ofInt IntKind.u64.bits (1 : Int)).toNat : Nat) : Int) = y % 2 := by
  have e : IntKind.u64.bits = 64 := rfl
  have e1 : (BitVec.ofInt IntKind.u64.bits y &&& BitVec.ofInt IntKind.u64.bits (1 : Int)).toNat = (y % 18446744073709551616).toNat % 2 := by
    rw [e, BitVec.toNat_and, BitVec.toNat_ofInt, BitVec.toNat_ofInt]
    have : ((1 : Int) % ((2 ^ 64 : Nat) : Int)).toNat = 1 := by decide
    rw [this, Nat.and_one_is_mod]
    rfl
  rw [e1]
  have e2 : (2 : Int) ^ IntKind.u64.bits = 18446744073709551616 := by decide
  unfold IntKind.wrap
  simp only [e2, IntKind.signed, Bool.false_and]
  simp only [Bool.false_eq_true, if_false]
  omega

def okS (x : Set4) : Prop := 0 ≤ x.1 ∧ 0 ≤ x.2.1 ∧ 0 ≤ x.2.2.1 ∧ 0 ≤ x.2.2.2
abbrev pickS (x : Set4) (k : Nat) : Int := pick4 x.1 x.2.1 x.2.2.1 x.2.2.2 k
theorem pickS_nn {x : Set4} (h : okS x) (k : Nat) : 0 ≤ pickS x k := by
  unfold pickS pick4
  split
  · exact h.1
  · exact h.2.1
  · exact h.2.2.1
  · exact h.2.2.2
def hasN (x : Set4) (c : Nat) : Bool := ((pickS x (c / 64)).fdiv ((2 : Int) ^ (c % 64))) % 2 == 1
theorem fdiv_nn {x : Int} (h : 0 ≤ x) (k : Nat) : 0 ≤ x.fdiv ((2 : Int) ^ k) := Int.fdiv_nonneg h (by
  have : (0 : Int) < 2 ^ k := Int.pow_pos (by decide)
  omega)

theorem has26 (x : Set4) (hx : okS x) (c : Nat) (hc : c < 256) : PCon Tryz.Y 26 [.agg (encS4 x), .i .u8 (c : Nat)] (· = .b (hasN x c)) := by
  refine tree_con Tryz.Yok (fn := Tryz.f26) (by kernel_rfl) (by kernel_rfl) rfl (fun K => all26 c hc x.1 x.2.1 x.2.2.1 x.2.2.2 .empty K) rfl ?_
  have e1 : Int.tdiv (c : Int) 64 = ((c / 64 : Nat) : Int) := by rw [Int.tdiv_eq_ediv_of_nonneg (by omega)]; omega
  have e2 : Int.tmod (c : Int) 64 = ((c % 64 : Nat) : Int) := by rw [Int.tmod_eq_emod_of_nonneg (by omega)]; omega
  have e3 : IntKind.u8.wrap ((c / 64 : Nat) : Int) = ((c / 64 : Nat) : Int) := by
    have e2 : (2 : Int) ^ IntKind.u8.bits = 256 := by decide
    unfold IntKind.wrap
    simp only [e2, IntKind.signed, Bool.false_and]
    simp only [Bool.false_eq_true, if_false]
    omega
  unfold T26
  rw [e1, e2, e3]
  refine ⟨by decide, ⟨by omega, by omega⟩, by decide, by omega, by decide, finV1 (.inr rfl) rfl (.b _) ?_⟩
  have e4 : min (((c % 64 : Nat) : Int)).toNat IntKind.u64.bits = c % 64 := by
    have : IntKind.u64.bits = 64 := rfl
    rw [this, Int.toNat_natCast]; omega
  rw [e4, Int.tmod_eq_emod_of_nonneg (fdiv_nn (pickS_nn hx _) _)]
  rfl

/-! ### having -/
abbrev set0 : Set4 := (0, 0, 0, 0)
def havL (sets : List Set4) (l : List Int) (c : Nat) : List Int := l.filter fun p => hasN (sets.getD p.toNat set0) c
theorem havL_snoc (sets : List Set4) (l : List Int) (c : Nat) {i : Nat} (hi : i < l.length) (s : Set4) (hs : sets.getD l[i].toNat set0 = s) : havL sets (l.take (i + 1)) c = havL sets (l.take i) c ++ if hasN s c then [l[i]] else [] := by
  rw [List.take_succ_eq_append_getElem hi]
  unfold havL
  rw [List.filter_append, List.filter_cons, List.filter_nil, hs]
theorem havL_len (sets : List Set4) (l : List Int) (c : Nat) : (havL sets l c).length ≤ l.length := List.length_filter_le _ _

theorem getS (l : List Set4) {i : Nat} (h : i < l.length) : takeX 4 (List.drop (i * 4) (row encS4 l)) = some (encS4 l[i]) := row_get (f := encS4) (k := 4) encS4_len h
theorem getS1 (l : List Set4) {i k : Nat} (h : i < l.length) (hk : k < 4) : takeX 1 (List.drop (((k : Nat) : Int).toNat * 1) (List.drop (i * 4) (row encS4 l))) = some [.i .u64 (pickS l[i] k)] := by
  rw [row_cons encS4_len l h, Int.toNat_natCast]
  match k, hk with
  | 0, _ => rfl
  | 1, _ => rfl
  | 2, _ => rfl
  | 3, _ => rfl

theorem app1I {h : Heap} {a : Option (Nat × Nat)} {l : Nat} {c : Option Nat} {kk : Nat} {out : List Int} (x : Int) (hl : Lst encI 1 h a l c kk out) (hb : out.length < 2 ^ 29) :
    ∃ a' l' c' k' h', appendH Tryz.Y h 23 23 (.sl a l c kk) (.ts [.i .i64 x] 1 (some 1)) = some (.sl a' l' c' k', h') ∧ Lst encI 1 h' a' l' c' k' (out ++ [x]) ∧ Fr h a h' ∧ ∃ j, a' = some (j, 0) ∧ h.nx ≤ j :=
  Lst.app1 (Y := Tryz.Y) (e := 3) (te := ⟨1, 8, .int .i64, [.i .i64 0]⟩) x (by kernel_rfl) (by kernel_rfl) rfl (by decide) hl (.cons _ _ _ _ (.i _ _) .nil) rfl rfl rfl (by decide) hb

theorem having23 (a : Au) (l : List Int) (c : Nat) (hc : c < 256) (hr : ∀ p ∈ l, 0 ≤ p ∧ p < a.sets.length) (hl : l.length < 2 ^ 20) : PCon Tryz.Y 23 [.agg (auC a), lst encI l, .i .u8 (c : Nat)] (· = lst encI (havL a.sets l c)) := by
  refine pcon_of Tryz.Yok (fn := Tryz.f23) (by kernel_rfl) (by kernel_rfl) rfl ?_
  refine pre_rule Tryz.Yok (n := 35) (loc := Tryz.Y.loc 23) 100 [2, 3, 7, 10, 11, 12] (by kernel_rfl) ?_
  refine Eq.mpr (f23_0 (row encS4 a.sets) a.sets.length (row encI a.first) a.first.length (row encI a.last) a.last.length (row encL a.follow) a.follow.length a.empty (row encI l) l.length (c : Nat) .empty _) ?_
  refine ⟨rfl, loop2 [2, 3, 7, 10, 11, 12] [2, 3, 7, 10, 11, 12] rfl (by kernel_rfl) (fun m vs h => ∃ (i : Nat) (q : Option (Nat × Nat)) (n : Nat) (cp : Option Nat) (kk : Nat), vs = [.i .u8 (c : Nat), .lb (auC a), .sl q n cp kk, lst encI l, .i .i64 l.length, .i .i64 (i : Nat)] ∧ i ≤ l.length ∧ m = l.length - i ∧ Lst encI 1 h q n cp kk (havL a.sets (l.take i) c)) l.length mk_len ⟨0, none, 0, some 0, 0, rfl, by omega, by omega, Lst.nil _ _ _ _ _⟩ ?_⟩
  rintro m vs h ⟨i, q, n, cp, kk, rfl, hi, rfl, hL⟩
  refine all_rule Tryz.Yok (loc := Tryz.Y.loc 23) 100 [2, 3, 7, 10, 11, 12] ?_
  refine Eq.mpr (f23_1 (row encS4 a.sets) a.sets.length (row encI a.first) a.first.length (row encI a.last) a.last.length (row encL a.follow) a.follow.length a.empty (row encI l) l.length (c : Nat) q n cp kk (i : Nat) h _) ?_
  refine if_lt_nat (fun hlt => ?_) (fun hge => ?_)
  · obtain ⟨p0, p1⟩ := hr l[i] (List.getElem_mem hlt)
    have hp : l[i].toNat < a.sets.length := by omega
    have hD : a.sets.getD l[i].toNat set0 = a.sets[l[i].toNat] := by simp [hp]
    have hs := havL_snoc a.sets l c hlt _ hD
    have hlen : (havL a.sets (l.take i) c).length < 2 ^ 29 := by
      have := havL_len a.sets (l.take i) c
      rw [List.length_take] at this; omega
    refine ⟨bnd_nat hlt, _, getI l hlt, by decide, ⟨p0, p1⟩, ?_⟩
    rw [byteHi, byteLo hc]
    refine ⟨⟨by omega, by omega⟩, _, getS1 a.sets hp (by omega), by omega, ?_⟩
    have e4 : min (((c % 64 : Nat) : Int)).toNat IntKind.u64.bits = c % 64 := by
      have : IntKind.u64.bits = 64 := rfl
      rw [this, Int.toNat_natCast]; omega
    rw [e4, bitLo]
    refine if_mk (fun g => ?_) (fun g => ?_)
    · have g : hasN a.sets[l[i].toNat] c = true := g
      rw [g, if_pos rfl] at hs
      obtain ⟨a', l', c', k', h', q1, q2, q3, q4⟩ := app1I l[i] hL hlen
      exact ⟨a', l', c', k', h', q1, rfl, l.length - (i + 1), by omega, i + 1, a', l', c', k', by rw [wrap_succ (by omega)]; rfl, by omega, rfl, by rw [hs]; exact q2⟩
    · have g : hasN a.sets[l[i].toNat] c = false := g
      rw [g, if_neg (by decide), List.append_nil] at hs
      exact ⟨rfl, l.length - (i + 1), by omega, i + 1, q, n, cp, kk, by rw [wrap_succ (by omega)]; rfl, by omega, rfl, by rw [hs]; exact hL⟩
  · refine roundW_exit [7] (by kernel_rfl) rfl rfl ?_
    refine end_rule Tryz.Yok (loc := Tryz.Y.loc 23) 100 [6] ?_
    refine Eq.mpr (f23_2 ..) ?_
    rw [List.take_of_length_le hge] at hL
    exact finV1 (.inr rfl) rfl (hL.frz (by decide) encI_len) rfl

theorem having14 (a : Au) (ha : ∀ x ∈ a.sets, okS x) (l : List Int) (c : Nat) (hc : c < 256) (hr : ∀ p ∈ l, 0 ≤ p ∧ p < a.sets.length) (hl : l.length < 2 ^ 20) : PCon Tryz.Y 14 [.agg (auC a), lst encI l, .i .u8 (c : Nat)] (· = lst encI (havL a.sets l c)) := by
  refine pcon_of Tryz.Yok (fn := Tryz.f14) (by kernel_rfl) (by kernel_rfl) rfl ?_
  refine pre_rule Tryz.Yok (n := 33) (loc := Tryz.Y.loc 14) 100 [1, 2, 3, 7, 8] (by kernel_rfl) ?_
  refine Eq.mpr (f14_0 (row encS4 a.sets) a.sets.length (row encI a.first) a.first.length (row encI a.last) a.last.length (row encL a.follow) a.follow.length a.empty (row encI l) l.length (c : Nat) .empty _) ?_
  refine ⟨rfl, loop2 [1, 2, 3, 7, 8] [1, 2, 3, 7, 8] rfl (by kernel_rfl) (fun m vs h => ∃ (i : Nat) (q : Option (Nat × Nat)) (n : Nat) (cp : Option Nat) (kk : Nat), vs = [lst encI l, .i .u8 (c : Nat), .lb (auC a), .sl q n cp kk, .i .i64 (i : Nat)] ∧ i ≤ l.length ∧ m = l.length - i ∧ Lst encI 1 h q n cp kk (havL a.sets (l.take i) c)) l.length mk_len ⟨0, none, 0, some 0, 0, rfl, by omega, by omega, Lst.nil _ _ _ _ _⟩ ?_⟩
  rintro m vs h ⟨i, q, n, cp, kk, rfl, hi, rfl, hL⟩
  refine all_rule Tryz.Yok (loc := Tryz.Y.loc 14) 100 [1, 2, 3, 7, 8] ?_
  refine Eq.mpr (f14_1 (row encS4 a.sets) a.sets.length (row encI a.first) a.first.length (row encI a.last) a.last.length (row encL a.follow) a.follow.length a.empty (row encI l) l.length (c : Nat) q n cp kk (i : Nat) h _) ?_
  refine if_lt_nat (fun hlt => ?_) (fun hge => ?_)
  · obtain ⟨p0, p1⟩ := hr l[i] (List.getElem_mem hlt)
    have hp : l[i].toNat < a.sets.length := by omega
    have hD : a.sets.getD l[i].toNat set0 = a.sets[l[i].toNat] := by simp [hp]
    have hs := havL_snoc a.sets l c hlt _ hD
    have hlen : (havL a.sets (l.take i) c).length < 2 ^ 29 := by
      have := havL_len a.sets (l.take i) c
      rw [List.length_take] at this; omega
    refine ⟨bnd_nat hlt, _, getI l hlt, ⟨p0, p1⟩, _, _, _, _, getS a.sets hp, _, has26 a.sets[l[i].toNat] (ha _ (List.getElem_mem hp)) c hc, if_mk (fun g => ?_) (fun g => ?_)⟩
    · rw [g, if_pos rfl] at hs
      obtain ⟨a', l', c', k', h', q1, q2, q3, q4⟩ := app1I l[i] hL hlen
      exact ⟨bnd_nat hlt, _, getI l hlt, a', l', c', k', h', q1, rfl, l.length - (i + 1), by omega, i + 1, a', l', c', k', by rw [wrap_succ (by omega)]; rfl, by omega, rfl, by rw [hs]; exact q2⟩
    · rw [g, if_neg (by decide), List.append_nil] at hs
      exact ⟨rfl, l.length - (i + 1), by omega, i + 1, q, n, cp, kk, by rw [wrap_succ (by omega)]; rfl, by omega, rfl, by rw [hs]; exact hL⟩
  · refine roundW_exit [7] (by kernel_rfl) rfl rfl ?_
    refine end_rule Tryz.Yok (loc := Tryz.Y.loc 14) 100 [6] ?_
    refine Eq.mpr (f14_2 ..) ?_
    rw [List.take_of_length_le hge] at hL
    exact finV1 (.inr rfl) rfl (hL.frz (by decide) encI_len) rfl
end Go.Y
