/- A reading that fails says why: plain. -/
import Derived.Test.YteennilbmmlikaaGreatDoorEConc
import Derived.Test.YteennilbmmlikaaGreatDoorGTextE
import Derived.Test.YteennilbmmlikaaGreatDoorNJ5
import Derived.Test.YteennilbmmlikaaGreatDoorGReC2
import Derived.Test.YteennilbmmlikaaGreatDoorGSortK
import Derived.Test.YteennilbmmlikaaGreatDoorYTryzP
import Derived.Shelf.Sort.Plain
import Derived.Shelf.Slices.CompactI
import Derived.Shelf.Slices.In.SortNone
import Derived.Test.YteennilbmmlikaaGreatDoorRows
import Derived.ProofKit
import Derived.LaidMore
import Derived.OpenShut
import Derived.Stop.Joined
namespace Go.Y
theorem err_all (s : List UInt8) : ∀ n,
    (∀ {d i g x}, altE n d s i g = .error x → x.1 ≠ 0) ∧
    (∀ {d i g l x}, altsE n d s i g l = .error x → x.1 ≠ 0) ∧
    (∀ {d i g l x}, rowE n d s i g l = .error x → x.1 ≠ 0) ∧
    (∀ {d i g x}, pieceE n d s i g = .error x → x.1 ≠ 0) ∧
    (∀ {d i g x}, atomE n d s i g = .error x → x.1 ≠ 0)
  | 0 => by
    refine ⟨fun {d i g x} h => ?_, fun {d i g l x} h => ?_, fun {d i g l x} h => ?_, fun {d i g x} h => ?_, fun {d i g x} h => ?_⟩
    · rw [altE] at h; cases h; simp
    · rw [altsE] at h; cases h; simp
    · rw [rowE] at h; cases h; simp
    · rw [pieceE] at h; cases h; simp
    · rw [atomE] at h; cases h; simp
  | n + 1 => by
    obtain ⟨w1, w2, w3, w4, w5⟩ := err_all s n
    refine ⟨fun {d i g x} h => ?_, fun {d i g l x} h => ?_, fun {d i g l x} h => ?_, fun {d i g x} h => ?_, fun {d i g x} h => ?_⟩
    · rw [altE] at h
      split at h
      · rename_i h1; cases h; exact w3 h1
      · exact w2 h
    · rw [altsE] at h
      split at h
      · split at h
        · rename_i h1; cases h; exact w3 h1
        · exact w2 h
      · cases h
    · rw [rowE] at h
      split at h
      · cases h
      · split at h
        · cases h
        · split at h
          · rename_i h1; cases h; exact w4 h1
          · exact w3 h
    · rw [pieceE] at h
      split at h
      · rename_i h1; cases h; exact w5 h1
      · repeat' split at h
        all_goals first | (cases h; simp) | cases h
    · rw [atomE] at h
      split at h
      · cases h; simp
      · split at h
        · cases h; simp
        · split at h
          · split at h
            · cases h; simp
            · split at h
              · rename_i h1; cases h; exact w1 h1
              · repeat' split at h
                all_goals first | (cases h; simp) | cases h
          · repeat' split at h
            all_goals first | (cases h; simp) | cases h
theorem parse_err {s : List UInt8} {x : Int × Nat} (h : parseE s = .error x) : x.1 ≠ 0 := by
  unfold parseE at h
  split at h
  · cases h; simp
  · split at h
    · rename_i h1; cases h; exact (err_all s _).1 h1
    · split at h
      · cases h; simp
      · cases h
end Go.Y

/- The closure of NfaJoins, and what its automata are. -/
namespace Go.Y
open Go.Proofs Gl
set_option maxRecDepth 100000
set_option maxHeartbeats 1000000

def reOf (p : List UInt8) : Re := match parseE p with
  | .ok r => r
  | .error _ => zeroRe
def eOf (p : List UInt8) : Int := match parseE p with
  | .ok _ => 0
  | .error (e, _) => e
theorem reOf_wf (p : List UInt8) : wfRe 201 (reOf p) ∧ cntN (reOf p) ≤ 1000 := by
  unfold reOf
  split
  · rename_i r h; exact ⟨parse_wf h, parse_cnt h⟩
  · refine ⟨?_, ?_⟩
    · rw [zeroRe, wfRe]; exact ⟨fun h => absurd h (by decide), fun _ _ _ _ => rfl, Nat.zero_le _, by rw [wfRe.wfRes]; trivial⟩
    · rw [zeroRe, cntN, cntN.cntsN]; omega
theorem parse_at (p : List UInt8) : ∃ q : Int, PCon Tryz.Y 8 [.s p] (· = .tup [.agg (encRe (reOf p)), .i .i64 q, .i .i64 (eOf p)]) := by
  have h := parseE_con p
  unfold parseER at h
  unfold reOf eOf
  cases hp : parseE p with
  | ok r => rw [hp] at h; exact ⟨0, h⟩
  | error e => rw [hp] at h; exact ⟨_, h⟩
def makeP (r : Re) : Au × Int := if mayE r = false ∨ anchB r = true then (auZ, 5) else if 300 < spotN r then (auZ, 2) else (makeA boS r, 0)
theorem make_at (hs : SortSays Tryz.Y.P 75) (hcm : CompactSays Tryz.Y.P 76) {r : Re} (hwf : wfRe 201 r) (hcn : cntN r ≤ 1000) : PCon Tryz.Y 10 [.agg (encRe r)] (· = .tup [.agg (auC (makeP r).1), .i .i64 (makeP r).2]) := by
  have hl := textF_len r
  have h := make_con hs hcm (B := 201) (by decide) hwf (may_con (B := 201) (by decide) hwf (by omega))
  unfold makeR at h
  unfold makeP
  split
  · rename_i g; rw [if_pos g] at h; exact h
  · rename_i g
    rw [if_neg g] at h
    split
    · rename_i g2; rw [if_pos g2] at h; exact h
    · rename_i g2; rw [if_neg g2] at h; exact h
def ofA (p : List UInt8) : Au × Bool := ((makeP (reOf p)).1, if eOf p == 0 then (makeP (reOf p)).2 == 0 else false)
theorem ofA_con (hs : SortSays Tryz.Y.P 75) (hcm : CompactSays Tryz.Y.P 76) (p : List UInt8) : PCon Tryz.Y 9 [.s p] (· = .tup [.agg (auC (ofA p).1), .b (ofA p).2]) := by
  obtain ⟨q, hq⟩ := parse_at p
  have hm := make_at hs hcm (reOf_wf p).1 (reOf_wf p).2
  refine tree_con Tryz.Yok (fn := Tryz.f9) (by kernel_rfl) (by kernel_rfl) rfl (fun K => f9_0 p .empty K) rfl ?_
  unfold ofA
  generalize reOf p = r at hq hm
  obtain ⟨k, s, kids, lo, hi, n⟩ := r
  rw [encRe_mk] at hq hm
  refine ⟨_, _, _, _, _, _, _, _, _, _, _, _, _, hq, _, _, _, _, _, _, _, _, _, _, _, _, _, _, hm, if_mk (fun g => ?_) (fun g => ?_)⟩
  · rw [g]
    exact finV2 (.inr rfl) rfl (frz_au _ _) (.b _) rfl
  · rw [g]
    exact finV2 (.inr rfl) rfl (frz_au _ _) (.b _) rfl

theorem risB_of {l : List Nat} {n : Nat} (h : Rz n l) : risB (ints l) n = true := by
  unfold risB
  refine List.all_eq_true.2 fun i hi => ?_
  have hi : i < (ints l).length := List.mem_range.1 hi
  have hi' : i < l.length := by simpa using hi
  have hx := h.2 l[i] (List.getElem_mem hi')
  have e1 : (ints l).getD i 0 = (l[i] : Int) := by rw [getD_at hi]; simp
  rw [okAt_eq, e1]
  have a1 : ltI (l[i] : Int) 0 = false := by simp [ltI]
  have a2 : leI (n : Int) (l[i] : Int) = false := by simp [leI]; omega
  rw [a1, a2]
  by_cases h0 : 0 < i
  · have hp : i - 1 < l.length := by omega
    have e2 : (ints l).getD (i - 1) 0 = (l[i - 1] : Int) := by rw [getD_at (by simpa using hp)]; simp
    have h3 : l[i - 1] < l[i] := List.pairwise_iff_getElem.1 h.1 _ _ hp hi' (by omega)
    rw [e2]
    have a3 : leI (l[i] : Int) (l[i - 1] : Int) = false := by simp [leI]; omega
    rw [a3]; simp
  · simp [h0]
theorem okA_make {r : Re} (hwf : wfRe 201 r) (hn : cntRe r ≤ 300) : OkA (makeA boS r) := by
  obtain ⟨h1, h2, h3⟩ := part_B r hwf ⟨[], []⟩ ⟨rfl, fun l hl => by cases hl⟩
  unfold makeA auF
  generalize partF boS r ⟨[], []⟩ = S at h1 h2 h3
  have hs : S.1.sets.length ≤ 300 := by simp at h3; omega
  have hfl := h1.wf
  have hfo : ∀ l ∈ S.1.fol.map ints, risB l S.1.sets.length = true ∧ l.length ≤ 300 := fun l hl => by
    obtain ⟨m, hm, rfl⟩ := List.mem_map.1 hl
    have := (h1.fo m hm).len
    exact ⟨risB_of (h1.fo m hm), by simp; omega⟩
  have h4 := h2.fi.len
  have h5 := h2.la.len
  refine ⟨?_, ?_⟩
  · simp only [mayA, List.length_map, hs, hfl, risB_of h2.fi, risB_of h2.la, decide_true, Bool.true_and]
    exact List.all_eq_true.2 fun l hl => (hfo l hl).1
  · simp only [smallA, List.length_map, hs, hfl, Bool.and_eq_true, decide_eq_true_eq]
    exact ⟨⟨⟨⟨trivial, by omega⟩, by omega⟩, trivial⟩, List.all_eq_true.2 fun l hl => by simpa using (hfo l hl).2⟩
end Go.Y

/- The law of NfaJoins over its code. -/
namespace Go.Y
open Go.Proofs Gl
set_option maxRecDepth 100000
set_option maxHeartbeats 2000000

theorem eOf_ok {p : List UInt8} (h : eOf p = 0) : parseE p = .ok (reOf p) := by
  unfold eOf at h
  unfold reOf
  cases hp : parseE p with
  | ok r => rfl
  | error x => rw [hp] at h; exact absurd h (parse_err hp)
theorem ofA_yes {p : List UInt8} (h : (ofA p).2 = true) : ∃ r, parseE p = .ok r ∧ okRe r ∧ (ofA p).1 = makeA boS r ∧ OkA (ofA p).1 := by
  unfold ofA at h ⊢
  simp only at h ⊢
  by_cases he : eOf p = 0
  · have hp := eOf_ok he
    have hw := parse_wf hp
    rw [he] at h
    unfold makeP at h ⊢
    by_cases g : mayE (reOf p) = false ∨ anchB (reOf p) = true
    · rw [if_pos g] at h; simp at h
    · rw [if_neg g] at h ⊢
      by_cases g2 : 300 < spotN (reOf p)
      · rw [if_pos g2] at h; simp at h
      · rw [if_neg g2]
        have ha : anchB (reOf p) = false := by
          cases h3 : anchB (reOf p) with
          | false => rfl
          | true => exact absurd (.inr h3) g
        exact ⟨_, hp, ok_of_wf _ hw ha, rfl, okA_make hw (spots_few hw (by omega))⟩
  · have : (eOf p == 0) = false := by simpa using he
    rw [this] at h; simp at h

theorem loopJ (hs : SortSays Tryz.Y.P 75) (hcm : CompactSays Tryz.Y.P 76) {b s : List UInt8} (hls : s.length ≤ 15) {X Y Z T : Au} (oX : OkA X) (oY : OkA Y) (oZ : OkA Z) (oT : OkA T)
    (j1 : ((List.range (s.length + 1)).any fun i => runA X (s.take i) && runA Y (s.drop i)) = runA Z s) (j2 : runA T s = (runA X s || runA Y s)) {ka loa hia na eb : Int} {sa : S4} {kda : List Re} (h : Heap) :
    PreV Tryz.Y 150 [1, 2, 5, 6, 7, 12, 14, 16, 18, 20, 22, 111, 112] (post (flat (bodyOf Tryz.f3))) (FinS Tryz.Y Tryz.f3 fun v h => ∃ r, Frz h v r ∧ r = .b true) .normal 150
      [.s b, .s s, .undef, .b false, .lb [.i .i64 ka, .i .u64 sa.1, .i .u64 sa.2.1, .i .u64 sa.2.2.1, .i .u64 sa.2.2.2, lst encRe kda, .i .i64 loa, .i .i64 hia, .i .i64 na], .i .i64 eb, .lb (auC X), .lb (auC Y), .lb (auC Z), .lb (auC T), .b false, .i .i64 (IntKind.i64.wrap ((s.length : Nat) + 1)), .i .i64 0] h := by
  rw [wrap_succ (by omega)]
  refine ⟨rfl, loop2 [1, 2, 5, 7, 12, 14, 16, 18, 20, 22, 111, 112] [1, 2, 5, 7, 12, 14, 16, 18, 20, 22, 111, 112] rfl (by kernel_rfl) (fun m vs h => ∃ i : Nat, vs = [.s b, .s s, .undef, .lb [.i .i64 ka, .i .u64 sa.1, .i .u64 sa.2.1, .i .u64 sa.2.2.1, .i .u64 sa.2.2.2, lst encRe kda, .i .i64 loa, .i .i64 hia, .i .i64 na], .i .i64 eb, .lb (auC X), .lb (auC Y), .lb (auC Z), .lb (auC T), .b ((List.range i).any fun j => runA X (s.take j) && runA Y (s.drop j)), .i .i64 ((s.length + 1 : Nat)), .i .i64 (i : Nat)] ∧ i ≤ s.length + 1 ∧ m = s.length + 1 - i) (s.length + 1) mk_len ⟨0, rfl, by omega, by omega⟩ ?_⟩
  rintro m vs h ⟨i, rfl, hi, rfl⟩
  have hsn : ((List.range (i + 1)).any fun j => runA X (s.take j) && runA Y (s.drop j)) = (((List.range i).any fun j => runA X (s.take j) && runA Y (s.drop j)) || (runA X (s.take i) && runA Y (s.drop i))) := by
    rw [List.range_succ, List.any_append]; simp
  generalize hmt : ((List.range i).any fun j => runA X (s.take j) && runA Y (s.drop j)) = mt at hsn
  refine all_tree Tryz.Yok (fun K => f3_1 b s ka sa.1 sa.2.1 sa.2.2.1 sa.2.2.2 none (row encRe kda) kda.length loa hia na eb none (row setC X.sets) X.sets.length none (row encI X.first) X.first.length none (row encI X.last) X.last.length none (row encLI X.follow) X.follow.length X.empty none (row setC Y.sets) Y.sets.length none (row encI Y.first) Y.first.length none (row encI Y.last) Y.last.length none (row encLI Y.follow) Y.follow.length Y.empty none (row setC Z.sets) Z.sets.length none (row encI Z.first) Z.first.length none (row encI Z.last) Z.last.length none (row encLI Z.follow) Z.follow.length Z.empty none (row setC T.sets) T.sets.length none (row encI T.first) T.first.length none (row encI T.last) T.last.length none (row encLI T.follow) T.follow.length T.empty mt ((s.length + 1 : Nat)) (i : Nat) h K) rfl ?_
  have next : ∀ {c : Bool}, i < s.length + 1 → c = (mt || (runA X (s.take i) && runA Y (s.drop i))) → ∃ m', m' < s.length + 1 - i ∧ ∃ i2 : Nat, ([.s b, .s s, .undef, .lb [.i .i64 ka, .i .u64 sa.1, .i .u64 sa.2.1, .i .u64 sa.2.2.1, .i .u64 sa.2.2.2, lst encRe kda, .i .i64 loa, .i .i64 hia, .i .i64 na], .i .i64 eb, .lb (auC X), .lb (auC Y), .lb (auC Z), .lb (auC T), .b c, .i .i64 ((s.length + 1 : Nat)), .i .i64 (IntKind.i64.wrap ((i : Nat) + 1))] : List V) = [.s b, .s s, .undef, .lb [.i .i64 ka, .i .u64 sa.1, .i .u64 sa.2.1, .i .u64 sa.2.2.1, .i .u64 sa.2.2.2, lst encRe kda, .i .i64 loa, .i .i64 hia, .i .i64 na], .i .i64 eb, .lb (auC X), .lb (auC Y), .lb (auC Z), .lb (auC T), .b ((List.range i2).any fun j => runA X (s.take j) && runA Y (s.drop j)), .i .i64 ((s.length + 1 : Nat)), .i .i64 (i2 : Nat)] ∧ i2 ≤ s.length + 1 ∧ m' = s.length + 1 - i2 := fun hlt hc => ⟨s.length + 1 - (i + 1), by omega, i + 1, by rw [wrap_succ (by omega), hsn, ← hc], by omega, rfl⟩
  refine if_lt_nat (fun hlt => ?_) (fun hge => ?_)
  · have t1 : List.take (((i : Nat) : Int).toNat - 0) (List.drop 0 s) = s.take i := by simp
    have t2 : List.take (s.length - ((i : Nat) : Int).toNat) (List.drop ((i : Nat) : Int).toNat s) = s.drop i := by rw [Int.toNat_natCast]; exact List.take_of_length_le (by simp)
    rw [t1, t2]
    refine if_mk (fun g => ⟨rfl, next hlt (by rw [g]; rfl)⟩) (fun g => ?_)
    refine ⟨⟨by omega, by omega⟩, _, run8 hs hcm oX (s.take i) (by rw [List.length_take]; omega), if_mk (fun g2 => ?_) (fun g2 => ?_)⟩
    · exact ⟨⟨by omega, by omega⟩, _, run8 hs hcm oY (s.drop i) (by rw [List.length_drop]; omega), rfl, next hlt (by rw [g, g2]; rfl)⟩
    · exact ⟨rfl, next hlt (by rw [g, g2]; rfl)⟩
  · have he : i = s.length + 1 := by omega
    subst he
    rw [j1] at hmt
    subst hmt
    refine roundW_exit [2, 5, 12, 14, 16, 18, 20, 22] (by kernel_rfl) rfl rfl ?_
    refine end_tree Tryz.Yok (fun K => f3_2 b s eb none (row setC X.sets) X.sets.length none (row encI X.first) X.first.length none (row encI X.last) X.last.length none (row encLI X.follow) X.follow.length X.empty none (row setC Y.sets) Y.sets.length none (row encI Y.first) Y.first.length none (row encI Y.last) Y.last.length none (row encLI Y.follow) Y.follow.length Y.empty none (row setC Z.sets) Z.sets.length none (row encI Z.first) Z.first.length none (row encI Z.last) Z.last.length none (row encLI Z.follow) Z.follow.length Z.empty none (row setC T.sets) T.sets.length none (row encI T.first) T.first.length none (row encI T.last) T.last.length none (row encLI T.follow) T.follow.length T.empty (runA Z s) h K) rfl ?_
    refine ⟨_, run8 hs hcm oZ s (by omega), if_mk (fun _ => ?_) (fun g => by simp at g)⟩
    refine ⟨_, run8 hs hcm oT s (by omega), _, run8 hs hcm oX s (by omega), if_mk (fun g => ?_) (fun g => ?_)⟩
    · exact finV1 (.inr rfl) rfl (.b _) (by rw [j2, g]; rfl)
    · exact ⟨_, run8 hs hcm oY s (by omega), finV1 (.inr rfl) rfl (.b _) (by rw [j2, g]; simp)⟩
end Go.Y

/- NfaJoins holds: awake, and the law. -/
namespace Go.Y
open Go.Proofs Gl
set_option maxRecDepth 100000
set_option maxHeartbeats 4000000

theorem re_cases (r : Re) : ∃ k s kids lo hi n, r = .mk k s kids lo hi n := by
  obtain ⟨k, s, kids, lo, hi, n⟩ := r; exact ⟨_, _, _, _, _, _, rfl⟩
theorem joins3 (hs : SortSays Tryz.Y.P 75) (hcm : CompactSays Tryz.Y.P 76) (haw : PCon Tryz.Y 7 [] (· = .b true)) (a b s : List UInt8) : PCon Tryz.Y 3 [.s a, .s b, .s s] (· = .b true) := by
  refine pcon_of Tryz.Yok (fn := Tryz.f3) (by kernel_rfl) (by kernel_rfl) rfl ?_
  refine pre_tree Tryz.Yok 150 (fun K => f3_0 a b s .empty K) rfl (by kernel_rfl) ?_
  have early : ∃ r, Frz Heap.empty (.b true) r ∧ r = .b true := ⟨_, .b _, rfl⟩
  refine ⟨_, haw, if_mk (fun g => by cases g) (fun _ => if_lt (fun _ => fin_at (.inr rfl) rfl early) (fun ga => if_lt (fun _ => fin_at (.inr rfl) rfl early) (fun gb => if_lt (fun _ => fin_at (.inr rfl) rfl early) (fun gs => ?_))))⟩
  have ga : a.length ≤ 30 := by omega
  have gb : b.length ≤ 30 := by omega
  have gs : s.length ≤ 15 := by omega
  obtain ⟨qa, ha⟩ := parse_at a
  obtain ⟨qb, hb⟩ := parse_at b
  obtain ⟨ka, sa, kda, loa, hia, na, hra⟩ := re_cases (reOf a)
  obtain ⟨kb, sb, kdb, lob, hib, nb, hrb⟩ := re_cases (reOf b)
  rw [hra, encRe_mk] at ha
  rw [hrb, encRe_mk] at hb
  refine ⟨_, _, _, _, _, _, _, _, _, _, _, _, _, ha, _, _, _, _, _, _, _, _, _, _, _, _, _, hb, if_mk (fun _ => fin_at (.inr rfl) rfl early) (fun ea => if_mk (fun _ => fin_at (.inr rfl) rfl early) (fun eb => ?_))⟩
  have ea : eOf a = 0 := by simpa using ea
  have eb : eOf b = 0 := by simpa using eb
  have sz : ∀ (n m : Nat), n ≤ 1000 → m ≤ 1000 → n + m ≤ 1152921504606846976 := fun n m h1 h2 => by omega
  refine ⟨by simp; omega, by simp; omega, _, _, _, _, _, _, _, _, _, _, _, _, _, _, ofA_con hs hcm _, by simp; omega, by simp; omega, _, _, _, _, _, _, _, _, _, _, _, _, _, _, ofA_con hs hcm _,
    by simp; omega, by simp; omega, by simp; omega, by simp; omega, _, _, _, _, _, _, _, _, _, _, _, _, _, _, ofA_con hs hcm _, by simp; omega, by simp; omega, by simp; omega, by simp; omega, _, _, _, _, _, _, _, _, _, _, _, _, _, _, ofA_con hs hcm _, ?_⟩
  refine if_mk (fun _ => fin_at (.inr rfl) rfl early) (fun f1 => if_mk (fun _ => fin_at (.inr rfl) rfl early) (fun f2 => if_mk (fun _ => fin_at (.inr rfl) rfl early) (fun f3 => if_mk (fun _ => fin_at (.inr rfl) rfl early) (fun f4 => ?_))))
  obtain ⟨x, px, ox, ex, kx⟩ := ofA_yes (by simpa using f1)
  obtain ⟨y, py, oy, ey, ky⟩ := ofA_yes (by simpa using f2)
  obtain ⟨z, pz, oz, ez, kz⟩ := ofA_yes (by simpa using f3)
  obtain ⟨t, pt, ot, et, kt⟩ := ofA_yes (by simpa using f4)
  obtain ⟨j1, j2⟩ := joins_plain (bo := boS) boS_mem (s := s) ga gb (eOf_ok ea) (eOf_ok eb) (x := x) (y := y) (z := z) (t := t) (by simpa using px) (by simpa using py) (by simpa using pz) (by simpa using pt) ox oy oz ot
  rw [← ex, ← ey, ← ez] at j1
  rw [← ex, ← ey, ← et] at j2
  have e1 : (#[(40 : UInt8)].toList ++ a ++ #[(41 : UInt8)].toList) = 40 :: (a ++ [41]) := by simp
  have e2 : (#[(40 : UInt8)].toList ++ b ++ #[(41 : UInt8)].toList) = 40 :: (b ++ [41]) := by simp
  have e3 : (#[(40 : UInt8)].toList ++ a ++ #[(41 : UInt8), (40 : UInt8)].toList ++ b ++ #[(41 : UInt8)].toList) = 40 :: (a ++ 41 :: 40 :: (b ++ [41])) := by simp
  have e4 : (#[(40 : UInt8)].toList ++ a ++ #[(41 : UInt8), (124 : UInt8), (40 : UInt8)].toList ++ b ++ #[(41 : UInt8)].toList) = 40 :: (a ++ 41 :: 124 :: 40 :: (b ++ [41])) := by simp
  rw [e1, e2, e3, e4]
  exact loopJ hs hcm gs kx ky kz kt j1 j2 (b := b) (ka := ka) (sa := sa) (kda := kda) (loa := loa) (hia := hia) (na := na) (eb := eOf b) _
end Go.Y

/- awake of layer 35. -/
namespace Go.Y
open Go.Proofs Gl
set_option maxRecDepth 100000
set_option maxHeartbeats 4000000

abbrev pA : List UInt8 := [97, 123, 50, 44, 125]
abbrev rA : Re := .mk 6 (0, 0, 0, 0) [.mk 1 (0, 8589934592, 0, 0) [] 0 0 0] 2 (-1) 0
abbrev aA : Au := ⟨[(0, 8589934592, 0, 0), (0, 8589934592, 0, 0)], [0], [1], [[1], [1]], false⟩
theorem pA_ok : reOf pA = rA ∧ eOf pA = 0 := by constructor <;> kernel_rfl
theorem makeP_A : makeP rA = (aA, 0) := by
  have h1 : mayE rA = true := by kernel_rfl
  have h2 : anchB rA = false := by kernel_rfl
  have h3 : spotN rA = 2 := by kernel_rfl
  have h4 : makeA boS rA = aA := by kernel_rfl
  unfold makeP
  rw [h1, h2, h3, h4, if_neg (by simp), if_neg (by omega)]
theorem awake35 (hs : SortSays Tryz.Y.P 75) (hcm : CompactSays Tryz.Y.P 76) : PCon Tryz.Y 7 [] (· = .b true) := by
  obtain ⟨q, hp⟩ := parse_at pA
  have hwf := (reOf_wf pA).1
  have hcn := (reOf_wf pA).2
  rw [pA_ok.1, pA_ok.2] at hp
  rw [pA_ok.1] at hwf hcn
  have hm := make_at hs hcm hwf hcn
  rw [makeP_A] at hm
  have hO : OkA aA := by
    have h3 : cntRe rA = 2 := by kernel_rfl
    have := okA_make hwf (by omega)
    have h4 : makeA boS rA = aA := by kernel_rfl
    rwa [h4] at this
  rw [encRe_mk] at hp hm
  have r1 : runA aA [97, 97, 97] = true := by kernel_rfl
  have r2 : runA aA [97] = false := by kernel_rfl
  have c1 := run8 hs hcm hO [97, 97, 97] (by simp)
  have c2 := run8 hs hcm hO [97] (by simp)
  have c3 := may7 aA hO.small
  rw [r1] at c1
  rw [r2] at c2
  rw [hO.may] at c3
  refine tree_con Tryz.Yok (fn := Tryz.f7) (by kernel_rfl) (by kernel_rfl) rfl (fun K => f7_0 .empty K) rfl ?_
  refine ⟨_, _, _, _, _, _, _, _, _, _, _, _, _, hp, _, _, _, _, _, _, _, _, _, _, _, _, _, _, hm, if_mk (fun _ => if_mk (fun _ => ?_) (fun g => by cases g)) (fun g => by cases g)⟩
  refine ⟨⟨by decide, by decide⟩, _, _, _, rfl, if_mk (fun _ => ?_) (fun g => by cases g)⟩
  refine ⟨⟨by decide, by decide⟩, _, _, _, rfl, ⟨by decide, by decide⟩, _, rfl, if_mk (fun _ => ?_) (fun g => by cases g)⟩
  exact ⟨_, c1, if_mk (fun _ => ⟨_, c2, if_mk (fun _ => ⟨_, c3, finV1 (.inr rfl) rfl (.b _) rfl⟩) (fun g => by cases g)⟩) (fun g => by cases g)⟩
end Go.Y

/- slices.Sort and slices.Compact of this program: the library's contracts, by their bodies (tables printed by the kit's tool). -/
namespace Go.Proofs
open Go.Shelf
def Tryz.lays189_ren : Go.Shelf.Ren := ⟨fun | 189 => 75 | 125 => 121 | 257 => 120 | 128 => 159 | 129 => 160 | 294 => 150 | 295 => 151 | 296 => 152 | 297 => 153 | 298 => 154 | 299 => 155 | 216 => 156 | 300 => 157 | 301 => 158 | 328 => 179 | 329 => 180 | 330 => 181 | 331 => 182 | 332 => 183 | 215 => 184 | 343 => 192 | n => n, fun | 28 => 32 | 3 => 3 | 46 => 132 | 0 => 0 | 51 => 235 | 53 => 23 | 4 => 4 | 183 => 228 | 182 => 227 | 131 => 199 | 5 => 5 | 9 => 9 | 218 => 248 | 222 => 252 | 228 => 257 | 229 => 217 | n => n, fun | n => n⟩
theorem Tryz.lays189 : Go.Proofs.Lays.n189 Tryz.prog Tryz.lays189_ren := {
  mixed := by kernel_rfl
  f125 := Tryz.func121.trans (congrArg some (by kernel_rfl))
  f128 := Tryz.func159.trans (congrArg some (by kernel_rfl))
  f129 := Tryz.func160.trans (congrArg some (by kernel_rfl))
  f189 := Tryz.func75.trans (congrArg some (by kernel_rfl))
  f215 := Tryz.func184.trans (congrArg some (by kernel_rfl))
  f216 := Tryz.func156.trans (congrArg some (by kernel_rfl))
  f257 := Tryz.func120.trans (congrArg some (by kernel_rfl))
  f294 := Tryz.func150.trans (congrArg some (by kernel_rfl))
  f295 := Tryz.func151.trans (congrArg some (by kernel_rfl))
  f296 := Tryz.func152.trans (congrArg some (by kernel_rfl))
  f297 := Tryz.func153.trans (congrArg some (by kernel_rfl))
  f298 := Tryz.func154.trans (congrArg some (by kernel_rfl))
  f299 := Tryz.func155.trans (congrArg some (by kernel_rfl))
  f300 := Tryz.func157.trans (congrArg some (by kernel_rfl))
  f301 := Tryz.func158.trans (congrArg some (by kernel_rfl))
  f328 := Tryz.func179.trans (congrArg some (by kernel_rfl))
  f329 := Tryz.func180.trans (congrArg some (by kernel_rfl))
  f330 := Tryz.func181.trans (congrArg some (by kernel_rfl))
  f331 := Tryz.func182.trans (congrArg some (by kernel_rfl))
  f332 := Tryz.func183.trans (congrArg some (by kernel_rfl))
  f343 := Tryz.func192.trans (congrArg some (by kernel_rfl))
  t0 := Tryz.underlying0
  a0 := Tryz.isAgg0
  z0 := Tryz.sizeOf0
  v0 := Tryz.zeroValue0
  t3 := Tryz.underlying3
  a3 := Tryz.isAgg3
  z3 := Tryz.sizeOf3
  v3 := Tryz.zeroValue3
  t4 := Tryz.underlying4
  a4 := Tryz.isAgg4
  z4 := Tryz.sizeOf4
  v4 := Tryz.zeroValue4
  t5 := Tryz.underlying5
  a5 := Tryz.isAgg5
  z5 := Tryz.sizeOf5
  v5 := Tryz.zeroValue5
  t9 := Tryz.underlying9
  a9 := Tryz.isAgg9
  z9 := Tryz.sizeOf9
  v9 := Tryz.zeroValue9
  t28 := Tryz.underlying32
  a28 := Tryz.isAgg32
  z28 := Tryz.sizeOf32
  v28 := Tryz.zeroValue32
  t46 := Tryz.underlying132
  a46 := Tryz.isAgg132
  z46 := Tryz.sizeOf132
  v46 := Tryz.zeroValue132
  t51 := Tryz.underlying235
  a51 := Tryz.isAgg235
  z51 := Tryz.sizeOf235
  v51 := Tryz.zeroValue235
  t53 := Tryz.underlying23
  a53 := Tryz.isAgg23
  z53 := Tryz.sizeOf23
  v53 := Tryz.zeroValue23
  t131 := Tryz.underlying199
  a131 := Tryz.isAgg199
  z131 := Tryz.sizeOf199
  v131 := Tryz.zeroValue199
  t182 := Tryz.underlying227
  a182 := Tryz.isAgg227
  z182 := Tryz.sizeOf227
  v182 := Tryz.zeroValue227
  t183 := Tryz.underlying228
  a183 := Tryz.isAgg228
  z183 := Tryz.sizeOf228
  v183 := Tryz.zeroValue228
  t218 := Tryz.underlying248
  a218 := Tryz.isAgg248
  z218 := Tryz.sizeOf248
  v218 := Tryz.zeroValue248
  t222 := Tryz.underlying252
  a222 := Tryz.isAgg252
  z222 := Tryz.sizeOf252
  v222 := Tryz.zeroValue252
  t228 := Tryz.underlying257
  a228 := Tryz.isAgg257
  z228 := Tryz.sizeOf257
  v228 := Tryz.zeroValue257
  t229 := Tryz.underlying217
  a229 := Tryz.isAgg217
  z229 := Tryz.sizeOf217
  v229 := Tryz.zeroValue217 }
def Tryz.laysNm220_ren : Go.Shelf.Ren := ⟨fun | 20 => 76 | n => n, fun | 22 => 32 | 3 => 3 | 4 => 4 | 0 => 0 | n => n, fun | n => n⟩
theorem Tryz.laysNm220 : Go.Proofs.Lays2.n20 Tryz.prog Tryz.laysNm220_ren := {
  mixed := by kernel_rfl
  f20 := Tryz.func76.trans (congrArg some (by kernel_rfl))
  t0 := Tryz.underlying0
  a0 := Tryz.isAgg0
  z0 := Tryz.sizeOf0
  v0 := Tryz.zeroValue0
  t3 := Tryz.underlying3
  a3 := Tryz.isAgg3
  z3 := Tryz.sizeOf3
  v3 := Tryz.zeroValue3
  t4 := Tryz.underlying4
  a4 := Tryz.isAgg4
  z4 := Tryz.sizeOf4
  v4 := Tryz.zeroValue4
  t22 := Tryz.underlying32
  a22 := Tryz.isAgg32
  z22 := Tryz.sizeOf32
  v22 := Tryz.zeroValue32
  i3 := by kernel_rfl }
end Go.Proofs
namespace Go.Y
open Go.Proofs
theorem sorts75 : SortSays Tryz.Y.P 75 := ⟨fun blk off cap zs w h1 h2 h3 => Any.slices_Sort_int Tryz.lays189 blk off cap zs w h1 h2 h3, fun w => Any.slices_Sort_int_none Tryz.lays189 none 0 w⟩
theorem compacts76 : CompactSays Tryz.Y.P 76 := ⟨fun blk off cap zs w h1 h2 h3 => Any.slices_Compact_int Tryz.laysNm220 blk off cap zs w h1 h2 h3, fun w => Any.slices_Compact_int_empty Tryz.laysNm220 none 0 w⟩
end Go.Y

/- For every two texts of expressions and every text 'souffleurlaw35.NfaJoins' returns true, and its arguments read behind the call as they read before. Conditions: none beyond the given statement's own (three package variables start as the program's text lays them: the card ties them). -/
namespace Go.Proofs.YteennilbmmlikaaGreatDoor
open Go.ChangeShapes Go.WideShapes Go.ChangeAt Go.RowKit Go.Y
open Go.Proofs
set_option linter.unusedVariables false
set_option maxRecDepth 100000

theorem own : ownKnob Tryz.prog.godebug = none := by kernel_rfl
theorem laidOut : laidOutB Tryz.prog = true := by kernel_rfl
theorem shp9 {n : Nat} {vs : List V} (h : Shp Tryz.Y n 9 vs) : ∃ s : List UInt8, vs = [.s s] := by
  obtain ⟨s, h, _⟩ := shp_str (by kernel_rfl) h
  exact ⟨s, h⟩
theorem served9 : ∀ n, servedB Tryz.Y n 9 = true
  | 0 => by kernel_rfl
  | n + 1 => by kernel_rfl
theorem lawAll (a b s : List UInt8) : PCon Tryz.Y 3 [.s a, .s b, .s s] (· = .b true) := joins3 sorts75 compacts76 (awake35 sorts75 compacts76) a b s

theorem door_met (os : Os) (args : Array Value) : laidMetH Tryz.prog Rows.nfaJoinsRow.laid ((World.doorLaid Tryz.prog 400 os).forCall (fun _ _ => 0) ⟨#[], args, []⟩).memory :=
  laidMetH_of_parts3 (fuel := 8) (laidMet_of_run' 8 (by kernel_rfl) (by kernel_rfl)) (by kernel_rfl) (by kernel_rfl)

theorem lifted3 (os : Os) (started : os.Started) (H : Type) (enc : TypeId × Value → H) :
    ReturnsInHanded {} Tryz.checked os 3 .any (fun w args => (Rows.nfaJoinsSpec.pre enc Tryz.prog Tryz.f3 [] false w args ∧ laidMetH Tryz.prog Rows.nfaJoinsRow.laid w) ∧ sizedMet enc Tryz.prog Tryz.f3 (OpenSpec.ofChange Rows.nfaJoinsSpec) false w args)
      (Rows.nfaJoinsSpec.post enc Tryz.prog Tryz.f3 false true false false) := by
  refine returnsInHanded_of_change_and (C := Tryz.checked) (X := fun w _ => laidMetH Tryz.prog Rows.nfaJoinsRow.laid w) (fun _ _ _ hh h => h.of_heap hh) own started (by kernel_rfl) Tryz.func3
    (ChangeSpec.witness_shaped (enc := enc) (C := Tryz.checked) (os := os) (X := fun w _ => laidMetH Tryz.prog Rows.nfaJoinsRow.laid w) false (World.doorLaid Tryz.prog 400 os) #[.string ⟨#[]⟩, .string ⟨#[]⟩, .string ⟨#[]⟩] 8 rfl (World.shaped_of_RefB (by kernel_rfl) (by kernel_rfl)) (by kernel_rfl) (by kernel_rfl) (by kernel_rfl) (door_met os _)) ?_
  intro W base args ds gs before hval0 hW hcnd _ hlaid _
  have hval : ∀ (j : Nat) t v, Tryz.f3.params[j]? = some t → args[j]? = some v → Value.okWide Tryz.prog W .any base t v := hval0
  have hW' := hW
  obtain ⟨p, q, hA0, hV, rfl, hfz, hnd⟩ := hW
  have hA : DataW.TrodAll enc Tryz.prog W 0 (fun _ => true) true Tryz.f3.params.toList args.toList ds p := hA0
  rw [Tryz.params3] at hA hval
  obtain ⟨v0, vs0, d0, ds0, p0, q0, hargs, rfl, rfl, h0, r0⟩ := trodAll_cons hA
  obtain ⟨v1, vs1, d1, ds1, p1, q1, rfl, rfl, rfl, h1, r1⟩ := trodAll_cons r0
  obtain ⟨v2, vs2, d2, ds2, p2, q2, rfl, rfl, rfl, h2, r2⟩ := trodAll_cons r1
  obtain ⟨rfl, rfl, rfl⟩ := trodAll_nil r2
  obtain rfl : args = #[v0, v1, v2] := by cases args; simp_all
  obtain ⟨rfl, rfl⟩ := trodVars_none hV
  obtain ⟨z0, rfl⟩ := okWide_string Tryz.underlying9 (hval 0 9 v0 rfl rfl)
  obtain ⟨z1, rfl⟩ := okWide_string Tryz.underlying9 (hval 1 9 v1 rfl rfl)
  obtain ⟨z2, rfl⟩ := okWide_string Tryz.underlying9 (hval 2 9 v2 rfl rfl)
  have k0 := h0
  have lt0 : ∀ x ∈ p0, x.block < W.heap.size := by obtain ⟨m, hm⟩ := k0; exact DataW.trod_lt m _ _ _ hm
  have k1 := h1
  have lt1 : ∀ x ∈ p1, x.block < W.heap.size := by obtain ⟨m, hm⟩ := k1; exact DataW.trod_lt m _ _ _ hm
  have k2 := h2
  have lt2 : ∀ x ∈ p2, x.block < W.heap.size := by obtain ⟨m, hm⟩ := k2; exact DataW.trod_lt m _ _ _ hm
  obtain ⟨x0, hl0⟩ : ∃ x : List UInt8, VR (inW W) (V.s x) (.string z0) := by
    obtain ⟨fuel, hf⟩ := h0
    obtain ⟨vs, h1, h2⟩ := trod_vr Tryz.Yok fuel 9 _ _ (served9 fuel) hf
    obtain ⟨x, rfl⟩ := shp9 h2
    cases h1 with | cons _ _ _ _ h3 h4 => exact ⟨x, h3⟩
  obtain ⟨x1, hl1⟩ : ∃ x : List UInt8, VR (inW W) (V.s x) (.string z1) := by
    obtain ⟨fuel, hf⟩ := h1
    obtain ⟨vs, h1, h2⟩ := trod_vr Tryz.Yok fuel 9 _ _ (served9 fuel) hf
    obtain ⟨x, rfl⟩ := shp9 h2
    cases h1 with | cons _ _ _ _ h3 h4 => exact ⟨x, h3⟩
  obtain ⟨x2, hl2⟩ : ∃ x : List UInt8, VR (inW W) (V.s x) (.string z2) := by
    obtain ⟨fuel, hf⟩ := h2
    obtain ⟨vs, h1, h2⟩ := trod_vr Tryz.Yok fuel 9 _ _ (served9 fuel) hf
    obtain ⟨x, rfl⟩ := shp9 h2
    cases h1 with | cons _ _ _ _ h3 h4 => exact ⟨x, h3⟩
  clear hA0 hval0
  refine ((lawAll x0 x1 x2).calls (fun p hp => by cases hp) (.cons _ _ _ _ hl0 (.cons _ _ _ _ hl1 (.cons _ _ _ _ hl2 .nil)))).mono fun e W' ⟨he, bel⟩ => ?_
  subst he
  exact ⟨_, rfl, _, _, _, [], _, [], hW', trodAll_mk1 (shut_bool Tryz.underlying4 _), (trodAll_cons_mk (Below.trod laidOut (by kernel_rfl) (of_decide_eq_true (by kernel_rfl)) k0 bel lt0) (trodAll_cons_mk (Below.trod laidOut (by kernel_rfl) (of_decide_eq_true (by kernel_rfl)) k1 bel lt1) (trodAll_cons_mk (Below.trod laidOut (by kernel_rfl) (of_decide_eq_true (by kernel_rfl)) k2 bel lt2) trodAll_mk0))), rfl, bel.frame _, fun h => by cases h⟩

theorem nfaJoins_row_holds : Rows.NfaJoinsSaid :=
  OpenClaim.holds_of_wide 3 Tryz.f3 rfl rfl rfl rfl rfl rfl rfl ⟨rfl, rfl, rfl, rfl, rfl⟩ rfl rfl rfl rfl rfl (by kernel_rfl) Tryz.func3 (by kernel_rfl)
    (of_decide_eq_true (by kernel_rfl)) (by unfold Func.isWrapper; first | (rw [if_pos (by decide +kernel)]; kernel_rfl) | (rw [if_neg (by decide +kernel)]; exact ⟨rfl, rfl⟩))
    (fun os started H enc _ => lifted3 os started H enc)
end Go.Proofs.YteennilbmmlikaaGreatDoor
