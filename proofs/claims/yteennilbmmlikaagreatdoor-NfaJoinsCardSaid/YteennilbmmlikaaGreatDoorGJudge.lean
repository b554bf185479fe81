/- ere.judge: may an expression be? By contracts. -/
import Derived.Test.YteennilbmmlikaaGreatDoorGSpot
import Derived.Test.YteennilbmmlikaaGreatDoorYTryzP
import Derived.Test.YteennilbmmlikaaGreatDoorYLoop
import Derived.Test.YteennilbmmlikaaGreatDoorGRule
namespace Go.Y
open Go.Proofs
set_option maxRecDepth 100000
set_option maxHeartbeats 1000000

def bareF (k : Int) (s : S4) (lo hi gn : Int) : Bool := (k == 1 || (s.1 == 0 && (s.2.1 == 0 && (s.2.2.1 == 0 && (s.2.2.2 == 0 && true))))) && (k == 6 || (lo == 0 && hi == 0)) && (k == 7 || gn == 0)
abbrev wrapI (x : Int) : Int := IntKind.i64.wrap x
def rightF : Re → Int → Int → Int → Option Int
  | .mk k s kids lo hi n, lv, dp, g =>
    if bareF k s lo hi n = false then none
    else if k = 0 then (if leI lv 1 && ((kids.length : Nat) : Int) == 0 then some g else none)
    else if k = 1 then (if ((kids.length : Nat) : Int) == 0 then some g else none)
    else if k = 2 ∨ k = 3 then (if leI lv 2 && ((kids.length : Nat) : Int) == 0 then some g else none)
    else if k = 4 then (if leI lv 1 && ltI 1 kids.length then kidsF kids 2 dp g else none)
    else if k = 5 then (if lv == 0 && ltI 1 kids.length then kidsF kids 1 dp g else none)
    else if k = 6 then (if leI 0 lo && leI lo 8 && (hi == -1 || (leI lo hi && leI hi 8)) && leI lv 2 && ((kids.length : Nat) : Int) == 1 then kidsF kids 3 dp g else none)
    else if k = 7 then (if (n == if ltI 9 (wrapI (g + 1)) then 0 else wrapI (g + 1)) && ltI dp 64 && ((kids.length : Nat) : Int) == 1 then kidsF kids 0 (wrapI (dp + 1)) (wrapI (g + 1)) else none)
    else none
where
  kidsF : List Re → Int → Int → Int → Option Int
    | [], _, _, g => some g
    | r :: l, lv, dp, g => match rightF r lv dp g with
      | none => none
      | some g' => kidsF l lv dp g'

abbrev JH (h : Heap) (id : Nat) (g : Int) : Prop := h.get id = some (.arr [.i .i64 g] true)
def JP (id : Nat) (o : Option Int) (v : V) (h' : Heap) : Prop := v = .b o.isSome ∧ ∀ g, o = some g → JH h' id g
structure JR (r : Re) : Prop where
  c : ∀ (lv dp g : Int) (h : Heap) (id : Nat), JH h id g → Con Tryz.Y 113 [.p (some (id, 0)), .agg (encRe r), .i .i64 lv, .i .i64 dp] h (JP id (rightF r lv dp g))

theorem bare_con {B : Nat} (hB : B < 2 ^ 20) (k : Int) (s : S4) (kids : List Re) (lo hi gn : Int) : PCon Tryz.Y 143 [.agg (encRe (.mk k s kids lo hi gn))] (· = .b (bareF k s lo hi gn)) := by
  rw [encRe_mk]
  refine tree_con Tryz.Yok (fn := Tryz.f143) (by kernel_rfl) (by kernel_rfl) rfl (fun K => f143_0 k s.1 s.2.1 s.2.2.1 s.2.2.2 (row encRe kids) kids.length lo hi gn .empty K) rfl ?_
  unfold bareF
  generalize (s.1 == 0 && (s.2.1 == 0 && (s.2.2.1 == 0 && (s.2.2.2 == 0 && true)))) = z
  cases k == 1 <;> cases z <;> cases k == 6 <;> cases lo == 0 <;> cases hi == 0 <;> cases k == 7 <;> exact finV1 (n := 37) (.inr rfl) rfl (.b _) (by simp)

theorem drop_get {l : List Re} {i : Nat} (hi : i < l.length) : l.drop i = l[i] :: l.drop (i + 1) := (List.getElem_cons_drop hi).symm
theorem kids_con {B : Nat} (hB : B < 2 ^ 20) {kids : List Re} (hl : kids.length ≤ B) (ih : ∀ x ∈ kids, JR x) (lv dp g : Int) {h : Heap} {id : Nat} (hj : JH h id g) :
    Con Tryz.Y 144 [.p (some (id, 0)), lst encRe kids, .i .i64 lv, .i .i64 dp] h (JP id (rightF.kidsF kids lv dp g)) := by
  refine conz_of Tryz.Yok (fn := Tryz.f144) (by kernel_rfl) (by kernel_rfl) (pre_tree Tryz.Yok 24 (fun K => f144_0 id (row encRe kids) kids.length lv dp h K) rfl (by kernel_rfl) ?_)
  refine ⟨rfl, loop2 [0, 2, 3, 11, 12, 13] [0, 2, 3, 8, 11, 12, 13] rfl (by kernel_rfl) (fun m vs h' => ∃ (i : Nat) (g' : Int), vs = [.p (some (id, 0)), .i .i64 lv, .i .i64 dp, lst encRe kids, .i .i64 kids.length, .i .i64 (i : Nat)] ∧ i ≤ kids.length ∧ m = kids.length - i ∧ JH h' id g' ∧ rightF.kidsF kids lv dp g = rightF.kidsF (kids.drop i) lv dp g') kids.length mk_len ⟨0, g, rfl, by omega, by omega, hj, rfl⟩ ?_⟩
  rintro m vs h' ⟨i, g', rfl, hi, rfl, hj', he⟩
  refine all_tree Tryz.Yok (fun K => f144_1 id (row encRe kids) kids.length lv dp (i : Nat) h' K) rfl ?_
  refine if_lt_nat (fun hlt => ?_) (fun hge => ?_)
  · have hc := (ih kids[i] (List.getElem_mem hlt)).c lv dp g' h' id hj'
    have hrow := re_row' hlt
    rw [drop_get hlt, rightF.kidsF] at he
    generalize kids[i] = x at hc hrow he
    obtain ⟨xk, xs, xl, xlo, xhi, xn⟩ := x
    rw [encRe_mk] at hc hrow
    generalize rightF (.mk xk xs xl xlo xhi xn) lv dp g' = o at hc he
    refine ⟨bnd_nat hlt, _, _, _, _, _, _, _, _, _, _, _, hrow, hc.mono fun v h2 ⟨e1, e2⟩ => ⟨_, e1, if_mk (fun hb => ?_) (fun hb => ?_)⟩⟩
    · have ho : o = none := by cases o with
        | none => rfl
        | some y => cases hb
      subst ho
      exact fin_at (.inr rfl) rfl (AfterZ.now ⟨by rw [he]; rfl, fun y hy => by rw [he] at hy; cases hy⟩)
    · cases o with
      | none => cases hb
      | some y => exact ⟨rfl, kids.length - (i + 1), by omega, i + 1, y, by rw [wrap_succ (by omega)]; rfl, by omega, rfl, e2 y rfl, he⟩
  · have hi' : i = kids.length := by omega
    subst hi'
    rw [List.drop_length, rightF.kidsF] at he
    refine roundW_exit [] (by kernel_rfl) rfl rfl ?_
    refine end_tree Tryz.Yok (fun K => f144_2 h' K) rfl ?_
    exact finC (.inr rfl) rfl (.now ⟨by rw [he]; rfl, fun y hy => by rw [he] at hy; cases hy; exact hj'⟩)
theorem jp_none {id : Nat} {h : Heap} {b : Bool} (hb : b = false) : JP id none (.b b) h := ⟨by rw [hb]; rfl, fun _ e => by cases e⟩
theorem jp_if {id : Nat} {h : Heap} {g : Int} (hj : JH h id g) (b : Bool) : JP id (if b = true then some g else none) (.b b) h := by
  cases b
  · exact jp_none rfl
  · exact ⟨rfl, fun y e => by cases e; exact hj⟩
theorem group_con {B : Nat} (hB : B < 2 ^ 20) {k : Int} {s : S4} {kids : List Re} {lo hi n : Int} (hl : kids.length ≤ B) (ih : ∀ x ∈ kids, JR x) (dp g : Int) {h : Heap} {id : Nat} (hj : JH h id g) :
    Con Tryz.Y 145 [.p (some (id, 0)), .agg (encRe (.mk k s kids lo hi n)), .i .i64 dp] h (JP id (if (n == if ltI 9 (wrapI (g + 1)) then 0 else wrapI (g + 1)) && ltI dp 64 && ((kids.length : Nat) : Int) == 1 then rightF.kidsF kids 0 (wrapI (dp + 1)) (wrapI (g + 1)) else none)) := by
  rw [encRe_mk]
  refine conz_of Tryz.Yok (fn := Tryz.f145) (by kernel_rfl) (by kernel_rfl) (end_tree Tryz.Yok (fun K => f145_0 id k s.1 s.2.1 s.2.2.1 s.2.2.2 (row encRe kids) kids.length lo hi n dp h K) rfl ?_)
  have hc : hcells h id 0 1 = some [.i .i64 g] := by rw [hcells_of hj]; rfl
  have hg2 : JH (h.set id (some (.arr [.i .i64 (wrapI (g + 1))] true))) id (wrapI (g + 1)) := by rw [JH, Heap.get_set, if_pos rfl]
  refine ⟨g, hc, h.set id (some (.arr [.i .i64 (wrapI (g + 1))] true)), by simp [hstore, hj, splice, wrapI], wrapI (g + 1), by rw [hcells_of hg2]; rfl, ?_⟩
  have hk := kids_con hB hl ih 0 (wrapI (dp + 1)) (wrapI (g + 1)) hg2
  have no : ∀ {b : Bool}, b = false → Fin Tryz.Y Tryz.f145 [6] (AfterZ (JP id (if b = true then rightF.kidsF kids 0 (wrapI (dp + 1)) (wrapI (g + 1)) else none))) .ret 43 [.b false] (h.set id (some (.arr [.i .i64 (wrapI (g + 1))] true))) := fun hb => by
    subst hb
    exact finC (.inr rfl) rfl (.now (jp_none rfl))
  have yes : ∀ {b : Bool}, b = true → Con Tryz.Y 144 [.p (some (id, 0)), lst encRe kids, .i .i64 0, .i .i64 (wrapI (dp + 1))] (h.set id (some (.arr [.i .i64 (wrapI (g + 1))] true))) fun v h' => ∃ b', v = .b b' ∧ Fin Tryz.Y Tryz.f145 [6] (AfterZ (JP id (if b = true then rightF.kidsF kids 0 (wrapI (dp + 1)) (wrapI (g + 1)) else none))) .ret 43 [.b b'] h' := fun hb => by
    subst hb
    exact hk.mono fun v h' ⟨e1, e2⟩ => ⟨_, e1, finC (.inr rfl) rfl (.now ⟨rfl, e2⟩)⟩
  refine if_mk (fun q9 => ?_) (fun q9 => ?_) <;> rw [q9]
  · refine if_mk (fun qn => if_mk (fun qd => if_mk (fun q1 => yes ?_) (fun q1 => no ?_)) (fun qd => no ?_)) (fun qn => no ?_)
    all_goals simp_all
  · refine if_mk (fun qn => if_mk (fun qd => if_mk (fun q1 => yes ?_) (fun q1 => no ?_)) (fun qd => no ?_)) (fun qn => no ?_)
    all_goals simp_all

theorem right_one {B : Nat} (hB : B < 2 ^ 20) {k : Int} {s : S4} {kids : List Re} {lo hi n : Int} (hl : kids.length ≤ B) (ih : ∀ x ∈ kids, JR x) : JR (.mk k s kids lo hi n) := by
  refine ⟨fun lv dp g h id hj => ?_⟩
  have hbc := bare_con hB k s kids lo hi n
  have hgc := group_con hB (k := k) (s := s) (lo := lo) (hi := hi) (n := n) hl ih dp g hj
  rw [encRe_mk] at hbc hgc ⊢
  rw [rightF]
  refine conz_of Tryz.Yok (fn := Tryz.f113) (by kernel_rfl) (by kernel_rfl) (end_tree Tryz.Yok (fun K => f113_0 id k s.1 s.2.1 s.2.2.1 s.2.2.2 (row encRe kids) kids.length lo hi n lv dp h K) rfl ?_)
  refine ⟨_, hbc, ?_⟩
  generalize bareF k s lo hi n = bb
  have fin : ∀ {o : Option Int} {b : Bool}, JP id o (.b b) h → Fin Tryz.Y Tryz.f113 [8] (AfterZ (JP id o)) .ret 127 [.b b] h := fun hp => finC (.inr rfl) rfl (.now hp)
  have kid : ∀ (l : Int), Con Tryz.Y 144 [.p (some (id, 0)), lst encRe kids, .i .i64 l, .i .i64 dp] h fun v h' => ∃ b', v = .b b' ∧ Fin Tryz.Y Tryz.f113 [8] (AfterZ (JP id (rightF.kidsF kids l dp g))) .ret 127 [.b b'] h' := fun l =>
    (kids_con hB hl ih l dp g hj).mono fun v h' ⟨e1, e2⟩ => ⟨_, e1, finC (.inr rfl) rfl (.now ⟨rfl, e2⟩)⟩
  refine if_mk (fun hb => ?_) (fun hb => ?_)
  · have hb : bb = false := by simpa using hb
    rw [if_pos hb]
    exact fin (jp_none rfl)
  have hb : bb = true := by simpa using hb
  rw [if_neg (by simp [hb])]
  clear hb hbc
  have kk : ∀ {x : Int} {b : Bool}, (k == x) = b → (b = true ↔ k = x) := fun e => by rw [← e]; simp
  refine if_mk (fun k0 => ?_) (fun k0 => ?_)
  · rw [if_pos ((kk k0).1 rfl)]
    refine if_mk (fun h1 => ?_) (fun h1 => ?_) <;> rw [h1]
    · exact fin (jp_if hj _)
    · exact fin (jp_none rfl)
  rw [if_neg (fun e => by cases (kk k0).2 e)]
  refine if_mk (fun k1 => ?_) (fun k1 => ?_)
  · rw [if_pos ((kk k1).1 rfl)]
    exact fin (jp_if hj _)
  rw [if_neg (fun e => by cases (kk k1).2 e)]
  refine if_mk (fun k2 => ?_) (fun k2 => ?_)
  · rw [if_pos (.inl ((kk k2).1 rfl))]
    refine if_mk (fun h1 => ?_) (fun h1 => ?_) <;> rw [h1]
    · exact fin (jp_if hj _)
    · exact fin (jp_none rfl)
  refine if_mk (fun k3 => ?_) (fun k3 => ?_)
  · rw [if_pos (.inr ((kk k3).1 rfl))]
    refine if_mk (fun h1 => ?_) (fun h1 => ?_) <;> rw [h1]
    · exact fin (jp_if hj _)
    · exact fin (jp_none rfl)
  rw [if_neg (fun e => by rcases e with e | e; · cases (kk k2).2 e
                          · cases (kk k3).2 e)]
  refine if_mk (fun k4 => ?_) (fun k4 => ?_)
  · rw [if_pos ((kk k4).1 rfl)]
    refine if_mk (fun h1 => ?_) (fun h1 => ?_) <;> rw [h1]
    · refine if_mk (fun h2 => ?_) (fun h2 => ?_) <;> rw [h2]
      · exact kid 2
      · exact fin (jp_none rfl)
    · exact fin (jp_none rfl)
  rw [if_neg (fun e => by cases (kk k4).2 e)]
  refine if_mk (fun k5 => ?_) (fun k5 => ?_)
  · rw [if_pos ((kk k5).1 rfl)]
    refine if_mk (fun h1 => ?_) (fun h1 => ?_) <;> rw [h1]
    · refine if_mk (fun h2 => ?_) (fun h2 => ?_) <;> rw [h2]
      · exact kid 1
      · exact fin (jp_none rfl)
    · exact fin (jp_none rfl)
  rw [if_neg (fun e => by cases (kk k5).2 e)]
  refine if_mk (fun k6 => ?_) (fun k6 => ?_)
  · rw [if_pos ((kk k6).1 rfl)]
    have no : Fin Tryz.Y Tryz.f113 [8] (AfterZ (JP id none)) .ret 127 [.b false] h := fin (jp_none rfl)
    refine if_mk (fun h1 => ?_) (fun h1 => ?_) <;> rw [h1]
    · refine if_mk (fun h2 => ?_) (fun h2 => ?_) <;> rw [h2]
      · refine if_mk (fun h3 => ?_) (fun h3 => ?_) <;> rw [h3]
        · refine if_mk (fun h4 => ?_) (fun h4 => ?_) <;> rw [h4]
          · refine if_mk (fun h5 => ?_) (fun h5 => ?_) <;> rw [h5]
            · exact kid 3
            · exact no
          · exact no
        · refine if_mk (fun h4 => ?_) (fun h4 => ?_) <;> rw [h4]
          · refine if_mk (fun h5 => ?_) (fun h5 => ?_) <;> rw [h5]
            · refine if_mk (fun h6 => ?_) (fun h6 => ?_) <;> rw [h6]
              · refine if_mk (fun h7 => ?_) (fun h7 => ?_) <;> rw [h7]
                · exact kid 3
                · exact no
              · exact no
            · rw [Bool.and_false]; exact no
          · refine if_mk (fun h5 => ?_) (fun h5 => ?_) <;> rw [h5] <;> exact no
      · refine if_mk (fun h5 => ?_) (fun h5 => ?_) <;> rw [h5] <;> exact no
    · refine if_mk (fun h5 => ?_) (fun h5 => ?_) <;> rw [h5] <;> exact no
  rw [if_neg (fun e => by cases (kk k6).2 e)]
  refine if_mk (fun k7 => ?_) (fun k7 => ?_)
  · rw [if_pos ((kk k7).1 rfl)]
    exact hgc.mono fun v h' ⟨e1, e2⟩ => ⟨_, e1, finC (.inr rfl) rfl (.now ⟨rfl, e2⟩)⟩
  rw [if_neg (fun e => by cases (kk k7).2 e)]
  exact fin (jp_none rfl)

mutual
theorem rightX {B : Nat} (hB : B < 2 ^ 20) : ∀ r : Re, wfRe B r → JR r
  | .mk k s kids lo hi n, h => by
    rw [wfRe] at h
    exact right_one hB h.2.2.1 (rightsX hB kids h.2.2.2)
theorem rightsX {B : Nat} (hB : B < 2 ^ 20) : ∀ l : List Re, wfRe.wfRes B l → ∀ x ∈ l, JR x
  | [], _, x, hx => by cases hx
  | r :: l, h, x, hx => by
    rw [wfRe.wfRes] at h
    have h1 := rightX hB r h.1
    have h2 := rightsX hB l h.2
    rcases List.mem_cons.1 hx with e | hx
    · exact e ▸ h1
    · exact h2 x hx
end
end Go.Y

/- What the pieces of functions come to: printed by program. -/
namespace Go.Y
open Go.Proofs
set_option maxRecDepth 100000
set_option maxHeartbeats 0
theorem f26_0 (cs0Sets : List V) (n0Sets : Nat) (cs0First : List V) (n0First : Nat) (cs0Last : List V) (n0Last : Nat) (cs0Follow : List V) (n0Follow : Nat) (b0Empty : Bool) (h : Heap) (K : KT) : (codeP Tryz.Y (Tryz.Y.loc 26) 100 ((flat (bodyOf Tryz.f26))) ⟨(V.agg [V.ts cs0Sets n0Sets none, V.ts cs0First n0First none, V.ts cs0Last n0Last none, V.ts cs0Follow n0Follow none, V.b b0Empty] :: List.replicate 34 .undef), [], h⟩ (VQ [2] K)) =
  (∃ (h_1 : Heap),
  hstore (h.pushT (Tryz.Y.tag (3 : Nat)) (YObj.arr [V.i IntKind.i64 (0 : Int)] true)) h.nx 0
 [V.i IntKind.i64 (↑n0Sets : Int)] =
 some h_1 ∧
 ∃ (n : Int),
 hcells h_1 h.nx 0 1 = some [V.i IntKind.i64 n] ∧
 If (ltI (300 : Int) n) (K Out.ret 35 [V.b false] h_1)
 (∃ (n : Int),
 hcells h_1 h.nx 0 1 = some [V.i IntKind.i64 n] ∧
 If ((↑n0Follow : Int) != n) (K Out.ret 35 [V.b false] h_1)
 (∃ (n : Int),
 hcells h_1 h.nx 0 1 = some [V.i IntKind.i64 n] ∧
 ∃ (b : Bool),
 (PCon Tryz.Y (64 : Nat) [V.ts cs0First n0First none, V.i IntKind.i64 n] fun (v : V) =>
 v = V.b b) ∧
 If (!b) (K Out.ret 35 [V.b false] h_1)
 (∃ (n : Int),
 hcells h_1 h.nx 0 1 = some [V.i IntKind.i64 n] ∧
 ∃ (b : Bool),
 (PCon Tryz.Y (64 : Nat) [V.ts cs0Last n0Last none, V.i IntKind.i64 n] fun (v : V) =>
 v = V.b b) ∧
 If (!b) (K Out.ret 35 [V.b false] h_1)
 (Con Tryz.Y (65 : Nat)
 [V.ts cs0Follow n0Follow none,
 V.fn (Fn.func (66 : Nat)) [] [V.p (some (h.nx, 0))]]
 h_1 fun (v : V) (h' : Heap) =>
 ∃ (b : Bool), v = V.b b ∧ K Out.ret 35 [V.b !b] h'))))) := by kernel_rfl
theorem f64_0 (cs0 : List V) (n0 : Nat) (x1 : Int) (h : Heap) (K : KT) : (codeP Tryz.Y (Tryz.Y.loc 64) 100 (pre (flat (bodyOf Tryz.f64))) ⟨(V.ts cs0 n0 none :: V.i IntKind.i64 x1 :: List.replicate 33 .undef), [], h⟩ (VQ [0, 1, 2, 7, 8, 9] K)) =
  (K Out.normal 35
  [V.ts cs0 n0 none, V.i IntKind.i64 x1, V.undef, V.ts cs0 n0 none, V.i IntKind.i64 (↑n0 : Int),
 V.i IntKind.i64 (0 : Int)]
  h) := by kernel_rfl
theorem f64_1 (cs0 : List V) (n0 : Nat) (x1 : Int) (x9 : Int) (h : Heap) (K : KT) : (codeP Tryz.Y (Tryz.Y.loc 64) 100 ((flat (loopB (post (flat (bodyOf Tryz.f64)))))) ⟨mk 35 (([0, 1, 2, 7, 8, 9] : List Nat).zip [V.ts cs0 n0 none, V.i IntKind.i64 x1, V.undef, V.ts cs0 n0 none, V.i IntKind.i64 (↑n0 : Int), V.i IntKind.i64 x9]), [], h⟩ (VQ [0, 1, 2, 4, 7, 8, 9] K)) =
  (If (ltI x9 (↑n0 : Int))
  (((0 : Int) ≤ x9 ∧ x9 < (↑n0 : Int)) ∧
 ∃ (n : Int),
 takeX 1 (List.drop (x9.toNat * (1 : Nat)) cs0) = some [V.i IntKind.i64 n] ∧
 If (ltI n (0 : Int))
 (K Out.ret 35
 [V.ts cs0 n0 none, V.i IntKind.i64 x1, V.undef, V.b false, V.ts cs0 n0 none, V.i IntKind.i64 (↑n0 : Int),
 V.i IntKind.i64 x9]
 h)
 (If (leI x1 n)
 (K Out.ret 35
 [V.ts cs0 n0 none, V.i IntKind.i64 x1, V.undef, V.b false, V.ts cs0 n0 none, V.i IntKind.i64 (↑n0 : Int),
 V.i IntKind.i64 x9]
 h)
 (If (ltI (0 : Int) x9)
 (((0 : Int) ≤ IntKind.i64.wrap (x9 - (1 : Int)) ∧ IntKind.i64.wrap (x9 - (1 : Int)) < (↑n0 : Int)) ∧
 ∃ (n_1 : Int),
 takeX 1 (List.drop ((IntKind.i64.wrap (x9 - (1 : Int))).toNat * (1 : Nat)) cs0) =
 some [V.i IntKind.i64 n_1] ∧
 If (leI n n_1)
 (K Out.ret 35
 [V.ts cs0 n0 none, V.i IntKind.i64 x1, V.undef, V.b false, V.ts cs0 n0 none,
 V.i IntKind.i64 (↑n0 : Int), V.i IntKind.i64 x9]
 h)
 (K Out.normal 35
 [V.ts cs0 n0 none, V.i IntKind.i64 x1, V.undef, V.undef, V.ts cs0 n0 none,
 V.i IntKind.i64 (↑n0 : Int), V.i IntKind.i64 (IntKind.i64.wrap (x9 + (1 : Int)))]
 h))
 (K Out.normal 35
 [V.ts cs0 n0 none, V.i IntKind.i64 x1, V.undef, V.undef, V.ts cs0 n0 none, V.i IntKind.i64 (↑n0 : Int),
 V.i IntKind.i64 (IntKind.i64.wrap (x9 + (1 : Int)))]
 h))))
  (K (Out.exit 0) 35
 [V.ts cs0 n0 none, V.i IntKind.i64 x1, V.undef, V.undef, V.ts cs0 n0 none, V.i IntKind.i64 (↑n0 : Int),
 V.i IntKind.i64 x9]
 h)) := by kernel_rfl
theorem f64_2  (h : Heap) (K : KT) : (codeP Tryz.Y (Tryz.Y.loc 64) 100 (((post (flat (bodyOf Tryz.f64))).drop 1)) ⟨mk 35 (([] : List Nat).zip []), [], h⟩ (VQ [4] K)) =
  (K Out.ret 35 [V.b true] h) := by kernel_rfl
end Go.Y

/- A loop that stands last, up to nil. -/
namespace Go.Y
section
variable {Y : YP}
def RoundEX (n : Nat) (so sl : List Nat) (I : Nat → List V → Heap → Prop) (m id : Nat) (Q : Out → St → Prop) (o : Out) (len : Nat) (vs : List V) (h : Heap) : Prop :=
  match o with
  | .normal => len = n ∧ ∃ m', m' < m ∧ ∃ vs', WkE (pick so sl vs) vs' ∧ I m' vs' h
  | .exit j => if j = id then AtV so Q .normal len vs h else AtV so Q (.exit j) len vs h
  | .ret => AtV so Q .ret len vs h

theorem loopE3 {n : Nat} (sl so : List Nat) {σ : St} {l : List Code} {Q : Out → St → Prop} (hsub : sl.all so.contains = true) (hl : isLoopE l = true) (I : Nat → List V → Heap → Prop) (m0 : Nat) (hn : σ.env.length = n)
    (h0 : ∃ vs', WkE (sl.map fun i => lv i σ) vs' ∧ I m0 vs' σ.h)
    (round : ∀ m vs h, I m vs h → TriL Y (flat (loopB l)) ⟨mk n (sl.zip vs), [], h⟩ (VQ so (RoundEX n so sl I m (loopId l) Q))) : TriL Y l σ Q := by
  rw [isLoopE_eq hl]
  refine triL_block (tri_loop (fun m τ => τ.env.length = n ∧ ∃ vs', WkE (sl.map fun i => lv i τ) vs' ∧ I m vs' τ.h) (n := m0) ⟨hn, h0⟩ ?_)
  rintro m τ ⟨hτ, vs', hw, hI⟩
  have hr := triL_flat (c := loopB l) (r := []) (by rw [List.append_nil]; exact round m _ _ hI)
  refine (tri_view hτ rfl rfl (tri_wk (hw.mk sl) hr)).mono ?_
  intro o σ' ho
  cases o with
  | normal =>
    obtain ⟨h1, m', h2, vs2, h3, h4⟩ := ho
    exact ⟨m', h2, h1, vs2, by rw [pick_ok hsub rfl]; exact h3, h4⟩
  | exit j =>
    have ho : RoundEX n so sl I m (loopId l) Q (.exit j) σ'.env.length (so.map fun i => lv i σ') σ'.h := ho
    simp only [RoundEX] at ho
    by_cases hj : j = loopId l
    · rw [if_pos hj] at ho
      simp only [if_pos hj]
      exact ho σ' rfl rfl rfl
    · rw [if_neg hj] at ho
      simp only [if_neg hj]
      exact ho σ' rfl rfl rfl
  | ret => exact ho σ' rfl rfl rfl
theorem roundEX_exit {n : Nat} {so sl : List Nat} {I : Nat → List V → Heap → Prop} {m id j : Nat} {Q : Out → St → Prop} {len : Nat} {vs : List V} {h : Heap} (hj : j = id) (hk : AtV so Q .normal len vs h) : RoundEX n so sl I m id Q (.exit j) len vs h := by
  simp only [RoundEX]
  rw [if_pos hj]
  exact hk
end
end Go.Y
