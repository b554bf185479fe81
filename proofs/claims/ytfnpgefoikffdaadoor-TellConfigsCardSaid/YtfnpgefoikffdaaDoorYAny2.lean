/- Regions that draw their order: whatever order. -/
import Derived.Test.YtfnpgefoikffdaaDoorYAny
namespace Go.Y
section
variable {Y : YP} {loc : Nat → Bool} {ops : Array Oper}

/-! ### Who waits for whom -/
theorem foldl_mask (masks : List Nat) (i : Nat) : ∀ (es : List Edge) (m : Nat), (es.foldl (fun m e => if Region.binds .any e then m ||| (1 <<< e.on) ||| masks.getD e.on 0 else m) m).testBit i = true →
    m.testBit i = true ∨ ∃ e ∈ es, Region.binds .any e = true ∧ (e.on = i ∨ (masks.getD e.on 0).testBit i = true)
  | [], m, h => .inl h
  | e :: es, m, h => by
    simp only [List.foldl_cons] at h
    rcases foldl_mask masks i es _ h with h1 | ⟨e', h1, h2⟩
    · split at h1
      · rename_i hb
        simp only [Nat.testBit_or, Bool.or_eq_true] at h1
        rcases h1 with (h1 | h1) | h1
        · exact .inl h1
        · refine .inr ⟨e, by simp, hb, .inl ?_⟩
          rw [Nat.one_shiftLeft, Nat.testBit_two_pow] at h1
          simpa using h1
        · exact .inr ⟨e, by simp, hb, .inr h1⟩
      · exact .inl h1
    · exact .inr ⟨e', by simp [h1], h2⟩

theorem maskOf_spec {masks : List Nat} {o : Oper} {i : Nat} (h : (maskOf masks o).testBit i = true) : ∃ e ∈ o.after, Region.binds .any e = true ∧ (e.on = i ∨ (masks.getD e.on 0).testBit i = true) := by
  rcases foldl_mask masks i _ _ h with h1 | ⟨e, h1, h2⟩
  · simp at h1
  · exact ⟨e, by simpa using h1, h2⟩

theorem masksOf_pre : ∀ (os : List Oper) (ms : List Nat), (masksOf ms os).take ms.length = ms
  | [], ms => by simp [masksOf]
  | o :: r, ms => by
    have := masksOf_pre r (ms ++ [maskOf ms o])
    simp only [masksOf]
    have h2 := congrArg (List.take ms.length) this
    rw [List.take_take, List.length_append, Nat.min_eq_left (by simp), List.take_left'] at h2
    · exact h2
    · rfl

theorem masksOf_at : ∀ (os : List Oper) (ms : List Nat) (j : Nat) (o : Oper), os[j]? = some o → (masksOf ms os).getD (ms.length + j) 0 = maskOf ((masksOf ms os).take (ms.length + j)) o
  | [], ms, j, o, h => by simp at h
  | o' :: r, ms, 0, o, h => by
    simp at h; subst h
    simp only [masksOf, Nat.add_zero]
    have h1 := masksOf_pre r (ms ++ [maskOf ms o'])
    have h2 := congrArg (List.take ms.length) h1
    rw [List.take_take, List.length_append, Nat.min_eq_left (by simp), List.take_left' rfl] at h2
    rw [h2]
    have h3 := congrArg (fun l => l[ms.length]?) h1
    simp only [List.length_append, List.length_cons, List.length_nil, Nat.zero_add] at h3
    rw [List.getElem?_take] at h3
    simp at h3
    rw [List.getD_eq_getElem?_getD, h3]
    rfl
  | o' :: r, ms, j + 1, o, h => by
    have := masksOf_at r (ms ++ [maskOf ms o']) j o (by simpa using h)
    simp only [List.length_append, List.length_cons, List.length_nil, Nat.zero_add] at this
    simp only [masksOf]
    have e : ms.length + (j + 1) = ms.length + 1 + j := by omega
    rw [e]
    exact this

theorem chkFrom_at {all : List Oper} {fs : List Foot} {ms : List Nat} : ∀ (os : List Oper) (l : List Foot) (j : Nat), chkFrom ops all fs ms j os l = true → ∀ (i : Nat) (o : Oper) (f : Foot), os[i]? = some o → l[i]? = some f →
    chk1 ops o f (ms.getD (j + i) 0) 0 (all.take (j + i)) (fs.take (j + i)) = true ∧ ∀ e ∈ o.after, Region.binds .any e = true → e.on < j + i
  | [], _, _, _, i, _, _, h1, _ => by simp at h1
  | _ :: _, [], _, _, i, _, _, _, h2 => by simp at h2
  | o' :: r, f' :: l, j, h, 0, o, f, h1, h2 => by
    simp only [chkFrom, Bool.and_eq_true] at h
    simp at h1 h2; subst h1 h2
    refine ⟨h.1.1, fun e he hb => ?_⟩
    have := List.all_eq_true.1 h.1.2 e (by simpa using he)
    rw [hb] at this
    simpa using this
  | o' :: r, f' :: l, j, h, i + 1, o, f, h1, h2 => by
    simp only [chkFrom, Bool.and_eq_true] at h
    have := chkFrom_at r l (j + 1) h.2 i o f (by simpa using h1) (by simpa using h2)
    have e : j + (i + 1) = j + 1 + i := by omega
    rw [e]; exact this

theorem chk1_at {oj : Oper} {fj : Foot} {m : Nat} : ∀ (os : List Oper) (l : List Foot) (k : Nat), chk1 ops oj fj m k os l = true → ∀ (i : Nat) (o : Oper) (f : Foot), os[i]? = some o → l[i]? = some f →
    clash ops o oj f fj = true → m.testBit (k + i) = true
  | [], _, _, _, i, _, _, h1, _, _ => by simp at h1
  | _ :: _, [], _, _, i, _, _, _, h2, _ => by simp at h2
  | o' :: r, f' :: l, k, h, 0, o, f, h1, h2, hc => by
    simp only [chk1, Bool.and_eq_true] at h
    simp at h1 h2; subst h1 h2
    have := h.1
    rw [hc] at this
    simpa using this
  | o' :: r, f' :: l, k, h, i + 1, o, f, h1, h2, hc => by
    simp only [chk1, Bool.and_eq_true] at h
    have := chk1_at r l (k + 1) h.2 i o f (by simpa using h1) (by simpa using h2) hc
    have e : k + (i + 1) = k + 1 + i := by omega
    rw [e]; exact this

/-- All that an operation waits for directly is done. -/
def Closed (ops : Array Oper) (S : Nat → Bool) : Prop := ∀ (j : Nat) (o : Oper), ops[j]? = some o → S j = true → ∀ e ∈ o.after, Region.binds .any e = true → S e.on = true

/-- What was shown of the footprints. -/
structure Ord (ops : Array Oper) (l : List (Ef × Foot)) : Prop where
  cl : ∀ (S : Nat → Bool), Closed ops S → ∀ (i j : Nat) (oi oj : Oper) (xi xj : Ef × Foot), i < j → ops[i]? = some oi → ops[j]? = some oj → l[i]? = some xi → l[j]? = some xj → clash ops oi oj xi.2 xj.2 = true → S j = true → S i = true
  cr : ∀ (S : Nat → Bool), Closed ops S → ∀ (i j : Nat) (oi oj : Oper) (xi xj : Ef × Foot), i < j → ops[i]? = some oi → ops[j]? = some oj → l[i]? = some xi → l[j]? = some xj → clash ops oi oj xi.2 xj.2 = true → (∀ e ∈ oj.after, Region.binds .any e = true → S e.on = true) → S i = true
  lt : ∀ (j : Nat) (o : Oper), ops[j]? = some o → ∀ e ∈ o.after, Region.binds .any e = true → e.on < j

theorem ord_of {l : List (Ef × Foot)} (hl : l.length = ops.size) (h : chk ops (l.map (·.2)) = true) : Ord ops l := by
  unfold chk at h
  have hat : ∀ (j : Nat) (o : Oper), ops[j]? = some o → ∃ x, l[j]? = some x := by
    intro j o ho
    have : j < l.length := by
      rw [hl]; exact (Array.getElem?_eq_some_iff.1 ho).1
    exact ⟨l[j], by simp [this]⟩
  have hlt : ∀ (j : Nat) (o : Oper), ops[j]? = some o → ∀ e ∈ o.after, Region.binds .any e = true → e.on < j := by
    intro j o ho e he hb
    obtain ⟨x, hx⟩ := hat j o ho
    have := (chkFrom_at _ _ 0 h j o x.2 (by simpa using ho) (by simp [hx])).2 e he hb
    simpa using this
  have hmask : ∀ (S : Nat → Bool), Closed ops S → ∀ (j : Nat) (o : Oper) (i : Nat), ops[j]? = some o → (∀ e ∈ o.after, Region.binds .any e = true → S e.on = true) → ((masksOf [] ops.toList).getD j 0).testBit i = true → S i = true := by
    intro S hS j
    induction j using Nat.strongRecOn with
    | _ j ih =>
      intro o i ho hSj hb
      have h1 := masksOf_at ops.toList [] j o (by simpa using ho)
      simp only [List.length_nil, Nat.zero_add] at h1
      rw [h1] at hb
      obtain ⟨e, he, heb, h2⟩ := maskOf_spec hb
      have h3 := hSj e he heb
      have h4 := hlt j o ho e he heb
      rcases h2 with rfl | h2
      · exact h3
      · rw [List.getD_eq_getElem?_getD, List.getElem?_take, if_pos h4, ← List.getD_eq_getElem?_getD] at h2
        have hj : j < ops.size := (Array.getElem?_eq_some_iff.1 ho).1
        have h5 : ops[e.on]? = some ops[e.on] := by simp
        exact ih e.on h4 _ i h5 (hS e.on _ h5 h3) h2
  have hcr : ∀ (S : Nat → Bool), Closed ops S → ∀ (i j : Nat) (oi oj : Oper) (xi xj : Ef × Foot), i < j → ops[i]? = some oi → ops[j]? = some oj → l[i]? = some xi → l[j]? = some xj → clash ops oi oj xi.2 xj.2 = true → (∀ e ∈ oj.after, Region.binds .any e = true → S e.on = true) → S i = true := by
    intro S hS i j oi oj xi xj hij hoi hoj hxi hxj hc hSj
    have h1 := (chkFrom_at _ _ 0 h j oj xj.2 (by simpa using hoj) (by simp [hxj])).1
    have h2 := chk1_at _ _ 0 h1 i oi xi.2 (by rw [Nat.zero_add, List.getElem?_take, if_pos hij]; simpa using hoi) (by rw [Nat.zero_add, List.getElem?_take, if_pos hij]; simp [hxi]) hc
    simp only [Nat.zero_add] at h2
    exact hmask S hS j oj i hoj hSj h2
  exact ⟨fun S hS i j oi oj xi xj hij hoi hoj hxi hxj hc hSj => hcr S hS i j oi oj xi xj hij hoi hoj hxi hxj hc (hS j oj hoj hSj), hcr, hlt⟩

theorem sst_false : ∀ (k : Nat) (os : List Oper) (l : List (Ef × Foot)) (σ : St) (S : Nat → Bool), (∀ j, S (k + j) = false) → sst S k os l σ = σ
  | _, [], l, _, _, _ => by cases l <;> rfl
  | _, _ :: _, [], _, _, _ => rfl
  | k, o :: r, x :: l, σ, S, h => by
    simp only [sst]
    have h0 := h 0
    rw [Nat.add_zero] at h0
    rw [if_neg (by simp [h0])]
    exact sst_false (k + 1) r l σ S fun j => by have := h (j + 1); simpa [Nat.add_assoc, Nat.add_comm 1 j] using this

theorem sst_congr : ∀ (k : Nat) (os : List Oper) (l : List (Ef × Foot)) (σ : St) (S S' : Nat → Bool), (∀ j, j < os.length → S (k + j) = S' (k + j)) → sst S k os l σ = sst S' k os l σ
  | _, [], l, _, _, _, _ => by cases l <;> rfl
  | _, _ :: _, [], _, _, _, _ => rfl
  | k, o :: r, x :: l, σ, S, S', h => by
    simp only [sst]
    have h0 := h 0 (by simp)
    rw [Nat.add_zero] at h0
    rw [h0]
    exact sst_congr (k + 1) r l _ S S' fun j hj => by have := h (j + 1) (by simpa using hj); simpa [Nat.add_assoc, Nat.add_comm 1 j] using this

theorem refs_mem : ∀ (k : Nat) (os : List Oper) (l : List (Ef × Foot)) (σ : St) (S : Nat → Bool) (x : Nat × Nat × Nat), x ∈ (sst S k os l σ).refs ↔
    x ∈ σ.refs ∨ ∃ (j : Nat) (o : Oper) (y : Ef × Foot), os[j]? = some o ∧ l[j]? = some y ∧ S (k + j) = true ∧ o.dst = some x.1 ∧ y.1 = .q (.ref x.2.1 x.2.2)
  | _, [], l, σ, _, x => by cases l <;> simp [sst]
  | _, _ :: _, [], σ, _, x => by simp [sst]
  | k, o :: r, y :: l, σ, S, x => by
    simp only [sst]
    rw [refs_mem (k + 1) r l _ S x]
    have hh : x ∈ (if S k then y.1.app o.dst σ else σ).refs ↔ x ∈ σ.refs ∨ (S k = true ∧ o.dst = some x.1 ∧ y.1 = .q (.ref x.2.1 x.2.2)) := by
      cases hS : S k with
      | false => simp
      | true =>
        simp only [if_true, true_and]
        rw [app_refs]
        obtain ⟨x1, x2, x3⟩ := x
        split
        · rename_i s off d h1 h2
          simp only [List.mem_cons, Prod.mk.injEq, h1, h2, Option.some.injEq, Ef.q.injEq, Q.ref.injEq]
          constructor
          · rintro (⟨rfl, rfl, rfl⟩ | h)
            · exact .inr ⟨rfl, rfl, rfl⟩
            · exact .inl h
          · rintro (h | ⟨rfl, rfl, rfl⟩)
            · exact .inr h
            · exact .inl ⟨rfl, rfl, rfl⟩
        · rename_i hn
          constructor
          · exact .inl
          · rintro (h | ⟨h1, h2⟩)
            · exact h
            · exact (hn _ _ _ h2 h1).elim
    rw [hh]
    constructor
    · rintro ((h | ⟨h1, h2⟩) | ⟨j, o', y', h1, h2, h3, h4⟩)
      · exact .inl h
      · exact .inr ⟨0, o, y, rfl, rfl, by simpa using h1, h2⟩
      · exact .inr ⟨j + 1, o', y', by simpa using h1, by simpa using h2, by rw [← h3]; congr 1; omega, h4⟩
    · rintro (h | ⟨j, o', y', h1, h2, h3, h4⟩)
      · exact .inl (.inl h)
      · cases j with
        | zero => simp at h1 h2; subst h1 h2; exact .inl (.inr ⟨by simpa using h3, h4⟩)
        | succ j => exact .inr ⟨j, o', y', by simpa using h1, by simpa using h2, by rw [← h3]; congr 1; omega, h4⟩

/-- The same but for the order of its references. -/
theorem Rel.ext {W : Vw} {σ σ' : St} {a : Act} {w : World} (h : Rel W σ a w) (he : σ'.env = σ.env) (hh : σ'.h = σ.h) (hr : ∀ x, x ∈ σ'.refs → x ∈ σ.refs) : Rel W σ' a w := by
  obtain ⟨e, r, hp⟩ := σ
  obtain ⟨e', r', hp'⟩ := σ'
  simp only at he hh hr
  subst he hh
  exact ⟨h.heap, h.size, h.env, h.box, fun d s o hm => h.refs d s o (hr _ hm), h.defers⟩

theorem env_ext {l m : List V} (hl : l.length = m.length) (h : ∀ t, l.getD t .undef = m.getD t .undef) : l = m := by
  apply List.ext_getElem hl
  intro i h1 h2
  have := h i
  simp only [List.getD_eq_getElem?_getD, List.getElem?_eq_getElem h1, List.getElem?_eq_getElem h2] at this
  simpa using this

theorem guardY_local {env env' : List V} {o : Oper} {j : Nat} {want : Bool} (hg : o.guard = some (j, want)) {d : Nat} (hd : (ops[j]?).bind (·.dst) = some d) (h : Agr (env.getD d .undef) (env'.getD d .undef)) : guardY ops env' o = guardY ops env o := by
  simp only [guardY, hg, hd]
  rcases h with h | ⟨a, b, h1, h2⟩
  · rw [h]
  · rw [h1, h2]

theorem looks_tmp {o : Oper} {t : Nat} (h : t ∈ tmpsOf o) : t ∈ o.looksAt ops := List.mem_append_left _ h
theorem looks_guard {o : Oper} {j : Nat} {want : Bool} (hg : o.guard = some (j, want)) {d : Nat} (hd : (ops[j]?).bind (·.dst) = some d) : d ∈ o.looksAt ops := by
  unfold Oper.looksAt
  rw [hg]
  exact List.mem_append_right _ (by simp [hd])

theorem clash_l {oi oj : Oper} {fi fj : Foot} {d : Nat} (hd : oi.dst = some d) (h : d ∈ oj.looksAt ops ∨ oj.dst = some d ∨ d ∈ fj.t ∨ d ∈ fj.r) : clash ops oi oj fi fj = true := by
  unfold clash
  simp only [Bool.or_eq_true]
  rcases h with h | h | h | h
  · refine .inl (.inl (.inl (.inl (.inl (.inl (.inl ?_)))))); simp [Oper.apart, hd, h]
  · refine .inl (.inl (.inl (.inl (.inl (.inl (.inl ?_)))))); simp [Oper.apart, hd, h]
  · refine .inl (.inl (.inl (.inl (.inl (.inl (.inr ?_)))))); simp [hit, hd, h]
  · refine .inl (.inl (.inl (.inl (.inl (.inl (.inr ?_)))))); simp [hit, hd, h]

theorem clash_r {oi oj : Oper} {fi fj : Foot} {d : Nat} (hd : oj.dst = some d) (h : d ∈ oi.looksAt ops ∨ oi.dst = some d ∨ d ∈ fi.t ∨ d ∈ fi.r) : clash ops oi oj fi fj = true := by
  unfold clash
  simp only [Bool.or_eq_true]
  rcases h with h | h | h | h
  · refine .inl (.inl (.inl (.inl (.inl (.inl (.inl ?_)))))); simp [Oper.apart, hd, h]
  · refine .inl (.inl (.inl (.inl (.inl (.inl (.inl ?_)))))); simp [Oper.apart, hd, h]
  · refine .inl (.inl (.inl (.inl (.inl (.inr ?_))))); simp [hit, hd, h]
  · refine .inl (.inl (.inl (.inl (.inl (.inr ?_))))); simp [hit, hd, h]

theorem clash_wl {oi oj : Oper} {fi fj : Foot} {s : Nat} (h1 : s ∈ fi.w) (h2 : s ∈ fj.r) : clash ops oi oj fi fj = true := by
  unfold clash
  simp only [Bool.or_eq_true]
  refine .inl (.inl (.inl (.inl (.inr ?_))))
  simp only [meets, List.any_eq_true]
  exact ⟨s, h1, by simpa using h2⟩

theorem clash_wr {oi oj : Oper} {fi fj : Foot} {s : Nat} (h1 : s ∈ fj.w) (h2 : s ∈ fi.r) : clash ops oi oj fi fj = true := by
  unfold clash
  simp only [Bool.or_eq_true]
  refine .inl (.inl (.inl (.inr ?_)))
  simp only [meets, List.any_eq_true]
  exact ⟨s, h1, by simpa using h2⟩

theorem clash_hl {oi oj : Oper} {fi fj : Foot} (h1 : fi.hw = true) (h2 : fj.hr = true) : clash ops oi oj fi fj = true := by
  unfold clash; simp [h1, h2]
theorem turns_of {fi fj : Foot} {k : Nat} (h1 : fi.hw = true) (h2 : ∀ i, fi.al = some i → i = k) (h3 : k ∈ fj.ro) : turns fi fj = true := by
  unfold turns
  rw [h1]
  split
  · rename_i i hi
    rw [h2 i hi]; simpa using h3
  · cases hr : fj.ro with
    | nil => rw [hr] at h3; cases h3
    | cons a l => rfl
theorem clash_ol {oi oj : Oper} {fi fj : Foot} {k : Nat} (h1 : fi.hw = true) (h2 : ∀ i, fi.al = some i → i = k) (h3 : k ∈ fj.ro) : clash ops oi oj fi fj = true := by
  unfold clash; simp [turns_of h1 h2 h3]
theorem clash_or {oi oj : Oper} {fi fj : Foot} {k : Nat} (h1 : fj.hw = true) (h2 : ∀ i, fj.al = some i → i = k) (h3 : k ∈ fi.ro) : clash ops oi oj fi fj = true := by
  unfold clash; simp [turns_of h1 h2 h3]
theorem clash_nl {oi oj : Oper} {fi fj : Foot} {k : Nat} (h1 : fi.nw = some k) (h2 : fj.hr = true ∨ k ∈ fj.ro) : clash ops oi oj fi fj = true := by
  unfold clash
  have : news fi fj = true := by
    unfold news; rw [h1]
    simp only [Bool.or_eq_true]
    exact h2.imp id fun h => by simpa using h
  simp [this]
theorem clash_nr {oi oj : Oper} {fi fj : Foot} {k : Nat} (h1 : fj.nw = some k) (h2 : fi.hr = true ∨ k ∈ fi.ro) : clash ops oi oj fi fj = true := by
  unfold clash
  have : news fj fi = true := by
    unfold news; rw [h1]
    simp only [Bool.or_eq_true]
    exact h2.imp id fun h => by simpa using h
  simp [this]
theorem clash_hr {oi oj : Oper} {fi fj : Foot} (h1 : fj.hw = true) (h2 : fi.hr = true) : clash ops oi oj fi fj = true := by
  unfold clash; simp [h1, h2]
end
end Go.Y
