/- The plain law of a walk that finds the strong parts of a graph: a node is left. -/
import Derived.Test.YtdoanndgjipbmaaGTar
import Derived.Test.YtdoanndgjipbmaaYFrz
namespace Go.Y.Tar
section
variable {succ : Nat → List Nat} {n : Nat} {root number : Nat} {s : TS} {way w0 : List (Nat × Nat)} {v k x : Nat}

/-- A node is left; the one above it leads back as far. -/
theorem inv_pop {up j : Nat} (h : Inv n succ root number s (w0 ++ [(up, j)] ++ [(v, k)])) (hk : (succ v).length ≤ k) (hl : s.l v ≠ s.m v) :
    Inv n succ root number { s with l := upd s.l up (min (s.l up) (s.l v)) } (w0 ++ [(up, j)]) := by
  obtain ⟨hvo, htop⟩ := h.top
  have hup : s.m up < s.m v := htop (up, j) (by simp)
  have hupo : up ∈ s.op := h.wo (up, j) (by simp)
  have hle : ∀ u, upd s.l up (min (s.l up) (s.l v)) u ≤ s.l u := fun u => by
    by_cases e : u = up
    · subst e; rw [upd_same]; exact Nat.min_le_left _ _
    · rw [upd_ne _ _ e]; exact Nat.le_refl _
  have hvw : ∀ i, (v, i) ∉ w0 ++ [(up, j)] := fun i hi => by have := htop (v, i) hi; simp at this
  have hne : v ≠ up := fun e => by rw [e] at hup; exact Nat.lt_irrefl _ hup
  have hsub : ∀ e ∈ w0 ++ [(up, j)], e ∈ w0 ++ [(up, j)] ++ [(v, k)] := fun e he => List.mem_append_left _ he
  -- the last of the way, now
  have hlast : ∀ f ∈ w0 ++ [(up, j)], s.m f.1 ≤ s.m up := fun f hf => by
    rcases List.mem_append.1 hf with hf | hf
    · have h0 := (List.pairwise_append.1 h.ws).1
      exact Nat.le_of_lt ((List.pairwise_append.1 h0).2.2 f hf (up, j) (by simp))
    · rw [List.mem_singleton] at hf; rw [hf]; exact Nat.le_refl _
  refine { num := h.num, rng := h.rng, inj := h.inj, nd := h.nd, om := h.om, cl := h.cl, rt := h.rt, p1 := h.p1, p2 := h.p2, wo := fun e he => h.wo e (hsub e he), ws := (List.pairwise_append.1 h.ws).1, l1 := fun u hu => Nat.le_trans (hle u) (h.l1 u hu), l2 := ?_, pr := ?_, fin := ?_, wr := fun e he => h.wr e (hsub e he), wt := ?_ }
  · intro u hu
    show ∃ y ∈ s.op, s.m y = upd s.l up (min (s.l up) (s.l v)) u ∧ Reach succ u y
    by_cases e : u = up
    · subst e
      rw [upd_same]
      rcases Nat.le_total (s.l u) (s.l v) with hc | hc
      · rw [Nat.min_eq_left hc]; exact h.l2 u hu
      · rw [Nat.min_eq_right hc]
        obtain ⟨y, h1, h2, h3⟩ := h.l2 v hvo
        exact ⟨y, h1, h2, (h.wr (u, j) (by simp) v hvo (Nat.le_of_lt hup)).trans h3⟩
    · rw [upd_ne _ _ e]; exact h.l2 u hu
  · intro u hu y hy hq
    show s.m y ≠ 0 ∧ (y ∈ s.op → upd s.l up (min (s.l up) (s.l v)) u ≤ s.m y)
    obtain ⟨g1, g2⟩ := h.pr u hu y hy fun i hi => by
      rcases List.mem_append.1 hi with hi | hi
      · exact hq i hi
      · rw [List.mem_singleton, Prod.mk.injEq] at hi
        obtain ⟨rfl, rfl⟩ := hi
        rw [List.take_of_length_le hk]; exact hy
    exact ⟨g1, fun hy => Nat.le_trans (hle u) (g2 hy)⟩
  · intro u hu hn
    have hnu : u ≠ up := fun e => by subst e; exact hn j (by simp)
    show upd s.l up (min (s.l up) (s.l v)) u < s.m u ∧ ∃ e ∈ w0 ++ [(up, j)], s.m e.1 < s.m u ∧ upd s.l up (min (s.l up) (s.l v)) e.1 ≤ upd s.l up (min (s.l up) (s.l v)) u ∧ ∀ f ∈ w0 ++ [(up, j)], s.m f.1 < s.m u → s.m f.1 ≤ s.m e.1
    rw [upd_ne _ _ hnu]
    by_cases huv : u = v
    · subst huv
      refine ⟨Nat.lt_of_le_of_ne (h.l1 u hu) hl, (up, j), by simp, hup, by rw [upd_same]; exact Nat.min_le_right _ _, fun f hf _ => hlast f hf⟩
    · obtain ⟨h1, e, h2, h3, h4, h5⟩ := h.fin u hu fun i hi => by
        rcases List.mem_append.1 hi with hi | hi
        · exact hn i hi
        · rw [List.mem_singleton, Prod.mk.injEq] at hi; exact huv hi.1
      rcases List.mem_append.1 h2 with h2 | h2
      · exact ⟨h1, e, h2, h3, Nat.le_trans (hle _) h4, fun f hf hlt => h5 f (hsub f hf) hlt⟩
      · rw [List.mem_singleton] at h2
        subst h2
        refine ⟨h1, (up, j), by simp, Nat.lt_trans hup h3, ?_, fun f hf _ => hlast f hf⟩
        rw [upd_same]
        exact Nat.le_trans (Nat.min_le_right _ _) h4
  · intro e he
    cases w0 with
    | nil => simp at he; subst he; exact h.wt (up, j) (by simp)
    | cons a r => exact h.wt e (by simpa using he)

/-- The first of the way leads back to no other. -/
theorem pop_root (h : Inv n succ root number s [(v, k)]) : s.l v = s.m v := by
  have hvo := h.wo (v, k) (by simp)
  have hr : v = root := h.wt (v, k) (by simp)
  obtain ⟨x, h1, h2, _⟩ := h.l2 v hvo
  have h3 := h.rt x h1
  have h4 := h.l1 v hvo
  rw [← hr] at h3
  omega

/-- All that was met behind a node, it too, becomes a part. -/
def TS.shut (s : TS) (A C : List Nat) : TS := { s with op := A, p := fun u => if u ∈ C then s.parts else s.p u, parts := s.parts + 1 }

theorem inv_shut {A B : List Nat} (h : Inv n succ root number s (w0 ++ [(v, k)])) (hk : (succ v).length ≤ k) (hl : s.l v = s.m v) (ho : s.op = A ++ v :: B) :
    Inv n succ root number (s.shut A (v :: B)) w0 := by
  obtain ⟨hvo, htop⟩ := h.top
  have hnd := h.nd
  rw [ho] at hnd
  have hnd2 := List.pairwise_append.1 hnd
  have hA : ∀ u ∈ A, s.m u < s.m v := fun u hu => hnd2.2.2 u hu v (by simp)
  have hC : ∀ u ∈ v :: B, s.m v ≤ s.m u := fun u hu => by
    rcases List.mem_cons.1 hu with rfl | hu
    · exact Nat.le_refl _
    · exact Nat.le_of_lt ((List.pairwise_cons.1 hnd2.2.1).1 u hu)
  have hop : ∀ u, u ∈ s.op ↔ u ∈ A ∨ u ∈ v :: B := fun u => by rw [ho]; exact List.mem_append
  have inA : ∀ u ∈ s.op, s.m u < s.m v → u ∈ A := fun u hu hlt => ((hop u).1 hu).resolve_right fun hc => by have := hC u hc; omega
  have inC : ∀ u ∈ s.op, s.m v ≤ s.m u → u ∈ v :: B := fun u hu hlt => ((hop u).1 hu).resolve_left fun hc => by have := hA u hc; omega
  have disj : ∀ u, u ∈ A → u ∈ v :: B → False := fun u h1 h2 => by have := hA u h1; have := hC u h2; omega
  have sub : ∀ u ∈ A, u ∈ s.op := fun u hu => (hop u).2 (.inl hu)
  have subC : ∀ u ∈ v :: B, u ∈ s.op := fun u hu => (hop u).2 (.inr hu)
  have hway : ∀ e ∈ w0 ++ [(v, k)], s.m e.1 ≤ s.m v := fun e he => by
    rcases List.mem_append.1 he with he | he
    · exact Nat.le_of_lt (htop e he)
    · rw [List.mem_singleton] at he; rw [he]; exact Nat.le_refl _
  have hBw : ∀ u ∈ v :: B, u ≠ v → ∀ i, (u, i) ∉ w0 ++ [(v, k)] := fun u hu hne i hi => by
    have h1 : s.m u ≤ s.m v := hway (u, i) hi
    have h2 := hC u hu
    exact hne (h.inj u v (h.om u (subC u hu)) (by omega))
  -- none of them leads back further
  have low : ∀ u ∈ v :: B, s.m v ≤ s.l u ∧ (u ≠ v → s.l u < s.m u) := fun u hu => by
    by_cases hne : u = v
    · subst hne; exact ⟨by omega, fun e => absurd rfl e⟩
    · obtain ⟨h1, e, h2, h3, h4, h5⟩ := h.fin u (subC u hu) (hBw u hu hne)
      have h6 : s.m v < s.m u := Nat.lt_of_le_of_ne (hC u hu) fun e => hne (h.inj u v (h.om u (subC u hu)) e.symm)
      have h7 := h5 (v, k) (by simp) h6
      have h8 := hway e h2
      have h9 : e.1 = v := h.inj e.1 v (h.om _ (h.wo e h2)) (by simp at h7; omega)
      rw [h9] at h4
      exact ⟨by omega, fun _ => h1⟩
  have back : ∀ (d u : Nat), s.m u ≤ d → u ∈ v :: B → Reach succ u v := by
    intro d
    induction d with
    | zero => intro u hd hu; exact absurd (h.om u (subC u hu)) (by omega)
    | succ d ih =>
      intro u hd hu
      by_cases hne : u = v
      · subst hne; exact .refl u
      · obtain ⟨h1, h2⟩ := low u hu
        have h2 := h2 hne
        obtain ⟨y, g1, g2, g3⟩ := h.l2 u (subC u hu)
        exact g3.trans (ih y (by omega) (inC y g1 (by omega)))
  have mutC : ∀ u ∈ v :: B, Mut succ u v := fun u hu => ⟨back (s.m u) u (Nat.le_refl _) hu, h.wr (v, k) (by simp) u (subC u hu) (hC u hu)⟩
  have clo : ∀ u ∈ v :: B, ∀ y ∈ succ u, s.m y ≠ 0 ∧ y ∉ A := fun u hu y hy => by
    obtain ⟨g1, g2⟩ := h.pr u (subC u hu) y hy fun i hi => by
      by_cases hne : u = v
      · subst hne
        rw [h.uniq hi, List.take_of_length_le hk]; exact hy
      · exact absurd hi (hBw u hu hne i)
    refine ⟨g1, fun hyA => ?_⟩
    have h1 := g2 (sub y hyA)
    have h2 := (low u hu).1
    have h3 := hA y hyA
    omega
  -- what is closed stays closed
  have old : ∀ c, s.m c ≠ 0 → c ∉ s.op → ∀ d, Reach succ c d → s.m d ≠ 0 ∧ d ∉ s.op := fun c hc hco d hr =>
    hr.stay (P := fun u => s.m u ≠ 0 ∧ u ∉ s.op) (fun u hu y hy => h.cl u hu.1 hu.2 y hy) ⟨hc, hco⟩
  have cases_ : ∀ u, s.m u ≠ 0 → u ∉ A → (u ∈ v :: B) ∨ (u ∉ s.op ∧ u ∉ v :: B) := fun u _ huA => by
    by_cases hc : u ∈ v :: B
    · exact .inl hc
    · exact .inr ⟨fun hu => ((hop u).1 hu).elim huA hc, hc⟩
  refine { num := h.num, rng := h.rng, inj := h.inj, nd := hnd2.1, om := fun u hu => h.om u (sub u hu), wo := fun e he => inA _ (h.wo e (by simp [he])) (htop e he), ws := (List.pairwise_append.1 h.ws).1, l1 := fun u hu => h.l1 u (sub u hu), l2 := ?_, pr := ?_, cl := ?_, fin := ?_, wr := fun e he u hu => h.wr e (by simp [he]) u (sub u hu), rt := fun u hu => h.rt u (sub u hu), wt := ?_, p1 := ?_, p2 := ?_ }
  · intro u hu
    obtain ⟨y, g1, g2, g3⟩ := h.l2 u (sub u hu)
    refine ⟨y, inA y g1 ?_, g2, g3⟩
    have h1 := h.l1 u (sub u hu)
    have h2 := hA u hu
    omega
  · intro u hu y hy hq
    obtain ⟨g1, g2⟩ := h.pr u (sub u hu) y hy fun i hi => by
      rcases List.mem_append.1 hi with hi | hi
      · exact hq i hi
      · rw [List.mem_singleton, Prod.mk.injEq] at hi
        exact (disj u hu (by rw [hi.1]; simp)).elim
    exact ⟨g1, fun hy => g2 (sub y hy)⟩
  · intro c hc hco y hy
    rcases cases_ c hc hco with h1 | ⟨h1, _⟩
    · exact clo c h1 y hy
    · obtain ⟨g1, g2⟩ := h.cl c hc h1 y hy
      exact ⟨g1, fun hA => g2 (sub y hA)⟩
  · intro u hu hn
    obtain ⟨h1, e, h2, h3, h4, h5⟩ := h.fin u (sub u hu) fun i hi => by
      rcases List.mem_append.1 hi with hi | hi
      · exact hn i hi
      · rw [List.mem_singleton, Prod.mk.injEq] at hi
        exact disj u hu (by rw [hi.1]; simp)
    refine ⟨h1, e, ?_, h3, h4, fun f hf hlt => h5 f (by simp [hf]) hlt⟩
    rcases List.mem_append.1 h2 with h2 | h2
    · exact h2
    · rw [List.mem_singleton] at h2
      have := hA u hu
      have h3' : s.m e.1 < s.m u := h3
      rw [h2] at h3'
      simp at h3'; omega
  · intro e he
    cases w0 with
    | nil => cases he
    | cons a r => exact h.wt e (by simpa using he)
  · intro u hu huA
    show (if u ∈ v :: B then s.parts else s.p u) < s.parts + 1
    rcases cases_ u hu huA with h1 | ⟨h1, h2⟩
    · rw [if_pos h1]; exact Nat.lt_succ_self _
    · rw [if_neg h2]; exact Nat.lt_succ_of_lt (h.p1 u hu h1)
  · intro a b ha haA hb hbA
    show (if a ∈ v :: B then s.parts else s.p a) = (if b ∈ v :: B then s.parts else s.p b) ↔ _
    rcases cases_ a ha haA with h1 | ⟨h1, h1'⟩ <;> rcases cases_ b hb hbA with h2 | ⟨h2, h2'⟩
    · rw [if_pos h1, if_pos h2]
      exact ⟨fun _ => (mutC a h1).trans (mutC b h2).symm, fun _ => rfl⟩
    · rw [if_pos h1, if_neg h2']
      refine ⟨fun e => ?_, fun hm => ?_⟩
      · have := h.p1 b hb h2; omega
      · exact absurd (subC a h1) (old b hb h2 a hm.2).2
    · rw [if_neg h1', if_pos h2]
      refine ⟨fun e => ?_, fun hm => ?_⟩
      · have := h.p1 a ha h1; omega
      · exact absurd (subC b h2) (old a ha h1 b hm.1).2
    · rw [if_neg h1', if_neg h2']
      exact h.p2 a b ha h1 hb h2

/-- Where a node is left that leads back to itself alone, the one above it does not change. -/
theorem pop_same {up j : Nat} (h : Inv n succ root number s (w0 ++ [(up, j)] ++ [(v, k)])) (hl : s.l v = s.m v) : upd s.l up (min (s.l up) (s.l v)) = s.l := by
  have hup : s.m up < s.m v := h.top.2 (up, j) (by simp)
  have h1 := h.l1 up (h.wo (up, j) (by simp))
  funext u
  by_cases e : u = up
  · subst e; rw [upd_same]; omega
  · rw [upd_ne _ _ e]
end
end Go.Y.Tar

/- Arrays of numbers, and lists that are used as stacks, in memory. -/
namespace Go.Y

/-- A function over memory, nothing of which becomes read-only. -/
theorem conf_of {Y : YP} (hY : YOK Y) {f : FuncId} {fn : Func} (hf : Y.P.funcs[f]? = some fn) (hb : fn.body.isSome = true) {args : List V} {h : Heap} {Q : V → Heap → Prop}
    (ht : TriL Y (flat (bodyOf fn)) ⟨args ++ List.replicate (fn.ntmps - args.length) .undef, [], h⟩ (FinS Y fn Q)) : Con Y f args h Q := con_of hY hf hb ht

def nums (l : List Nat) : List V := l.map fun x => .i .i64 (x : Nat)
def bools (l : List Bool) : List V := l.map .b
@[simp] theorem nums_length (l : List Nat) : (nums l).length = l.length := by simp [nums]
@[simp] theorem bools_length (l : List Bool) : (bools l).length = l.length := by simp [bools]
theorem nums_append (l m : List Nat) : nums (l ++ m) = nums l ++ nums m := by simp [nums]
theorem nums_all (l : List Nat) : allCells (nums l) = true := by
  induction l with
  | nil => rfl
  | cons x l ih => simpa [nums, allCells, V.cellOK] using ih

theorem takeX_at {l : List V} {i : Nat} {v : V} (h : l[i]? = some v) : takeX 1 (l.drop i) = some [v] := by
  have hlt := (List.getElem?_eq_some_iff.1 h).1
  have he := (List.getElem?_eq_some_iff.1 h).2
  rw [List.drop_eq_getElem_cons hlt, he]
  rfl
theorem splice_at : ∀ (l : List V) (i : Nat) (v : V), i < l.length → splice l i [v] = l.set i v
  | [], i, v, h => by simp at h
  | x :: l, 0, v, _ => by simp [splice]
  | x :: l, i + 1, v, h => by simp only [splice, List.set_cons_succ]; rw [splice_at l i v (by simpa using h)]

section
variable {h : Heap} {id : Nat} {cs : List V} {wr : Bool}
theorem hcells_at (hg : h.get id = some (.arr cs wr)) {i : Nat} {v : V} (hi : cs[i]? = some v) : hcells h id i 1 = some [v] := by
  simp only [hcells, hg]; exact takeX_at hi
theorem hstore_at (hg : h.get id = some (.arr cs true)) {i : Nat} (v : V) (hi : i < cs.length) : hstore h id i [v] = some (h.set id (some (.arr (cs.set i v) true))) := by
  simp only [hstore, hg, List.length_cons, List.length_nil, Nat.zero_add]
  rw [if_pos (by omega), splice_at _ _ _ hi]
end

theorem nums_get {l : List Nat} {i : Nat} (hi : i < l.length) : (nums l)[i]? = some (.i .i64 ((l.getD i 0 : Nat) : Int)) := by
  simp [nums, hi]
theorem bools_get {l : List Bool} {i : Nat} (hi : i < l.length) : (bools l)[i]? = some (.b (l.getD i false)) := by
  simp [bools, hi]
theorem nums_set (l : List Nat) (i x : Nat) : (nums l).set i (.i .i64 (x : Nat)) = nums (l.set i x) := by
  unfold nums; rw [List.map_set]
theorem bools_set (l : List Bool) (i : Nat) (x : Bool) : (bools l).set i (.b x) = bools (l.set i x) := by
  unfold bools; rw [List.map_set]

/-- A list used as a stack: behind its elements there may be more cells. -/
def Stk (h : Heap) (k : Nat) (a : Option Nat) (sl : V) (cs : List V) : Prop :=
  (a = none ∧ cs = [] ∧ ∃ c kk, sl = .sl none 0 c kk) ∨ ∃ id ext l, a = some id ∧ sl = .sl (some (id, 0)) l none k ∧ l * k = cs.length ∧ id < h.nx ∧ h.get id = some (.arr (cs ++ ext) true)

theorem Stk.fr {h h' : Heap} {k : Nat} {a : Option Nat} {sl : V} {cs : List V} (s : Stk h k a sl cs) (hn : h.nx ≤ h'.nx) (hs : ∀ j, a = some j → h'.get j = h.get j) : Stk h' k a sl cs := by
  rcases s with h1 | ⟨id, ext, l, h1, h2, h3, h4, h5⟩
  · exact .inl h1
  · exact .inr ⟨id, ext, l, h1, h2, h3, by omega, by rw [hs id h1]; exact h5⟩

/-- All but some objects are as they were. -/
def FrS (h : Heap) (S : Nat → Prop) (h' : Heap) : Prop := h.nx ≤ h'.nx ∧ ∀ j, j < h.nx → ¬ S j → h'.get j = h.get j
theorem FrS.refl (h : Heap) (S : Nat → Prop) : FrS h S h := ⟨Nat.le_refl _, fun _ _ _ => rfl⟩
theorem FrS.trans {a b c : Heap} {S : Nat → Prop} (h : FrS a S b) (g : FrS b S c) : FrS a S c :=
  ⟨Nat.le_trans h.1 g.1, fun j hj hn => by rw [g.2 j (Nat.lt_of_lt_of_le hj h.1) hn, h.2 j hj hn]⟩
theorem FrS.mono {a b : Heap} {S S' : Nat → Prop} (h : FrS a S b) (hs : ∀ j, j < a.nx → S j → S' j) : FrS a S' b := ⟨h.1, fun j hj hn => h.2 j hj fun hq => hn (hs j hj hq)⟩
theorem FrS.set (h : Heap) (id : Nat) (o : Option YObj) : FrS h (fun j => j = id) (h.set id o) := ⟨Nat.le_refl _, fun j _ hn => by rw [Heap.get_set, if_neg hn]⟩

/-- One element (of k cells) more. -/
theorem Stk.push {Y : YP} {h : Heap} {k : Nat} {a : Option Nat} {sl : V} {cs new : List V} {st e : TypeId} {te : TI} {cap : Option Nat} (hk : Y.kd st = some (.slice e)) (hte : Y.ty e = some te) (hs : te.size = k) (hk0 : k ≠ 0)
    (s : Stk h k a sl cs) (hnl : new.length = k) (hc : allCells new = true) (hb : (cs.length + 1) * te.bytes ≤ most) (hb' : cs.length + 1 ≤ most) :
    ∃ i l h', appendH Y h st st sl (.ts new 1 cap) = some (.sl (some (i, 0)) l none k, h') ∧ Stk h' k (some i) (.sl (some (i, 0)) l none k) (cs ++ new) ∧ FrS h (fun j => a = some j) h' ∧ (a = some i ∨ (h.nx ≤ i)) := by
  have htk : takeX (1 * k) new = some new := takeX_len (by omega)
  have hsrc : source Y ⟨[], [], h⟩ te st (.ts new 1 cap) = some (1, new) := by
    simp only [source, hk, elems, elemsS, hs, htk]; rfl
  rcases s with ⟨rfl, rfl, c, kk, rfl⟩ | ⟨id, ext, l, rfl, rfl, hl, hid, hget⟩
  · refine ⟨h.nx, 1, h.pushT (Y.tag e) (.arr new true), ?_, .inr ⟨h.nx, [], 1, rfl, rfl, by simp [hnl], by simp, by simp⟩, ⟨by simp, fun j hj _ => by rw [Heap.get_pushT, if_neg (by omega)]⟩, .inr (Nat.le_refl _)⟩
    have h1 : te.bytes ≤ most := by simpa using hb
    have h2 : 1 ≤ most := by decide
    simp [appendH, appendY, hk, hte, hsrc, hc, hs, hk0, h1, h2]
  · have hlk : l ≤ cs.length := by
      rw [← hl]; exact Nat.le_mul_of_pos_right _ (by omega)
    have hb1 : ¬ ((l + 1) * te.bytes > most ∨ l + 1 > most) := by
      have : (l + 1) * te.bytes ≤ (cs.length + 1) * te.bytes := Nat.mul_le_mul_right _ (by omega)
      omega
    have hgd : (if (!allCells new || decide (te.size = 0)) = true then (none : Option (V × Heap)) else some (.undef, h)) = some (.undef, h) := by rw [if_neg (by simp [hc, hs, hk0])]
    have hnot : ¬ ((!allCells new || decide (te.size = 0)) = true) := by simp [hc, hs, hk0]
    by_cases hfit : 0 + (l + 1) * k ≤ (cs ++ ext).length
    · refine ⟨id, l + 1, h.set id (some (.arr (splice (cs ++ ext) (0 + l * k) new) true)), ?_, .inr ⟨id, ext.drop k, l + 1, rfl, rfl, ?_, by simpa using hid, ?_⟩, (FrS.set h id _).mono fun j _ hj => by rw [hj], .inl rfl⟩
      · simp only [appendH, appendY, hk, hte, hsrc, hs, ne_eq, not_true_eq_false, if_false, hb1, hget, hfit, if_true]
        rw [if_neg (by simp [hc, hk0])]
        simp
      · rw [Nat.add_mul, hl, List.length_append, hnl]; omega
      · rw [Heap.get_set, if_pos rfl]
        congr 2
        rw [Nat.zero_add, hl]
        have : ∀ (p q : List V), splice (p ++ q) p.length new = p ++ (new ++ q.drop new.length) := by
          intro p q
          induction p with
          | nil => cases q <;> simp [splice]
          | cons x p ih => simp [splice, ih]
        rw [this cs ext, hnl, List.append_assoc]
    · have hext : cs.length + ext.length < (l + 1) * k := by simpa using hfit
      have htk2 : takeX (l * k) ((cs ++ ext).drop 0) = some cs := by
        rw [List.drop_zero, hl]
        have : ∀ (p q : List V), takeX p.length (p ++ q) = some p := by
          intro p q
          induction p with
          | nil => simp [takeX]
          | cons x p ih => simp [takeX, ih]
        exact this cs ext
      refine ⟨h.nx, l + 1, (h.set id none).pushT (if 0 = 0 ∧ h.tagOf id = some e then some e else none) (.arr (cs ++ new) true), ?_, .inr ⟨h.nx, [], l + 1, rfl, rfl, ?_, by simp, by simp⟩, ⟨by simp, fun j hj hn => ?_⟩, .inr (Nat.le_refl _)⟩
      · simp only [appendH, appendY, hk, hte, hsrc, hs, ne_eq, not_true_eq_false, if_false, hb1, hget, hfit, Bool.true_or, if_true, htk2]
        rw [if_neg (by simp [hc, hk0])]
        simp
      · rw [Nat.add_mul, hl, List.length_append, hnl]; omega
      · have hji : j ≠ id := fun he => hn (by rw [he])
        rw [Heap.get_pushT, if_neg (by simp; omega), Heap.get_set, if_neg hji]

/-- The last element goes. -/
theorem Stk.pop {h : Heap} {k : Nat} {a : Option Nat} {id l : Nat} {c : Option Nat} {kk : Nat} {cs x : List V} (hk : k ≠ 0) (s : Stk h k a (.sl (some (id, 0)) l c kk) (cs ++ x)) (hx : x.length = k) :
    a = some id ∧ c = none ∧ kk = k ∧ 1 ≤ l ∧ Stk h k a (.sl (some (id, 0)) (l - 1) none k) cs ∧ (l - 1) * k = cs.length ∧ ∃ ext, h.get id = some (.arr (cs ++ x ++ ext) true) := by
  rcases s with ⟨_, _, _, _, h1⟩ | ⟨i, ext, l', h1, h2, h3, h4, h5⟩
  · cases h1
  · simp only [V.sl.injEq, Option.some.injEq, Prod.mk.injEq, and_true] at h2
    obtain ⟨rfl, rfl, rfl, rfl⟩ := h2
    rw [List.length_append, hx] at h3
    have hl : 1 ≤ l := by
      rcases Nat.eq_zero_or_pos l with h0 | h0
      · subst h0; omega
      · exact h0
    have hl2 : (l - 1) * kk = cs.length := by
      have : l * kk = (l - 1) * kk + kk := by rw [← Nat.succ_mul]; congr 1; omega
      omega
    exact ⟨h1, rfl, rfl, hl, .inr ⟨id, x ++ ext, l - 1, h1, rfl, hl2, h4, by rw [h5, List.append_assoc]⟩, hl2, ext, h5⟩
end Go.Y
