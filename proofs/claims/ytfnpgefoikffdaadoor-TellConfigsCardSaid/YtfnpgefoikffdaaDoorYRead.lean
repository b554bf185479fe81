/- A call over memory that leaves all that there was as it was. -/
import Derived.Test.YtfnpgefoikffdaaDoorYPure
import Derived.Test.YtfnpgefoikffdaaDoorYCode
namespace Go.Y

/-- A later view, without the objects that are new. -/
noncomputable def Vw.cut (W W' : Vw) (w' : World) : Vw := by
  classical exact { mu := W'.mu, sz := W'.sz, kn := W.kn, lv := fun id => W'.lv id ∧ W.kn id, snap := fun b => if ∃ i, ¬ W.kn i ∧ W'.lv i ∧ (W'.mu i).1 = b then w'.heap[b]? else W'.snap b }

section
variable {W W' : Vw} {w w' : World}

theorem cut_snap {h' : Heap} (hh : HRel W' h' w') (b : Nat) (o : Obj) (hb : W'.snap b = some o) : (W.cut W' w').snap b = some o := by
  unfold Vw.cut; simp only
  split
  · rename_i ho
    obtain ⟨i, _, h2, rfl⟩ := ho
    rw [hh.apart i h2] at hb; cases hb
  · exact hb

mutual
theorem VR.cut {h' : Heap} (hh : HRel W' h' w') {v : V} {u0 u : Value} (r0 : VR W v u0) (r : VR W' v u) : VR (W.cut W' w') v u := by
  cases r with
  | undef u => exact .undef u
  | b x => exact .b x
  | i k n => exact .i k n
  | s l => exact .s l
  | pn => exact .pn
  | ps id off a hid ha =>
    cases r0 with | ps _ _ _ hid0 _ => exact .ps id off a hid0 (fun hl => ha hl.1)
  | tpn a => exact .tpn a
  | tp cs blk off c e fr us hs hc hr => exact .tp cs blk off c e fr us (cut_snap hh _ _ hs) hc (hr.mono (dead_snap (cut_snap hh)))
  | sln c k => exact .sln c k
  | sls id off len cap k a cap' hid hl hc ha hn hk =>
    cases r0 with | sls _ _ _ _ _ _ _ hid0 => exact .sls id off len cap k a cap' hid0 hl hc (fun hv => ha hv.1) (fun hv => hn hv.1) (fun hv => hk hv.1)
  | tsn len cap a cap' hl hc => exact .tsn len cap a cap' hl hc
  | tsz cap hc => exact .tsz cap hc
  | ts cs len cap cap' blk off c e fr us hl hcap hs hc hr => exact .ts cs len cap cap' blk off c e fr us hl hcap (cut_snap hh _ _ hs) hc (hr.mono (dead_snap (cut_snap hh)))
  | mpn => exact .mpn
  | mps id r hid hr => cases r0 with | mps _ _ hid0 _ => exact .mps id r hid0 (fun hl => hr hl.1)
  | fn f a c ua uc ha hc => cases r0 with | fn _ _ _ _ _ ha0 hc0 => exact .fn f a c ua uc (VRs.cut hh ha0 ha) (VRs.cut hh hc0 hc)
  | nilfn => exact .nilfn
  | ifc t v u hv => cases r0 with | ifc _ _ _ hv0 => exact .ifc t v u (VR.cut hh hv0 hv)
  | nilifc => exact .nilifc
  | agg cs us hs => cases r0 with | agg _ _ hs0 => exact .agg cs us (VRs.cut hh hs0 hs)
  | tup cs us hs => cases r0 with | tup _ _ hs0 => exact .tup cs us (VRs.cut hh hs0 hs)
  | yl id l hid hl => cases r0 with | yl _ _ hid0 _ => exact .yl id l hid0 (fun hv => hl hv.1)
  termination_by SizeOf.sizeOf v
theorem VRs.cut {h' : Heap} (hh : HRel W' h' w') {l : List V} {m0 m : List Value} (r0 : VRs W l m0) (r : VRs W' l m) : VRs (W.cut W' w') l m := by
  cases r with
  | nil => exact .nil
  | cons v u l m hv hs => cases r0 with | cons _ _ _ _ hv0 hs0 => exact .cons v u l m (VR.cut hh hv0 hv) (VRs.cut hh hs0 hs)
  termination_by SizeOf.sizeOf l
end

theorem rcall {σ : St} {a : Act} (h : Rel W σ a w) {h1 : Heap} (hh : HRel W' h1 w') (hs : Stp W W.own w W' W'.own w') (hsame : ∀ i, i < σ.h.nx → h1.get i = σ.h.get i) (htg : ∀ p, p ∈ σ.h.tg → p ∈ h1.tg) {v r : V} {u : Value} (hvr : VR W' v u)
    {hN : Heap} (hN1 : ∀ i o, hN.get i = some o → h1.get i = some o ∧ σ.h.nx ≤ i) (hf : Frz hN v r) :
    Rel (W.cut W' w') σ a w' ∧ VR (W.cut W' w') r u ∧ Stp W (mine W σ a) w (W.cut W' w') (mine (W.cut W' w') σ a) w' ∧ (∀ b, mine (W.cut W' w') σ a b → mine W σ a b) := by
  have hlv : ∀ id, W.kn id → (W'.lv id ↔ W.lv id) := fun id hid => by
    rw [hh.lv id, h.heap.lv id, hsame id (h.heap.lt id (h.heap.kn id hid))]
  have hle : Le W (W.cut W' w') := ⟨fun _ h => h, fun id hid => hs.le.mu id hid, fun id hid => hs.le.sz id hid, fun b o hb => cut_snap hh b o (hs.le.snap b o hb), fun id hid hl => (hlv id hid).1 hl.1⟩
  have hlt : ∀ id, W.lv id → W.kn id := h.heap.lk
  have hnone : ∀ b, b < w.heap.size → W.snap b = none → ¬ W.own b → (W.cut W' w').snap b = none := by
    intro b hb h1 h2
    unfold Vw.cut; simp only
    rw [if_neg]
    · cases hb' : W'.snap b with
      | none => rfl
      | some o =>
        rcases hs.new b (by simp [hb']) with h3 | h3 | h3
        · exact absurd h1 h3
        · exact absurd h3 h2
        · omega
    · rintro ⟨i, _, hi2, hi3⟩
      rcases hs.owns b ⟨i, hi2, hi3⟩ with h3 | h3
      · exact h2 h3
      · omega
  have hown : ∀ b, (W.cut W' w').own b → W.own b := by
    rintro b ⟨id, hl, rfl⟩
    refine ⟨id, (hlv id hl.2).1 hl.1, ?_⟩
    show _ = (W'.mu id).1
    rw [hs.le.mu id hl.2]
  have hmine : ∀ b, mine (W.cut W' w') σ a b → mine W σ a b := by
    rintro b (hb | hb)
    · exact .inl (hown b hb)
    · exact .inr hb
  refine ⟨⟨⟨h.heap.kn, fun id hl => hl.2, fun id => ?_, h.heap.lt, fun b o hb => ?_, fun id o ho => ?_, fun i j hi hj => hh.inj i j hi.1 hj.1, fun id hl => ?_, fun p hp => ?tg, h.heap.gl.mono hle.snap⟩, h.size, fun t v ht => ?_, h.box, h.refs, h.defers.turn fun r hr h1 h2 => ⟨hs.keep r (lt_of_block hr) h2, hnone r (lt_of_block hr) h1 h2, fun ho => h2 (hown r ho)⟩⟩, ?_, ⟨hle, hs.size, fun b hb hn => hs.keep b hb fun ho => hn (.inl ho), fun b hb => .inl (hmine b hb), fun b hb => ?_, hs.str⟩, hmine⟩
  case tg =>
    obtain ⟨g1, g2⟩ := h.heap.tg p hp
    refine ⟨g1, fun hl => ?_⟩
    exact (hh.tg p (htg p hp)).2 hl.1
  · show (W'.lv id ∧ W.kn id) ↔ _
    rw [← h.heap.lv id]
    exact ⟨fun hl => (hlv id hl.2).1 hl.1, fun hl => ⟨(hlv id (hlt id hl)).2 hl, hlt id hl⟩⟩
  · unfold Vw.cut at hb; simp only at hb
    split at hb
    · exact hb
    · exact hh.snap b o hb
  · have hid : id < σ.h.nx := h.heap.ltg (by simp [ho])
    have ho1 : h1.get id = some o := by rw [hsame id hid]; exact ho
    have r0 := h.heap.obj id o ho
    have r1 := hh.obj id o ho1
    cases o with
    | arr cs wr =>
      obtain ⟨c, e, fr, g1, g2, g3, g4, g5⟩ := r1
      obtain ⟨c0, e0, fr0, k1, k2, k3, k4, k5⟩ := r0
      refine ⟨c, e, fr, g1, g2, g3, fun j v hj => ?_, g5⟩
      obtain ⟨u, q1, q2⟩ := g4 j v hj
      obtain ⟨u0, q3, q4⟩ := k4 j v hj
      exact ⟨u, q1, q4.cut hh q2⟩
    | map es =>
      obtain ⟨m, k, g1, g2, g3⟩ := r1
      obtain ⟨m0, k0, k1, k2, k3⟩ := r0
      exact ⟨m, k, g1, k2.cut hh g2, k3.cut hh g3⟩
    | siter l pos => exact r1
    | loop L =>
      obtain ⟨fn, us, df, g1, g2⟩ := r1
      obtain ⟨fn0, us0, df0, k1, k2⟩ := r0
      exact ⟨fn, us, df, g1, k2.cut hh g2⟩
  · unfold Vw.cut; simp only
    rw [if_neg]
    · exact hh.apart id hl.1
    · rintro ⟨i, h1, h2, h3⟩
      have := hh.inj i id h2 hl.1 h3
      subst this
      exact h1 hl.2
  · obtain ⟨u, h1, h2⟩ := h.env t v ht
    refine ⟨u, h1, ?_⟩
    cases v <;> first
      | exact VR.mono hle h2
      | exact h2
      | (obtain ⟨b, c, e, hu, hb, hv, hsn, ho⟩ := h2
         have hbl := lt_of_block hb
         refine ⟨b, c, e, hu, by rw [hs.keep b hbl ho]; exact hb, VRs.mono hle hv, hnone b hbl hsn ho, fun hh => ho (hown b hh)⟩)
  · refine hf.vr (W := W') ⟨fun id hi => ?_, fun id o ho => hh.obj id o (hN1 id o ho).1, cut_snap hh, fun id hi => ?_⟩ hvr
    · obtain ⟨o, ho⟩ := Option.isSome_iff_exists.1 hi
      exact (hh.lv id).2 (by simp [(hN1 id o ho).1])
    · obtain ⟨o, ho⟩ := Option.isSome_iff_exists.1 hi
      unfold Vw.cut; simp only
      rw [if_pos ⟨id, h.heap.new (hN1 id o ho).2, (hh.lv id).2 (by simp [(hN1 id o ho).1]), rfl⟩]
  · unfold Vw.cut at hb; simp only at hb
    split at hb
    · rename_i ho
      obtain ⟨i, _, h2, h3⟩ := ho
      rcases hs.owns b ⟨i, h2, h3⟩ with h4 | h4
      · exact .inr (.inl (.inl h4))
      · exact .inr (.inr h4)
    · rcases hs.new b hb with h4 | h4 | h4
      · exact .inl h4
      · exact .inr (.inl (.inl h4))
      · exact .inr (.inr h4)
end

theorem HRel.ext {W : Vw} {h h' : Heap} {w : World} (r : HRel W h w) (hg : ∀ i, h'.raw i = h.raw i) (hn : h'.nx = h.nx) (ht : h'.tg = h.tg) : HRel W h' w :=
  have hgg : ∀ i, h'.get i = h.get i := fun i => congrArg Option.join (hg i)
  ⟨fun id => by rw [hg]; exact r.kn id, r.lk, fun id => by rw [hgg]; exact r.lv id, fun id => by rw [hg, hn]; exact r.lt id, r.snap, fun id o => by rw [hgg]; exact r.obj id o, r.inj, r.apart, fun p => by rw [ht]; exact r.tg p, r.gl⟩
end Go.Y

/- The table of types, held against the program by the kernel. -/
namespace Go.Y

mutual
def veq : V → V → Bool
  | .b x, .b y => x == y
  | .i j x, .i k y => decide (j = k) && x == y
  | .s l, .s m => l == m
  | .p none, .p none | .mp none, .mp none | .nilfn, .nilfn | .nilifc, .nilifc => true
  | .sl none 0 (some 0) 0, .sl none 0 (some 0) 0 => true
  | _, _ => false
end

theorem veq_eq {a b : V} (h : veq a b = true) : a = b := by
  unfold veq at h
  split at h <;> first | rfl | (simp at h; first | (obtain ⟨rfl, rfl⟩ := h; rfl) | (subst h; rfl)) | cases h

def veqs : List V → List V → Bool
  | [], [] => true
  | a :: l, b :: m => veq a b && veqs l m
  | _, _ => false

theorem veqs_eq : ∀ {l m : List V}, veqs l m = true → l = m
  | [], [], _ => rfl
  | a :: l, b :: m, h => by
    simp only [veqs, Bool.and_eq_true] at h
    rw [veq_eq h.1, veqs_eq h.2]
  | [], _ :: _, h => by simp [veqs] at h
  | _ :: _, [], h => by simp [veqs] at h

def kdB (Y : YP) (t : TypeId) : Kd → TypeDesc → Bool
  | .bool, .bool => true
  | .int k, .int k' => decide (k = k')
  | .str, .string => true
  | .slice e, .slice e' => e == e'
  | .arr n e, .array n' e' => n == n' && e == e' && !Y.P.eqGuardType Y.P.depth t
  | .struct fs, .struct l => fs == l.toList.map (fun f => (f.offset, f.type)) && l.toList.all (fun f => !(f.name == "_")) && !Y.P.stoodInHeld t && !Y.P.eqGuardType Y.P.depth t
  | .ptr e, .pointer e' => e == e'
  | .map k e, .map k' e' => k == k' && e == e'
  | .func, .func _ _ _ => true
  | .iface, .interface _ => true
  | _, _ => false

theorem kdB_ok {Y : YP} {t : TypeId} {k : Kd} {d : TypeDesc} (h : kdB Y t k d = true) : KdOK Y t k d := by
  unfold kdB at h
  split at h <;> simp only [KdOK]
  · simp at h; subst h; rfl
  · simp at h; subst h; rfl
  · simp at h; obtain ⟨⟨rfl, rfl⟩, h⟩ := h; exact ⟨rfl, h⟩
  · rename_i fs l
    simp only [Bool.and_eq_true, beq_iff_eq, Bool.not_eq_true', List.all_eq_true, beq_eq_false_iff_ne] at h
    exact ⟨l, rfl, h.1.1.1, fun f hf => h.1.1.2 f (by simpa using hf), h.1.2, h.2⟩
  · simp at h; subst h; rfl
  · simp at h; obtain ⟨rfl, rfl⟩ := h; rfl
  · exact ⟨_, _, _, rfl⟩
  · exact ⟨_, rfl⟩
  · cases h

def tiB (Y : YP) (t : TypeId) (ti : TI) : Bool :=
  match Y.P.info? t with
  | some i => match Y.P.underlying t, i.zero with
    | some d, some z => decide (i.size = ti.size) && decide (i.bytes = ti.bytes) && veqs ti.zero (z.cells.toList.map ofC) && decide (ti.zero.length = ti.size) && allCells ti.zero &&
        kdB Y t ti.kd d && (aggD d == ti.kd.agg) && (ti.kd.agg || decide (ti.size = 1))
    | _, _ => false
  | none => false

theorem VRs.ofCs (W : Vw) : ∀ l : List Value, VRs W (l.map ofC) l
  | [] => .nil
  | u :: l => .cons _ _ _ _ (VR.ofC W u) (VRs.ofCs W l)

theorem tiB_ok {Y : YP} {t : TypeId} {ti : TI} (h : tiB Y t ti = true) : ∃ i d z, TIOK Y t ti i d z := by
  unfold tiB at h
  split at h
  · rename_i i hi
    split at h
    · rename_i d z hd hz
      simp only [Bool.and_eq_true, decide_eq_true_eq, beq_iff_eq, Bool.or_eq_true] at h
      obtain ⟨⟨⟨⟨⟨⟨⟨h1, h2⟩, h3⟩, h4⟩, h5⟩, h6⟩, h7⟩, h8⟩ := h
      refine ⟨i, d, z, hi, hd, hz, h1, h2, fun W => ?_, h4, h5, kdB_ok h6, h7, fun ha => ?_⟩
      · rw [veqs_eq h3]; exact VRs.ofCs W _
      · rcases h8 with h8 | h8
        · rw [ha] at h8; cases h8
        · exact h8
    · cases h
  · cases h

def tabB (Y : YP) : Bool :=
  (List.range Y.tys.length).all (fun t => match Y.ty t with | none => true | some ti => tiB Y t ti) && Y.P.follows .mixedOrders && Y.P.funcs.toList.all (fun f => !(f.name == "runtime.NumGoroutine"))

theorem tabB_ok {Y : YP} (h : tabB Y = true) (he : ExtOK Y) : YOK Y := by
  simp only [tabB, Bool.and_eq_true, List.all_eq_true, List.mem_range] at h
  obtain ⟨⟨h1, h2⟩, h3⟩ := h
  refine ⟨fun t ti ht => ?_, h2, fun f fn hf => ?_, he⟩
  · have hlt : t < Y.tys.length := by
      unfold YP.ty at ht
      by_cases hl : t < Y.tys.length
      · exact hl
      · rw [List.getElem?_eq_none (Nat.le_of_not_lt hl)] at ht; cases ht
    have := h1 t hlt
    rw [ht] at this
    exact tiB_ok this
  · have := h3 fn (by
      have h4 := Array.mem_of_getElem? hf
      simpa using h4)
    simpa using this
end Go.Y
