/- souffleurref18: which edges are open, now or later, by contracts. -/
import Derived.Test.YtkcgmnhojldoiaaGreatFC2
import Derived.Test.YtkcgmnhojldoiaaGreatGAct2
namespace Go.Y
open Go.Proofs
set_option maxRecDepth 1000000
set_option maxHeartbeats 0
structure BdP (l : List Plc) : Prop where
 nm : ∀ x ∈ l, x.name.length < 2 ^ 30
 ed : ∀ x ∈ l, x.edges.length < 2 ^ 20

def Qo (s : Side) (cap : Int) (l : List Plc) : Bool := Jd s l.length cap (Xm cap l) && s.on && !s.shut
theorem Zgy (s : Side) (cap : Int) (l : List Plc) (b : BdS s) (p : BdP l) : PCon UY 122 [.agg (Zn s), .agg (Xp cap l)] (· = .b (Qo s cap l)) := by
 refine Zz UK (fn := Tryz.f122) (by kernel_rfl) (by kernel_rfl) rfl (fun K => Zyt s.on s.shut s.eof s.place s.clock s.typed (row encT s.lines) s.lines.length s.fly (row encI s.ages) s.ages.length s.ready s.buffer cap (row ZG l) l.length .empty K) rfl ?_
 have b1 := b.ag
 have b2 := b.ln
 have b3 := b.ty
 refine ⟨_, Zds s cap l p.nm (by omega) (by omega) (by omega) (fun x hx => by have := b.el x hx; omega), ?_⟩
 unfold Qo
 refine Zd (fun h1 => Zd (fun h2 => ?_) (fun h2 => ?_)) (fun h1 => ?_)
 all_goals exact Zs (.inr rfl) rfl (.b _) (by simp [*])

theorem Vi {s : Side} {cap : Int} {l : List Plc} (h : Qo s cap l = true) : 0 ≤ s.place ∧ s.place < l.length ∧ ∃ x, l[s.place.toNat]? = some x ∧ ZA s cap l = x.edges ∧ Zh 1 (List.drop 2 (List.drop (s.place.toNat * 3) (row ZG l))) = some [lst encE x.edges] := by
 have h' := h
 unfold Qo at h'
 simp only [Bool.and_eq_true] at h'
 obtain ⟨p0, p1, _, _⟩ := Zcf h'.1.1
 obtain ⟨x, hx, ht⟩ := Zci p0 p1
 refine ⟨p0, p1, x, hx, ?_, ht⟩
 unfold ZA
 unfold Qo at h
 rw [h, if_pos rfl, hx]
theorem Zah {s : Side} {cap : Int} {l : List Plc} (h : Qo s cap l = false) : ZA s cap l = [] := by
 unfold ZA
 unfold Qo at h
 rw [h]; rfl
theorem Zdw {s : Side} {cap : Int} {l : List Plc} (h : Qo s cap l = true) : Xm cap l = true := by
 unfold Qo at h
 simp only [Bool.and_eq_true] at h
 exact Zk9 h.1.1

theorem Zdx (s : Side) (cap : Int) (l : List Plc) (b : BdS s) (p : BdP l) : PCon UY 121 [.agg (Zn s), .agg (Xp cap l)] (· = .i .i64 (ZA s cap l).length) := by
 refine Zz UK (fn := Tryz.f121) (by kernel_rfl) (by kernel_rfl) rfl (fun K => Zyu s.on s.shut s.eof s.place s.clock s.typed (row encT s.lines) s.lines.length s.fly (row encI s.ages) s.ages.length s.ready s.buffer cap (row ZG l) l.length .empty K) rfl ?_
 refine ⟨_, Zgy s cap l b p, Zd (fun h => ?_) (fun h => ?_)⟩
 ·have h : Qo s cap l = false := by simpa using h
  exact Zs (.inr rfl) rfl (.i _ _) (by rw [Zah h]; rfl)
 ·have h : Qo s cap l = true := by simpa using h
  obtain ⟨p0, p1, x, hx, he, ht⟩ := Vi h
  exact ⟨⟨p0, p1⟩, _, _, _, ht, Zs (.inr rfl) rfl (.i _ _) (by rw [he])⟩

def Jo (s : Side) (cap : Int) (l : List Plc) (i : Int) : Bool := if i < 0 then false else match (ZA s cap l)[i.toNat]? with
 | some e => QX s cap e
 | none => false
theorem Zai (s : Side) (cap : Int) (l : List Plc) (i : Int) (b : BdS s) (p : BdP l) : PCon UY 77 [.agg (Zn s), .agg (Xp cap l), .i .i64 i] (· = .b (Jo s cap l i)) := by
 refine Zz UK (fn := Tryz.f77) (by kernel_rfl) (by kernel_rfl) rfl (fun K => ZC5 s.on s.shut s.eof s.place s.clock s.typed (row encT s.lines) s.lines.length s.fly (row encI s.ages) s.ages.length s.ready s.buffer cap (row ZG l) l.length i .empty K) rfl ?_
 have fin : ∀ x : Bool, x = Jo s cap l i → Fin UY Tryz.f77 [6] (fun v h => ∃ r, Frz h v r ∧ r = .b (Jo s cap l i)) .ret 82 [.b x] .empty := fun x hx => Zs (.inr rfl) rfl (.b _) (by rw [hx])
 refine ⟨_, Zgy s cap l b p, Zd (fun h => fin _ ?_) (fun h => Zw (fun i0 => fin _ ?_) (fun i0 => ?_))⟩
 ·have h : Qo s cap l = false := by simpa using h
  unfold Jo; rw [Zah h]; split <;> simp
 ·unfold Jo; rw [if_pos i0]
 have h : Qo s cap l = true := by simpa using h
 obtain ⟨p0, p1, x, hx, he, ht⟩ := Vi h
 refine ⟨⟨p0, p1⟩, _, _, _, ht, Qz (fun i1 => fin _ ?_) (fun i1 => ?_)⟩
 ·unfold Jo; rw [if_neg (by omega), he, List.getElem?_eq_none (by omega)]
 have hlt : i.toNat < x.edges.length := by omega
 have hi : Jo s cap l i = QX s cap x.edges[i.toNat] := by
  unfold Jo; rw [if_neg (by omega), he, List.getElem?_eq_getElem hlt]
 have hk := Zdr (Zdq (s := s) (Zdw h) (e := x.edges[i.toNat]) (by rw [he]; exact List.getElem_mem hlt))
 refine ⟨⟨p0, p1⟩, _, _, _, ht, ⟨i0, i1⟩, _, _, _, _, _, Zr (f := encE) (k := 5) JS hlt, ?_⟩
 generalize x.edges[i.toNat] = e at hi hk
 rw [hi] at fin ⊢
 refine Zd (fun k2 => ?_) (fun k2 => Zd (fun hc => Zd (fun k3 => fin _ ?_) (fun k3 => ⟨_, Zb9 s cap (row ZG l) l.length, fin _ ?_⟩)) (fun hc => fin _ ?_))
 ·have k2 : e.kind = 2 := by simpa using k2
  have ho : QX s cap e = hitS s e := by unfold QX; rw [if_neg (by omega), if_pos k2]
  obtain ⟨a, er, hp⟩ := Zcg e.text
  refine ⟨row encG (Wa e.text), (Wa e.text).length, none, a, er, (Zdl e.text).mono fun r hr => by rw [hr, hp], ?_⟩
  cases hln : s.lines with
  | nil =>
   refine Zd (fun h => by cases h) (fun _ => fin _ ?_)
   rw [ho]; unfold hitS; rw [hln]
  | cons y r =>
   refine Zd (fun _ => ⟨⟨by decide, by simp⟩, y, rfl, _, Zlf (Wa e.text) y (Zgt _) (by have := b.el y (by rw [hln]; simp); omega), fin _ ?_⟩) (fun h => by simp [ltI] at h)
   rw [ho]; unfold hitS; rw [hln]
 ·have k3 : e.kind = 3 := by simpa using k3
  unfold QX; rw [if_neg (by omega), if_neg (by omega), hc]
 ·have k3 : e.kind ≠ 3 := by simpa using k3
  have k2 : e.kind ≠ 2 := by simpa using k2
  have k1 : e.kind = 1 := by omega
  unfold QX; rw [if_pos k1, hc]; rfl
 ·have k2 : e.kind ≠ 2 := by simpa using k2
  unfold QX; rw [hc, if_neg k2]; split <;> rfl

def Zy4 (s : Side) (cap : Int) (l : List Plc) (es : List Edge) (m : Nat) (vs : List V) (h : Heap) : Prop :=
 ∃ (i : Nat) (a : Option (Nat × Nat)) (n : Nat) (c : Option Nat) (k : Nat) (out : List Int), vs = [.lb (Zn s), .lb (Xp cap l), .sl a n c k, .i .i64 (i : Nat)] ∧ i ≤ es.length ∧ m = es.length - i ∧
  Lst encI 1 h a n c k out ∧ out.length ≤ i ∧ out ++ XV s cap (es.drop i) i = XV s cap es 0
theorem Zjx {s : Side} {cap : Int} {l : List Plc} (p : BdP l) : (ZA s cap l).length < 2 ^ 20 := by
 unfold ZA
 split
 ·split
  ·rename_i x hx; exact p.ed x (List.mem_of_getElem? hx)
  ·decide
 ·decide
theorem Zcn (s : Side) (cap : Int) (l : List Plc) {i : Nat} (h : i < (ZA s cap l).length) : Jo s cap l (i : Nat) = QX s cap (ZA s cap l)[i] := by
 unfold Jo; rw [if_neg (by omega), Int.toNat_natCast, List.getElem?_eq_getElem h]

theorem Zlg (s : Side) (cap : Int) (l : List Plc) (b : BdS s) (p : BdP l) : PCon UY 92 [.agg (Zn s), .agg (Xp cap l)] (· = lst encI (Zk7 s cap l)) := by
 refine Zt UK (fn := Tryz.f92) (by kernel_rfl) (by kernel_rfl) rfl ?_
 refine Zp UK 23 (fun K => ZC6 s.on s.shut s.eof s.place s.clock s.typed (row encT s.lines) s.lines.length s.fly (row encI s.ages) s.ages.length s.ready s.buffer cap (row ZG l) l.length .empty K) rfl (by kernel_rfl) ?_
 have hes := Zjx (s := s) (cap := cap) p
 have hE := Zdx s cap l b p
 have hO := fun i (h : i < (ZA s cap l).length) => Zcn s cap l h
 unfold Zk7
 generalize ZA s cap l = es at hes hE hO
 refine ⟨rfl, ZK [2, 3, 5, 6] [2, 3, 5, 6] rfl (by kernel_rfl) (Zy4 s cap l es) es.length Zu ⟨0, none, 0, some 0, 0, [], rfl, by omega, by omega, Lst.nil _ _ _ _ _, by simp, rfl⟩ ?_⟩
 rintro m vs h ⟨i, a, n, c, k, out, rfl, hi, rfl, hL, ho, hr⟩
 refine Zq UK (fun K => ZC7 s.on s.shut s.eof s.place s.clock s.typed (row encT s.lines) s.lines.length s.fly (row encI s.ages) s.ages.length s.ready s.buffer cap (row ZG l) l.length a n c k (i : Nat) h K) rfl ?_
 refine ⟨_, hE, Zg (fun hlt => ?_) (fun hge => ?_)⟩
 ·rw [List.drop_eq_getElem_cons hlt, XV, ← hO i hlt] at hr
  refine ⟨_, Zai s cap l (i : Nat) b p, Zd (fun hc => ?_) (fun hc => ?_)⟩
  ·rw [hc, if_pos rfl] at hr
   obtain ⟨a', n', c', k', h', q1, q2, _, _⟩ := JF out (i : Nat) hL (by omega)
   refine ⟨a', n', c', k', h', q1, rfl, es.length - (i + 1), by omega, i + 1, a', n', c', k', out ++ [((i : Nat) : Int)], by rw [Zf (by omega)]; rfl, by omega, rfl, q2, by simp; omega, ?_⟩
   rw [List.append_assoc]; exact hr
  ·rw [hc] at hr
   exact ⟨rfl, es.length - (i + 1), by omega, i + 1, a, n, c, k, out, by rw [Zf (by omega)]; rfl, by omega, rfl, hL, by omega, hr⟩
 ·refine Ze [5] (by kernel_rfl) rfl rfl ?_
  refine ZB UK (fun K => ZC8 a n c k h K) rfl ?_
  have he : es.drop i = [] := List.drop_eq_nil_of_le hge
  rw [he, XV, List.append_nil] at hr
  subst hr
  exact Zs (.inr rfl) rfl (hL.frz (by decide) ZV) rfl

/-! ### Later -/
def farS (s : Side) : Side := { s with clock := 9 }
theorem BdS.far {s : Side} (b : BdS s) : BdS (farS s) := ⟨b.ag, b.ln, b.el, b.ty, b.fl⟩
theorem Wv {s : Side} {cap : Int} {l : List Plc} (h : Qo s cap l = true) : ZA (farS s) cap l = ZA s cap l := by
 have h' := h
 unfold Qo at h'
 simp only [Bool.and_eq_true, Bool.not_eq_true'] at h'
 obtain ⟨⟨h1, h2⟩, h3⟩ := h'
 have e : Jd (farS s) l.length cap (Xm cap l) = true := by
  unfold Jd at h1 ⊢
  rw [if_pos h2] at h1
  rw [if_pos (show (farS s).on = true from h2)]
  exact Zin h1 9 (by omega) (fun hs => by rw [h3] at hs; cases hs)
 unfold ZA
 have e1 : (farS s).on = s.on := rfl
 have e2 : (farS s).shut = s.shut := rfl
 have e3 : (farS s).place = s.place := rfl
 rw [e, e1, e2, e3, h1]
def Zco (s : Side) (cap : Int) (e : Edge) : Bool := ltI s.clock 9 && !(e.kind == 2) && !QX s cap e && QX (farS s) cap e
theorem Zlh {s : Side} {cap : Int} {l : List Plc} {e : Edge} (hp : Xm cap l = true) (h : e ∈ ZA s cap l) : Zco s cap e = XW s cap e := by
 obtain ⟨hk, hlo⟩ := Zdr (Zdq hp h)
 have hr : Jn (farS s) cap = Jn s cap := rfl
 have hc : (farS s).clock = 9 := rfl
 have h9 : leI e.lo 9 = true := by simp [leI]; omega
 unfold Zco XW QX
 rw [hr, hc, h9, Ztv s.clock e.lo]
 have lt9 : leI e.lo s.clock = false → ltI s.clock 9 = true := by simp [leI, ltI]; omega
 rcases hk with ⟨h1, _⟩ | h1 | h1
 ·simp only [h1]
  cases hle : leI e.lo s.clock with
  | true => cases leI (e.text.length : Int) (Jn s cap) <;> simp
  | false => rw [lt9 hle]; cases leI (e.text.length : Int) (Jn s cap) <;> simp
 ·simp [h1]
 ·simp only [h1]
  cases hle : leI e.lo s.clock with
  | true => simp
  | false => rw [lt9 hle]; simp

theorem Zip (s : Side) (cap : Int) (l : List Plc) (b : BdS s) (p : BdP l) : PCon UY 93 [.agg (Zn s), .agg (Xp cap l)] (· = .b (Zau s cap l)) := by
 refine Zt UK (fn := Tryz.f93) (by kernel_rfl) (by kernel_rfl) rfl ?_
 refine Zp UK 46 (fun K => ZC9 s.on s.shut s.eof s.place s.clock s.typed (row encT s.lines) s.lines.length s.fly (row encI s.ages) s.ages.length s.ready s.buffer cap (row ZG l) l.length .empty K) rfl (by kernel_rfl) ?_
 have hes := Zjx (s := s) (cap := cap) p
 refine ⟨rfl, ZK [2, 3, 5, 6] [2, 3, 4, 5, 6] rfl (by kernel_rfl) (fun m vs _ => ∃ i : Nat, vs = [.lb (Zn s), .lb (Xp cap l), .lb (Zn (farS s)), .i .i64 (i : Nat)] ∧ i ≤ (ZA s cap l).length ∧ m = (ZA s cap l).length - i ∧ ((ZA s cap l).take i).any (XW s cap) = false) (ZA s cap l).length Zu ⟨0, rfl, by omega, by omega, rfl⟩ ?_⟩
 rintro m vs h ⟨i, rfl, hi, rfl, hp⟩
 refine Zq UK (fun K => ZDa s.on s.shut s.eof s.place s.clock s.typed (row encT s.lines) s.lines.length s.fly (row encI s.ages) s.ages.length s.ready s.buffer cap (row ZG l) l.length (i : Nat) h K) rfl ?_
 refine ⟨_, Zdx s cap l b p, Zg (fun hlt => ?_) (fun hge => ?_)⟩
 ·have ha : Qo s cap l = true := by
   cases ha : Qo s cap l with
   | true => rfl
   | false => rw [Zah ha] at hlt; simp at hlt
  obtain ⟨p0, p1, x, hx, he, ht⟩ := Vi ha
  have hsame := Zlh (s := s) (Zdw ha) (List.getElem_mem hlt)
  have ho1 := Zcn s cap l hlt
  have ho2 := Zcn (farS s) cap l (i := i) (by rw [Wv ha]; exact hlt)
  have hT : ((ZA s cap l).take (i + 1)) = (ZA s cap l).take i ++ [(ZA s cap l)[i]] := List.take_succ_eq_append_getElem hlt
  have next : XW s cap (ZA s cap l)[i] = false → Xy UY 46 [2, 3, 4, 5, 6] [2, 3, 5, 6] (fun m vs _ => ∃ i : Nat, vs = [.lb (Zn s), .lb (Xp cap l), .lb (Zn (farS s)), .i .i64 (i : Nat)] ∧ i ≤ (ZA s cap l).length ∧ m = (ZA s cap l).length - i ∧ ((ZA s cap l).take i).any (XW s cap) = false) ((ZA s cap l).length - i) (Xi (post (flat (Za Tryz.f93)))) ((post (flat (Za Tryz.f93))).drop 1) (FinS UY Tryz.f93 fun v h => ∃ r, Frz h v r ∧ r = .b (Zau s cap l)) .normal 46 [.lb (Zn s), .lb (Xp cap l), .undef, .lb (Zn (farS s)), .i .i64 (IntKind.i64.wrap ((i : Int) + 1))] h := fun hn =>
   ⟨rfl, (ZA s cap l).length - (i + 1), by omega, i + 1, by rw [Zf (by omega)]; rfl, by omega, rfl, by rw [hT, List.any_append, hp]; simp [hn]⟩
  have hg : (ZA s cap l)[i] = x.edges[i]'(by rw [← he]; exact hlt) := by simp only [he]
  refine Zd (fun c1 => ?_) (fun c1 => next (by rw [← hsame, Zco, c1]; rfl))
  refine ⟨⟨p0, p1⟩, _, _, _, ht, by rw [← he]; exact bnd_nat hlt, (ZA s cap l)[i].kind, ?_, Zd (fun c2 => ?_) (fun c2 => next ?_)⟩
  ·rw [Int.toNat_natCast, List.drop_zero, Xg JS x.edges (by rw [← he]; exact hlt), hg]; rfl
  ·refine ⟨_, Zai s cap l (i : Nat) b p, Zd (fun c3 => ⟨_, Zai (farS s) cap l (i : Nat) b.far p, Zd (fun c4 => ?_) (fun c4 => next ?_)⟩) (fun c3 => next ?_)⟩
   ·rw [ho2] at c4
    have e : (ZA (farS s) cap l)[i]'(by rw [Wv ha]; exact hlt) = (ZA s cap l)[i] := by simp only [Wv ha]
    rw [e] at c4
    rw [ho1] at c3
    have hl : XW s cap (ZA s cap l)[i] = true := by
     rw [← hsame, Zco, c1, c4]
     have c2 : ((ZA s cap l)[i].kind == 2) = false := by simpa using c2
     rw [c2]; simpa using c3
    have : Zau s cap l = true := by
     unfold Zau; rw [List.any_eq_true]; exact ⟨_, List.getElem_mem hlt, hl⟩
    exact Zl (.inr rfl) rfl ⟨_, .b _, by rw [this]⟩
   ·rw [ho2] at c4
    have e : (ZA (farS s) cap l)[i]'(by rw [Wv ha]; exact hlt) = (ZA s cap l)[i] := by simp only [Wv ha]
    rw [e] at c4
    rw [← hsame, Zco, c4]; simp
   ·rw [ho1] at c3
    rw [← hsame, Zco]
    have c3 : QX s cap (ZA s cap l)[i] = true := by simpa using c3
    rw [c3]; simp
  ·have c2 : (ZA s cap l)[i].kind = 2 := by simpa using c2
   rw [← hsame, Zco, c2]; simp
 ·refine Ze [] (by kernel_rfl) rfl rfl ?_
  refine ZB UK (fun K => ZDb h K) rfl ?_
  rw [List.take_of_length_le hge] at hp
  exact Zs (.inr rfl) rfl (.b _) (by unfold Zau; rw [hp])
def Vj (l : List (List UInt8 × List UInt8)) (i : Nat) : Bool :=
 match l[i]? with
 | some v => Za3 v.1 && !ltI 32 v.2.length && (i == 0 || !(match l[i - 1]? with | some u => Op.bytesLess v.1 u.1 || v.1 == u.1 | none => false))
 | none => true
def memL (l : List (List UInt8 × List UInt8)) : Bool := (List.range l.length).all (Vj l) && leI l.length 16

theorem Zbf {p : Nat → Bool} {i n : Nat} (hi : i < n) (h : p i = false) : (List.range n).all p = false :=
 List.all_eq_false.2 ⟨i, List.mem_range.2 hi, by simp [h]⟩
theorem Zgz {i : Nat} (h : 0 < i) (h1 : i < 2 ^ 61) : IntKind.i64.wrap ((i : Int) - 1) = ((i - 1 : Nat) : Int) := by
 rw [Xu (by omega) (by omega)]; omega
theorem Zfc (l : List (List UInt8 × List UInt8)) {i : Nat} (hlt : i < l.length) : Zh 1 (List.drop 0 (List.drop (((i : Nat) : Int).toNat * 2) (row ZE l))) = some [.s l[i].1] := by
 rw [Int.toNat_natCast, List.drop_zero, Xg Wu l hlt]; rfl
theorem Zqs (l : List (List UInt8 × List UInt8)) {i : Nat} (hlt : i < l.length) : Zh 1 (List.drop 1 (List.drop (((i : Nat) : Int).toNat * 2) (row ZE l))) = some [.s l[i].2] := by
 rw [Int.toNat_natCast, Xg Wu l hlt]; rfl

theorem Zdy {l : List (List UInt8 × List UInt8)} (h : 0 < l.length) (h1 : Za3 l[0].1 = true) (h2 : ltI 32 l[0].2.length = false) : Vj l 0 = true := by
 simp only [Vj, List.getElem?_eq_getElem h, h1, h2]; rfl
theorem WN {l : List (List UInt8 × List UInt8)} {i : Nat} (h0 : 0 < i) (h : i < l.length) (h1 : Za3 l[i].1 = true) (h2 : ltI 32 l[i].2.length = false) : Vj l i = !(Op.bytesLess l[i].1 l[i - 1].1 || l[i].1 == l[i - 1].1) := by
 simp only [Vj, List.getElem?_eq_getElem h, List.getElem?_eq_getElem (show i - 1 < l.length by omega), h1, h2]
 have : (i == 0) = false := by simp; omega
 simp [this]
theorem Zdz {l : List (List UInt8 × List UInt8)} {i : Nat} (h : i < l.length) (h1 : Za3 l[i].1 = false) : Vj l i = false := by
 simp only [Vj, List.getElem?_eq_getElem h, h1]; rfl
theorem Zcp {l : List (List UInt8 × List UInt8)} {i : Nat} (h : i < l.length) (h1 : ltI 32 l[i].2.length = true) : Vj l i = false := by
 simp only [Vj, List.getElem?_eq_getElem h, h1]; simp

theorem Zqt (l : List (List UInt8 × List UInt8)) (hl : l.length < 2 ^ 30) (hs : ∀ v ∈ l, v.1.length < 2 ^ 30) : PCon UY 61 [lst ZE l] (· = .b (memL l)) := by
 refine Zt UK (fn := Tryz.f61) (by kernel_rfl) (by kernel_rfl) rfl ?_
 refine Zp UK 47 (fun K => ZC1 (row ZE l) l.length .empty K) rfl (by kernel_rfl) ?_
 refine ⟨rfl, ZK [0, 3] [0, 2, 3] rfl (by kernel_rfl) (fun m vs _ => ∃ i : Nat, vs = [lst ZE l, .i .i64 (i : Nat)] ∧ i ≤ l.length ∧ m = l.length - i ∧ (List.range i).all (Vj l) = true) l.length Zu ⟨0, rfl, by omega, by omega, rfl⟩ ?_⟩
 rintro m vs h ⟨i, rfl, hi, rfl, hp⟩
 refine Zq UK (fun K => ZC2 (row ZE l) l.length (i : Nat) h K) rfl ?_
 refine Zg (fun hlt => ?_) (fun hge => ?_)
 ·have no : Vj l i = false → Xy UY 47 [0, 2, 3] [0, 3] (fun m vs _ => ∃ i : Nat, vs = [lst ZE l, .i .i64 (i : Nat)] ∧ i ≤ l.length ∧ m = l.length - i ∧ (List.range i).all (Vj l) = true) (l.length - i) (Xi (post (flat (Za Tryz.f61)))) ((post (flat (Za Tryz.f61))).drop 1) (FinS UY Tryz.f61 fun v h => ∃ r, Frz h v r ∧ r = .b (memL l)) .ret 47 [lst ZE l, .b false, .i .i64 (i : Nat)] h := fun hn =>
   Zl (.inr rfl) rfl ⟨_, .b _, by rw [memL, Zbf hlt hn]; rfl⟩
  refine ⟨bnd_nat hlt, _, Zfc l hlt, _, Zt6 _ (hs _ (List.getElem_mem hlt)), Zd (fun hc => no (Zdz hlt (by simpa using hc))) (fun hc => ?_)⟩
  have h1 : Za3 l[i].1 = true := by simpa using hc
  refine ⟨bnd_nat hlt, _, Zqs l hlt, Zd (fun hc => no (Zcp hlt hc)) (fun h2 => ?_)⟩
  refine QF (fun h0 => ?_) (fun h0 => ?_)
  ·have e : IntKind.i64.wrap ((i : Int) - 1) = ((i - 1 : Nat) : Int) := Zgz h0 (by omega)
   refine ⟨bnd_nat hlt, _, Zfc l hlt, by rw [e]; exact bnd_nat (by omega), l[i - 1].1, by rw [e]; exact Zfc l (by omega), Zd (fun hc => no ?_) (fun hc => ?_)⟩
   ·rw [WN h0 hlt h1 h2, hc]; rfl
   ·refine ⟨rfl, l.length - (i + 1), by omega, i + 1, by rw [Zf (by omega)]; rfl, by omega, rfl, Xj hp ?_⟩
    rw [WN h0 hlt h1 h2, hc]; rfl
  ·subst h0
   exact ⟨rfl, l.length - 1, by omega, 1, rfl, by omega, rfl, Xj hp (Zdy hlt h1 h2)⟩
 ·refine Ze [0] (by kernel_rfl) rfl rfl ?_
  refine ZB UK (fun K => ZC3 (row ZE l) l.length h K) rfl ?_
  have he : i = l.length := by omega
  rw [he] at hp
  exact Zs (.inr rfl) rfl (.b _) (by rw [memL, hp]; rfl)

theorem Zt7 (l : List (List UInt8 × List UInt8)) (hl : l.length < 2 ^ 30) : PCon UY 172 [lst ZE l] (· = .b (memL l)) := by
 refine Zt UK (fn := Tryz.f172) (by kernel_rfl) (by kernel_rfl) rfl ?_
 refine Zp UK 41 (fun K => Zyx (row ZE l) l.length .empty K) rfl (by kernel_rfl) ?_
 refine ⟨rfl, ZK [0, 5, 6, 7] [0, 2, 5, 6, 7] rfl (by kernel_rfl) (fun m vs _ => ∃ i : Nat, vs = [lst ZE l, lst ZE l, .i .i64 l.length, .i .i64 (i : Nat)] ∧ i ≤ l.length ∧ m = l.length - i ∧ (List.range i).all (Vj l) = true) l.length Zu ⟨0, rfl, by omega, by omega, rfl⟩ ?_⟩
 rintro m vs h ⟨i, rfl, hi, rfl, hp⟩
 refine Zq UK (fun K => Zyy (row ZE l) l.length (i : Nat) h K) rfl ?_
 refine Zg (fun hlt => ?_) (fun hge => ?_)
 ·have no : Vj l i = false → Xy UY 41 [0, 2, 5, 6, 7] [0, 5, 6, 7] (fun m vs _ => ∃ i : Nat, vs = [lst ZE l, lst ZE l, .i .i64 l.length, .i .i64 (i : Nat)] ∧ i ≤ l.length ∧ m = l.length - i ∧ (List.range i).all (Vj l) = true) (l.length - i) (Xi (post (flat (Za Tryz.f172)))) ((post (flat (Za Tryz.f172))).drop 1) (FinS UY Tryz.f172 fun v h => ∃ r, Frz h v r ∧ r = .b (memL l)) .ret 41 [lst ZE l, .b false, lst ZE l, .i .i64 l.length, .i .i64 (i : Nat)] h := fun hn =>
   Zl (.inr rfl) rfl ⟨_, .b _, by rw [memL, Zbf hlt hn]; rfl⟩
  refine ⟨bnd_nat hlt, _, _, by rw [Int.toNat_natCast]; exact Zr (f := ZE) (k := 2) Wu hlt, _, Zt5 _, Zd (fun hc => no (Zdz hlt (by simpa using hc))) (fun hc => ?_)⟩
  have h1 : Za3 l[i].1 = true := by simpa using hc
  refine Zd (fun hc => no (Zcp hlt hc)) (fun h2 => ?_)
  refine QF (fun h0 => ?_) (fun h0 => ?_)
  ·have e : IntKind.i64.wrap ((i : Int) - 1) = ((i - 1 : Nat) : Int) := Zgz h0 (by omega)
   refine ⟨by rw [e]; exact bnd_nat (by omega), l[i - 1].1, by rw [e]; exact Zfc l (by omega), Zd (fun hc => no ?_) (fun hc => ?_)⟩
   ·rw [WN h0 hlt h1 h2, hc]; rfl
   ·refine ⟨rfl, l.length - (i + 1), by omega, i + 1, by rw [Zf (by omega)]; rfl, by omega, rfl, Xj hp ?_⟩
    rw [WN h0 hlt h1 h2, hc]; rfl
  ·subst h0
   exact ⟨rfl, l.length - 1, by omega, 1, rfl, by omega, rfl, Xj hp (Zdy hlt h1 h2)⟩
 ·refine Ze [0] (by kernel_rfl) rfl rfl ?_
  refine ZB UK (fun K => Zyz (row ZE l) l.length h K) rfl ?_
  have he : i = l.length := by omega
  rw [he] at hp
  exact Zs (.inr rfl) rfl (.b _) (by rw [memL, hp]; rfl)
structure BdM (m : Mdl) : Prop where
 ps : m.ps.length < 2 ^ 20
 pr : ∀ p ∈ m.ps, BdP p.2
 il : ∀ x ∈ m.ins, x.list.length < 2 ^ 20
structure BdC (c : Cfg) : Prop where
 sd : c.sides.length < 2 ^ 20
 sb : ∀ s ∈ c.sides, BdS s
 bu : ∀ s ∈ c.sides, s.buffer.length < 2 ^ 40
 vr : c.vars.length < 2 ^ 20
 vn : ∀ v ∈ c.vars, v.1.length < 2 ^ 30
 bf : c.before.length < 2 ^ 20
 af : c.after.length < 2 ^ 20

def Zaw (m : Mdl) (c : Cfg) (i : Nat) : Bool := match c.sides[i]?, m.ps[i]? with
 | some s, some p => Jd s p.2.length p.1 (Xm p.1 p.2) && !ltI m.mat s.buffer.length
 | _, _ => false
def Wc (m : Mdl) (c : Cfg) : Bool := decide (c.sides.length = m.ps.length) && (List.range c.sides.length).all (Zaw m c)
theorem Zg0 {m : Mdl} {c : Cfg} {i : Nat} (h1 : i < c.sides.length) (h2 : i < m.ps.length) : Zaw m c i = (Jd c.sides[i] m.ps[i].2.length m.ps[i].1 (Xm m.ps[i].1 m.ps[i].2) && !ltI m.mat c.sides[i].buffer.length) := by
 simp only [Zaw, List.getElem?_eq_getElem h1, List.getElem?_eq_getElem h2]

theorem Zqu (m : Mdl) (c : Cfg) (bm : BdM m) (bc : BdC c) : PCon UY 127 [.agg (mdlC m), .agg (cfgC c)] (· = .b (Wc m c)) := by
 refine Zt UK (fn := Tryz.f127) (by kernel_rfl) (by kernel_rfl) rfl ?_
 refine Zp UK 39 (fun K => Zy1 (row ZC m.ins) m.ins.length (row ZD m.ws) m.ws.length (row ZF m.ps) m.ps.length m.lat m.mat c.pc (row ZE c.vars) c.vars.length c.c0 c.c1 c.c2 c.c3 c.c4 c.c5 c.c6 c.c7 c.c8 c.c9 (row encI c.stack) c.stack.length c.mode c.err c.use c.tmo c.ela (row encI c.before) c.before.length (row encI c.after) c.after.length (row Zn c.sides) c.sides.length .empty K) rfl (by kernel_rfl) ?_
 have b1 := bm.ps
 have b2 := bc.sd
 refine Zd (fun h => Zl (so := [2, 4, 8, 15, 16, 17]) (.inr rfl) rfl ⟨_, .b _, ?_⟩) (fun h => ⟨rfl, ?_⟩)
 ·have h : ¬ c.sides.length = m.ps.length := by simp at h; omega
  unfold Wc; rw [decide_eq_false h]; rfl
 have hle : c.sides.length = m.ps.length := by simp at h; omega
 refine ZK [2, 8, 15, 16, 17] [2, 4, 8, 15, 16, 17] rfl (by kernel_rfl) (fun k vs _ => ∃ (i : Nat), vs = [.lb (mdlC m), lst Zn c.sides, lst Zn c.sides, .i .i64 c.sides.length, .i .i64 (i : Nat)] ∧ i ≤ c.sides.length ∧ k = c.sides.length - i ∧ (List.range i).all (Zaw m c) = true) c.sides.length Zu ⟨0, rfl, by omega, by omega, rfl⟩ ?_
 rintro k vs h ⟨i, rfl, hi, rfl, hp⟩
 refine Zq UK (fun K => Zy2 (row ZC m.ins) m.ins.length (row ZD m.ws) m.ws.length (row ZF m.ps) m.ps.length m.lat m.mat (row Zn c.sides) c.sides.length (i : Nat) h K) rfl ?_
 refine Zg (fun hlt => ?_) (fun hge => ?_)
 ·have h2 : i < m.ps.length := by omega
  have ha := Zg0 hlt h2
  have bs := bc.sb _ (List.getElem_mem hlt)
  have bs1 := bs.ag
  have bs2 := bs.ln
  have no : Zaw m c i = false → Xy UY 39 [2, 4, 8, 15, 16, 17] [2, 8, 15, 16, 17] (fun k vs _ => ∃ (i : Nat), vs = [.lb (mdlC m), lst Zn c.sides, lst Zn c.sides, .i .i64 c.sides.length, .i .i64 (i : Nat)] ∧ i ≤ c.sides.length ∧ k = c.sides.length - i ∧ (List.range i).all (Zaw m c) = true) (c.sides.length - i) (Xi (post (flat (Za Tryz.f127)))) ((post (flat (Za Tryz.f127))).drop 1) (FinS UY Tryz.f127 fun v h => ∃ r, Frz h v r ∧ r = .b (Wc m c)) .ret 39 [.lb (mdlC m), .b false, lst Zn c.sides, lst Zn c.sides, .i .i64 c.sides.length, .i .i64 (i : Nat)] h := fun hn =>
   Zl (.inr rfl) rfl ⟨_, .b _, by rw [Wc, Zbf hlt hn, Bool.and_false]⟩
  refine ⟨bnd_nat hlt, _, _, _, _, _, _, _, _, _, _, _, _, _, _, _, by rw [Int.toNat_natCast]; exact Zr (f := Zn) (k := 11) (fun _ => rfl) hlt, bnd_nat h2, _, _, _, _, by rw [Int.toNat_natCast]; exact Zr (f := ZF) (k := 2) QV h2, _, Zgu c.sides[i] m.ps[i].1 m.ps[i].2 (by omega) (by omega), Zd (fun hc => no ?_) (fun hc => Zd (fun hd => no ?_) (fun hd => ?_))⟩
  ·have hc : Jd c.sides[i] m.ps[i].2.length m.ps[i].1 (Xm m.ps[i].1 m.ps[i].2) = false := by simpa using hc
   rw [ha, hc]; rfl
  ·rw [ha, hd]; simp
  ·have hc : Jd c.sides[i] m.ps[i].2.length m.ps[i].1 (Xm m.ps[i].1 m.ps[i].2) = true := by simpa using hc
   exact ⟨rfl, c.sides.length - (i + 1), by omega, i + 1, by rw [Zf (by omega)]; rfl, by omega, rfl, Xj hp (by rw [ha, hc, hd]; rfl)⟩
 ·refine Ze [] (by kernel_rfl) rfl rfl ?_
  refine ZB UK (fun K => Zy3 h K) rfl ?_
  have he : i = c.sides.length := by omega
  rw [he] at hp
  exact Zs (.inr rfl) rfl (.b _) (by rw [Wc, hp, decide_eq_true hle]; rfl)
end Go.Y
