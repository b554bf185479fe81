/- A part of the proof. -/
import Derived.Test.YteennilbmmlikaaGreatDoorYAny
import Derived.OrdersIn
import Derived.Test.YteennilbmmlikaaGreatDoorYEff
namespace Go.Y
set_option maxRecDepth 1000000
set_option maxHeartbeats 0
section
variable {Y:YP} {loc:Nat->Bool} {ops:Array Oper}

structure Turn(Y:YP)(loc:Nat->Bool)(ops:Array Oper)(l:List (Ef×Foot))(σ0:St)(S:Nat->Bool)(i:Nat)(o:Oper)(x:Ef×Foot):Prop where
 at_:l[i]? =some x
 step:(∀k x' v,x.1≠ .nw k x' v)->Zt2 Y loc ops (sst S 0 ops.toList l σ0) o x.1
 key: ∀s f,x.1= .q (.ref s f)-> ∀y∈(sst S 0 ops.toList l σ0).refs,o.dst≠some y.1
 slot: ∀cs,x.1= .box cs-> ∀y∈(sst S 0 ops.toList l σ0).refs,o.dst≠some y.2.1
 env:(x.1.app o.dst (sst S 0 ops.toList l σ0)).env=(sst (fun j=>S j||j==i) 0 ops.toList l σ0).env
 h:(∀k x' v,x.1≠ .nw k x' v)->(x.1.app o.dst (sst S 0 ops.toList l σ0)).h=(sst (fun j=>S j||j==i) 0 ops.toList l σ0).h
 nw: ∀k x' v,x.1= .nw k x' v->Jf ops (sst S 0 ops.toList l σ0).env o=some true∧(∃vf,v=vf k∧newO Y (sst S 0 ops.toList l σ0) o=some (x',vf))∧
  PushH (sst S 0 ops.toList l σ0).h (sst (fun j=>S j||j==i) 0 ops.toList l σ0).h k x'
 refs: ∀y,y∈(sst (fun j=>S j||j==i) 0 ops.toList l σ0).refs->y∈(x.1.app o.dst (sst S 0 ops.toList l σ0)).refs

/-! ### Numbers in the text's order -/
def Txt(ops:Array Oper)(l:List (Ef×Foot))(σ0:St)(i:Nat):St:=sst (fun j=>decide (j<i)) 0 ops.toList l σ0

theorem Zgj{l:List (Ef×Foot)}{σ0:St}{i:Nat}{o:Oper}{x:Ef×Foot}(hi:ops.toList[i]? =some o)(hx:l[i]? =some x):sst (fun _=>true) 0 (ops.toList.take i) (l.take i) σ0=Txt ops l σ0 i:=by
 unfold Txt
 rw[Wv (fun j=>decide (j<i)) i 0 ops.toList l σ0 o x hi hx]
 simp only[Nat.zero_add,Nat.lt_irrefl,decide_false,Bool.false_eq_true,if_false]
 rw[Qs (i+1) _ _ _ (fun j=>decide (j<i)) (fun j=>by simp;omega)]
 exact JD 0 _ _ _ _ _ fun j hj=>by
  simp at hj ⊢;omega

theorem Zgk{l:List (Ef×Foot)}{σ0:St}{i:Nat}{o:Oper}{x:Ef×Foot}(hi:ops.toList[i]? =some o)(hx:l[i]? =some x):Txt ops l σ0 (i+1)=x.1.app o.dst (Txt ops l σ0 i):=by
 have h1:=Wv (fun j=>decide (j<i+1)) i 0 ops.toList l σ0 o x hi hx
 simp only[Nat.zero_add,Nat.lt_succ_self,decide_true,if_true]at h1
 unfold Txt
 rw[h1,Qs (i+1) _ _ _ (fun j=>decide (j<i+1)) (fun j=>by simp)]
 rw[JD 0 (ops.toList.take i) (l.take i) σ0 (fun j=>decide (j<i+1)) (fun _=>true) fun j hj=>by simp at hj ⊢;omega]
 rw[Zgj hi hx]
 rfl

theorem ZB5{d:Option Tmp}{e:Ef}{σ:St}(he:e.isHp=false):σ.h.nx<=(e.app d σ).h.nx:=by
 rw[VY]
 cases e with
 |hp h v=>cases he
 |al i o v=>cases he
 |nw i o v=>exact Nat.le_max_left _ _
 |_=>exact Nat.le_refl _

theorem Zqd{d d':Option Tmp}{e:Ef}{σ σ':St}(he:e.isHp=true):(e.app d σ).h.nx=(e.app d' σ').h.nx:=by
 rw[VY,VY]
 cases e<;>first|rfl|cases he

theorem Zcg{l:List (Ef×Foot)}{σ0 τ:St}(hl:Lex Y loc ops ops.toList σ0 l τ)(m:Nat): ∀(n:Nat),(∀q z,m<=q->q<m+n->l[q]? =some z->z.1.isHp=false)->(Txt ops l σ0 m).h.nx<=(Txt ops l σ0 (m+n)).h.nx
 |0,_=>Nat.le_refl _
 |n+1,hq=>by
  have h1:=Zcg hl m n fun q z h1 h2=>hq q z h1 (by omega)
  have hlen:=hl.length
  by_cases hb:m+n<l.length
  ·have hx:l[m+n]? =some l[m+n]:=by simp
   have ho:ops.toList[m+n]? =some (ops.toList[m+n]'(by rw[<-hlen];exact hb)):=by simp
   have h2:=Zgk (σ0:=σ0) ho hx
   have:m+(n+1)=m+n+1:=by omega
   rw[this,h2]
   exact Nat.le_trans h1 (ZB5 (hq (m+n) _ (by omega) (by omega) hx))
  ·have:Txt ops l σ0 (m+(n+1))=Txt ops l σ0 (m+n):=by
    unfold Txt
    exact JD 0 _ _ _ _ _ fun j hj=>by
     have:j<m+n:=by omega
     simp[this];omega
   rw[this];exact h1

theorem Zt7{l:List (Ef×Foot)}{σ0 τ:St}(hl:Lex Y loc ops ops.toList σ0 l τ){j:Nat}{y:Ef×Foot}{k:Nat}(hy:l[j]? =some y)(hn:y.1.nwI=some k):k=(Txt ops l σ0 j).h.nx∧k<(Txt ops l σ0 (j+1)).h.nx:=by
 have hj:j<ops.toList.length:=by rw[<-hl.length];exact(List.getElem?_eq_some_iff.1 hy).1
 have ho:ops.toList[j]? =some (ops.toList[j]):=by simp
 obtain⟨y',h3,h4,_⟩:=hl.at 0 j _ ho
 rw[hy]at h3;cases h3
 rw[Zgj ho hy]at h4
 obtain⟨e,f⟩:=y
 cases e with
 |nw i x v=>
  simp only[Ef.nwI,Option.some.injEq]at hn
  subst hn
  rcases h4 with ⟨_,h5⟩|⟨_,h5⟩
  ·cases h5
  ·obtain⟨h6,_⟩:=h5.nwI
   refine⟨h6,?_⟩
   rw[Zgk ho hy,VY]
   exact Nat.lt_of_lt_of_le (Nat.lt_succ_self _) (Nat.le_max_right _ _)
 |_=>cases hn

theorem Zyg{l:List (Ef×Foot)}{σ0 τ:St}(hl:Lex Y loc ops ops.toList σ0 l τ){m j:Nat}{x y:Ef×Foot}{a b:Nat}(hm:l[m]? =some x)(hj:l[j]? =some y)(ha:x.1.nwI=some a)(hb:y.1.nwI=some b)(hmj:m<j)
  (hq: ∀q z,m<q->q<j->l[q]? =some z->z.1.isHp=false):a<b:=by
 obtain⟨h1,h2⟩:=Zt7 hl hm ha
 obtain⟨h3,_⟩:=Zt7 hl hj hb
 have:=Zcg hl (m+1) (j-(m+1)) fun q z h4 h5=>hq q z (by omega) (by omega)
 have e:m+1+(j-(m+1))=j:=by omega
 rw[e]at this
 omega

theorem Zmb{S:Nat->Bool}{k:Nat}{x':YObj} : ∀(n:Nat) (os:List Oper) (l:List (Ef×Foot)) (σ σ':St),PushH σ.h σ'.h k x'->
  (∀j o y,os[j]? =some o->l[j]? =some y->S (n+j)=true->y.1.isHp=false∧y.1.nwI≠some k)->PushH (sst S n os l σ).h (sst S n os l σ').h k x'
 |n,[],l,σ,σ',h,_=>by cases l<;>simpa[sst]using h
 |n,o::r,[],σ,σ',h,_=>by simpa[sst]using h
 |n,o::r,y::l,σ,σ',h,hq=>by
  simp only[sst]
  refine Zmb (n+1) r l _ _ ?_ fun j o' y' h1 h2 h3=>hq (j+1) o' y' (by simpa using h1) (by simpa using h2) (by rw[<-h3];congr 1;omega)
  cases hS:S n with
  |false=>simpa using h
  |true=>
   simp only[if_true]
   obtain⟨h1,h2⟩:=hq 0 o y rfl rfl (by simpa using hS)
   rw[VY,VY]
   obtain⟨e,f⟩:=y
   cases e with
   |hp _ _=>cases h1
   |al _ _ _=>cases h1
   |nw i o' v=>
    simp only[Ef.nwI,ne_eq,Option.some.injEq]at h2
    refine⟨fun j=> ?_,⟨?_,?_⟩,h.tg⟩
    ·rw[Heap.putM_raw,Heap.putM_raw,h.raw]
     by_cases e1:j=i
     ·have: ¬j=k:=fun e2=>h2 (by rw[<-e1,e2])
      simp[e1,h2]
     ·simp[e1]
    ·have:=h.nx.1
     show max _ _<=max _ _
     omega
    ·exact Nat.lt_of_lt_of_le h.nx.2 (Nat.le_max_left _ _)
   |_=>exact h

theorem turn{l:List (Ef×Foot)}{σ0 τ:St}(hr:σ0.refs= [])(hl:Lex Y loc ops ops.toList σ0 l τ)(ho:Ord ops l){S:Nat->Bool}(hS:VZ ops S)
  {i:Nat} {o:Oper} (hi:ops[i]? =some o) (hu:S i=false) (hd: ∀e∈o.after,Region.binds .any e=true->S e.on=true): ∃x,Turn Y loc ops l σ0 S i o x:=by
 have hil:ops.toList[i]? =some o:=by simpa using hi
 obtain⟨x,hx,hw,hf,hk⟩:=hl.at 0 i o hil
 -- the state in the text's order, as a set's
 have hlex:sst (fun _=>true) 0 (ops.toList.take i) (l.take i) σ0=sst (fun j=>decide (j<i)) 0 ops.toList l σ0:=Zgj hil hx
 rw[hlex]at hw hf hk
 let ρ:=sst (fun j=>decide (j<i)) 0 ops.toList l σ0
 let σ:=sst S 0 ops.toList l σ0
 -- what clashes with it is done just if it stands ahead
 have same: ∀(j:Nat) (oj:Oper) (y:Ef×Foot),ops.toList[j]? =some oj->l[j]? =some y->(j<i->XU ops oj o y.2 x.2=true)->(i<j->XU ops o oj x.2 y.2=true)->decide (j<i)=S j:=by
  intro j oj y hoj hy h1 h2
  have hoj':ops[j]? =some oj:=by simpa using hoj
  rcases Nat.lt_trichotomy j i with hj|hj|hj
  ·rw[decide_eq_true hj]
   exact(ho.cr S hS j i oj o y x hj hoj' hi hy hx (h1 hj) hd).symm
  ·subst hj;simp[hu]
  ·rw[decide_eq_false (by omega)]
   cases hSj:S j with
   |false=>rfl
   |true=>
    have:=ho.cl S hS i j o oj x y hj hi hoj' hx hy (h2 hj) hSj
    rw[hu]at this;cases this
 have same': ∀(j:Nat) (oj:Oper) (y:Ef×Foot),ops.toList[j]? =some oj->l[j]? =some y->(j<i->XU ops oj o y.2 x.2=true)->(i<j->XU ops o oj x.2 y.2=true)->decide (0+j<i)=S (0+j):=by
  intro j oj y h1 h2 h3 h4
  rw[Nat.zero_add];exact same j oj y h1 h2 h3 h4
 have a1: ∀t,(t∈o.looksAt ops∨t∈x.2.t)->R1 t ρ σ:=fun t ht=>Qd (R1.keeps t) R1.symm 0 _ _ _ _ (R1.refl t σ0) fun j oj y h1 h2 h3=>by
  have h3':oj.dst=some t:=h3
  refine same' j oj y h1 h2 (fun _=>Zbk h3' ?_) (fun _=>Zkn h3' ?_)
  ·rcases ht with h|h
   ·exact .inl h
   ·exact .inr (.inr (.inl h))
  ·rcases ht with h|h
   ·exact .inl h
   ·exact .inr (.inr (.inl h))
 have y_w: ∀(j:Nat) (oj:Oper) (y:Ef×Foot),ops.toList[j]? =some oj->l[j]? =some y->y.2.w=y.1.stS∧y.2.hw=y.1.isHp∧(∀s∈y.1.refS,s∈y.2.t)∧(∀s∈y.1.stS,s∈y.2.r)∧(y.1.isHp=true->y.2.hr=true)∧y.2.al=y.1.alI∧y.2.nw=y.1.nwI:=by
  intro j oj y h1 h2
  obtain⟨y',h3,_,h4,_⟩:=hl.at 0 j oj h1
  rw[h2]at h3;cases h3
  rw[h4]
  exact⟨rfl,rfl,fun s hs=>List.mem_append_right _ hs,fun s hs=>List.mem_append_right _ hs,fun h=>by simp[Vk,h],rfl,rfl⟩
 obtain⟨x_w,x_hw,x_t,x_r,x_hr,x_al,x_nw⟩:=y_w i o x hil hx
 have a3: ∀s,s∈x.2.r->R3 s ρ σ:=fun s hs=>Qd (R3.keeps s) R3.symm 0 _ _ _ _ (R3.refl s σ0) fun j oj y h1 h2 h3=>by
  have hyw:=(y_w j oj y h1 h2).1
  rcases h3 with h3|h3
  ·exact same' j oj y h1 h2 (fun _=>Zbk h3 (.inr (.inr (.inr hs)))) (fun _=>Zkn h3 (.inr (.inr (.inr hs))))
  ·exact same' j oj y h1 h2 (fun _=>Zl9 (by rw[hyw];exact h3) hs) (fun _=>Zt3 (by rw[hyw];exact h3) hs)
 have a4:x.2.hr=true->ρ.h=σ.h:=fun hh=>Qd R4.keeps R4.symm 0 _ _ _ _ (rfl:R4 σ0 σ0) fun j oj y h1 h2 h3=>by
  have hyw:=(y_w j oj y h1 h2).2.1
  have hyn:=(y_w j oj y h1 h2).2.2.2.2.2.2
  rcases h3 with h3|h3
  ·exact same' j oj y h1 h2 (fun _=>Zgi (by rw[hyw];exact h3) hh) (fun _=>Zt6 (by rw[hyw];exact h3) hh)
  ·obtain⟨k,h3⟩:=Option.isSome_iff_exists.1 h3
   exact same' j oj y h1 h2 (fun _=>JU (by rw[hyn];exact h3) (.inl hh)) (fun _=>WS (by rw[hyn];exact h3) (.inl hh))
 have a5: ∀k,k∈x.2.ro->ρ.h.get k=σ.h.get k:=fun k hk5=>Qd (R5.keeps k) R5.symm 0 _ _ _ _ (rfl:R5 k σ0 σ0) fun j oj y h1 h2 h3=>by
  have hyw:=(y_w j oj y h1 h2).2.1
  have hya:=(y_w j oj y h1 h2).2.2.2.2.2.1
  have hyn:=(y_w j oj y h1 h2).2.2.2.2.2.2
  rcases h3 with h3|h3
  ·exact same' j oj y h1 h2 (fun _=>Zt4 (by rw[hyw];exact h3.1) (by rw[hya];exact h3.2) hk5) (fun _=>Zt5 (by rw[hyw];exact h3.1) (by rw[hya];exact h3.2) hk5)
  ·exact same' j oj y h1 h2 (fun _=>JU (by rw[hyn];exact h3) (.inr hk5)) (fun _=>WS (by rw[hyn];exact h3) (.inr hk5))
 have hago:AgO ρ σ o:=by
  refine⟨fun t ht=>(a1 t (.inl (Zqc ht))).2,fun t ht s hs=>(a1 s (.inr ?_)).2.env,fun s hs=>(a3 s ?_).2,fun hh=>a4 ?_,fun k hk5=>a5 k ?_⟩
  ·rw[hf];exact List.mem_append_left _ (List.mem_filterMap.2 ⟨t,ht,hs⟩)
  ·rw[hf];exact List.mem_append_left _ hs
  ·rw[hf];simp[Vk,ρ]at hh ⊢;exact .inl hh
  ·rw[hf];exact hk5
 have hguard:Jf ops σ.env o=Jf ops ρ.env o:=by
  cases hg:o.guard with
  |none=>simp[Jf,hg]
  |some jw=>
   obtain⟨j,want⟩:=jw
   cases hdd:(ops[j]?).bind (·.dst) with
   |none=>simp[Jf,hg,hdd]
   |some d=>exact Zif hg hdd (a1 d (.inl (Zkm hg hdd))).2.env
 have hstep:(∀k x' v,x.1≠ .nw k x' v)->Zt2 Y loc ops σ o x.1:=by
  intro hnn
  rcases hw with ⟨h1,h2⟩|⟨h1,h2⟩
  ·exact .inl ⟨by rw[hguard];exact h1,h2⟩
  ·refine .inr ⟨by rw[hguard];exact h1,h2.local hago (fun h v he=>a4 ?_) (fun i x' v he=>a4 ?_) hnn⟩
   ·exact x_hr (by rw[he];rfl)
   ·exact x_hr (by rw[he];rfl)
 -- references
 have hrefs: ∀y∈σ.refs,∃(j:Nat) (oj:Oper) (z:Ef×Foot),ops.toList[j]? =some oj∧l[j]? =some z∧S j=true∧oj.dst=some y.1∧z.1= .q (.ref y.2.1 y.2.2)∧(j<i->y∈ρ.refs):=by
  intro y hy
  rcases(Zaa 0 _ _ _ _ _).1 hy with h|⟨j,oj,z,h1,h2,h3,h4,h5⟩
  ·rw[hr]at h;simp at h
  ·rw[Nat.zero_add]at h3
   refine⟨j,oj,z,h1,h2,h3,h4,h5,fun hj=>(Zaa 0 _ _ _ _ _).2 (.inr ⟨j,oj,z,h1,h2,?_,h4,h5⟩)⟩
   rw[Nat.zero_add];exact decide_eq_true hj
 have hlate: ∀(j:Nat) (oj:Oper) (z:Ef×Foot),ops.toList[j]? =some oj->l[j]? =some z->S j=true->i<j->XU ops o oj x.2 z.2=true->False:=by
  intro j oj z h1 h2 h3 h4 h5
  have:=same j oj z h1 h2 (fun h=>absurd h (by omega)) (fun _=>h5)
  rw[h3]at this
  simp at this;omega
 have hkey: ∀s f,x.1= .q (.ref s f)-> ∀y∈σ.refs,o.dst≠some y.1:=by
  intro s f he y hy hdst
  obtain⟨j,oj,z,h1,h2,h3,h4,h5,h6⟩:=hrefs y hy
  rcases Nat.lt_trichotomy j i with hj|hj|hj
  ·have:=h6 hj
   simp only[Zda,he,hdst]at hk
   have:=List.all_eq_true.1 hk y this
   simp at this
  ·subst hj;rw[hu]at h3;cases h3
  ·exact hlate j oj z h1 h2 h3 hj (Zbk hdst (.inr (.inl h4)))
 have hslot: ∀cs,x.1= .box cs-> ∀y∈σ.refs,o.dst≠some y.2.1:=by
  intro cs he y hy hdst
  obtain⟨j,oj,z,h1,h2,h3,h4,h5,h6⟩:=hrefs y hy
  rcases Nat.lt_trichotomy j i with hj|hj|hj
  ·have:=h6 hj
   simp only[Zda,he,hdst]at hk
   have:=List.all_eq_true.1 hk y this
   simp at this
  ·subst hj;rw[hu]at h3;cases h3
  ·exact hlate j oj z h1 h2 h3 hj (Zbk hdst (.inr (.inr (.inl ((y_w j oj z h1 h2).2.2.1 _ (by rw[h5];simp[Ef.refS]))))))
 -- the state behind it
 let S':Nat->Bool:=fun j=>S j||j==i
 have hsp:σ=sst S (i+1) (ops.toList.drop (i+1)) (l.drop (i+1)) (sst S 0 (ops.toList.take i) (l.take i) σ0):=by
  have:=Wv S i 0 ops.toList l σ0 o x hil hx
  simp only[Nat.zero_add,hu,Bool.false_eq_true,if_false]at this
  exact this
 have hsp':sst S' 0 ops.toList l σ0=sst S (i+1) (ops.toList.drop (i+1)) (l.drop (i+1)) (x.1.app o.dst (sst S 0 (ops.toList.take i) (l.take i) σ0)):=by
  have:=Wv S' i 0 ops.toList l σ0 o x hil hx
  have e1:S' i=true:=by simp[S']
  simp only[Nat.zero_add,e1,if_true]at this
  rw[this]
  rw[JD 0 (ops.toList.take i) (l.take i) σ0 S' S fun j hj=>by
   simp at hj
   have: ¬j=i:=by omega
   simp[S',this]]
  exact JD (i+1) _ _ _ S' S fun j hj=>by
   have: ¬(i+1+j=i):=by omega
   simp[S',this]
 let π:=sst S 0 (ops.toList.take i) (l.take i) σ0
 have hrest: ∀(j:Nat) (oj:Oper) (y:Ef×Foot),(ops.toList.drop (i+1))[j]? =some oj->(l.drop (i+1))[j]? =some y->XU ops o oj x.2 y.2=true->S (i+1+j)=false:=by
  intro j oj y h1 h2 h3
  rw[List.getElem?_drop]at h1 h2
  cases hSj:S (i+1+j) with
  |false=>rfl
  |true=>exact(hlate (i+1+j) oj y h1 h2 hSj (by omega) h3).elim
 have b3: ∀t,R3 t (x.1.app o.dst σ) (sst S' 0 ops.toList l σ0):=by
  intro t
  rw[hsp,hsp']
  by_cases htc:Zwj t o x
  ·have stay: ∀X:St,R3 t (sst S (i+1) (ops.toList.drop (i+1)) (l.drop (i+1)) X) X:=by
    intro X
    have:=Qd (R3.keeps t) R3.symm (S:=S) (S':=fun _=>false) (i+1) (ops.toList.drop (i+1)) (l.drop (i+1)) X X (R3.refl t X) fun j oj y h1 h2 h3=>hrest j oj y h1 h2 (by
     have hyw:=(y_w (i+1+j) oj y (by rw[<-List.getElem?_drop];exact h1) (by rw[<-List.getElem?_drop];exact h2)).1
     rcases htc with ht|ht
     ·rcases h3 with h3|h3
      ·exact Zbk ht (.inr (.inl h3))
      ·exact Zbk ht (.inr (.inr (.inr ((y_w (i+1+j) oj y (by rw[<-List.getElem?_drop];exact h1) (by rw[<-List.getElem?_drop];exact h2)).2.2.2.1 _ h3))))
     ·rcases h3 with h3|h3
      ·exact Zkn h3 (.inr (.inr (.inr (x_r _ ht))))
      ·exact Zl9 (by rw[x_w];exact ht) ((y_w (i+1+j) oj y (by rw[<-List.getElem?_drop];exact h1) (by rw[<-List.getElem?_drop];exact h2)).2.2.2.1 _ h3))
    rwa [Qs (i+1) _ _ _ (fun _=>false) (fun _=>rfl)]at this
   have h1:=(R3.keeps t).both _ _ o x (stay π)
   have h2:=stay (x.1.app o.dst π)
   exact⟨Eq.trans h1.1 (Eq.symm h2.1),h1.2.trans h2.2.symm⟩
  ·have h1:=(R3.keeps t).left _ _ o x (R3.refl t (sst S (i+1) (ops.toList.drop (i+1)) (l.drop (i+1)) π)) htc
   have h2:=Qd (R3.keeps t) R3.symm (S:=S) (S':=S) (i+1) (ops.toList.drop (i+1)) (l.drop (i+1)) _ _ ((R3.keeps t).left _ _ o x (R3.refl t π) htc) fun _ _ _ _ _ _=>rfl
   exact⟨Eq.trans h1.1 (Eq.symm h2.1),h1.2.trans h2.2.symm⟩
 have b4:(∀k x' v,x.1≠ .nw k x' v)->R4 (x.1.app o.dst σ) (sst S' 0 ops.toList l σ0):=by
  intro hnn
  have htn: ∀ {q:Ef},q=x.1->q.nwI.isSome=true->False:=fun {q} he hq=>by cases q<;>first|exact hnn _ _ _ he.symm|cases hq
  rw[hsp,hsp']
  by_cases htc:Zie o x
  ·have stay: ∀X:St,R4 (sst S (i+1) (ops.toList.drop (i+1)) (l.drop (i+1)) X) X:=by
    intro X
    have:=Qd R4.keeps R4.symm (S:=S) (S':=fun _=>false) (i+1) (ops.toList.drop (i+1)) (l.drop (i+1)) X X (rfl:R4 X X) fun j oj y h1 h2 h3=>hrest j oj y h1 h2 (by
     have hy:=y_w (i+1+j) oj y (by rw[<-List.getElem?_drop];exact h1) (by rw[<-List.getElem?_drop];exact h2)
     have htc':=htc.resolve_right (htn rfl)
     rcases h3 with h3|h3
     ·exact Zgi (by rw[x_hw];exact htc') (hy.2.2.2.2.1 h3)
     ·obtain⟨k,h3⟩:=Option.isSome_iff_exists.1 h3
      exact WS (by rw[hy.2.2.2.2.2.2];exact h3) (.inl (x_hr htc')))
    rwa [Qs (i+1) _ _ _ (fun _=>false) (fun _=>rfl)]at this
   exact((R4.keeps).both _ _ o x (stay π)).trans (Eq.symm (stay (x.1.app o.dst π)))
  ·have h1:=R4.keeps.left _ _ o x (rfl:R4 (sst S (i+1) (ops.toList.drop (i+1)) (l.drop (i+1)) π) _) htc
   have h2:=Qd R4.keeps R4.symm (S:=S) (S':=S) (i+1) (ops.toList.drop (i+1)) (l.drop (i+1)) _ _ (R4.keeps.left _ _ o x (rfl:R4 π π) htc) fun _ _ _ _ _ _=>rfl
   exact Eq.trans h1 (Eq.symm h2)
 have b5: ∀k x' v,x.1= .nw k x' v->PushH σ.h (sst S' 0 ops.toList l σ0).h k x':=by
  intro k x' v he
  rw[hsp,hsp']
  refine Zmb (i+1) _ _ _ _ ?_ fun j oj y h1 h2 h3=> ?_
  ·rw[he,VY];exact .putM _ _ _
  ·have h1':ops.toList[i+1+j]? =some oj:=by rw[<-List.getElem?_drop];exact h1
   have h2':l[i+1+j]? =some y:=by rw[<-List.getElem?_drop];exact h2
   have hy:=y_w (i+1+j) oj y h1' h2'
   have hxn:x.2.nw=some k:=by rw[x_nw,he];rfl
   refine⟨?_,fun hyn=> ?_⟩
   ·cases hh:y.1.isHp with
    |false=>rfl
    |true=>exact(hlate (i+1+j) oj y h1' h2' h3 (by omega) (JU hxn (.inl (hy.2.2.2.2.1 hh)))).elim
   ·have:=Zyg hl hx h2' (by rw[he];rfl:x.1.nwI=some k) hyn (by omega) fun q z q1 q2 hz=>by
     cases hh:z.1.isHp with
     |false=>rfl
     |true=>
      have hqo:q<ops.toList.length:=by rw[<-hl.length];exact(List.getElem?_eq_some_iff.1 hz).1
      have hoq:ops.toList[q]? =some (ops.toList[q]):=by simp
      have hzw:=y_w q _ z hoq hz
      have hzr:=hzw.2.2.2.2.1 hh
      have c1:S q=true:=ho.cl S hS q (i+1+j) _ oj z y q2 (Array.getElem?_toList▸hoq) (Array.getElem?_toList▸h1') hz h2' (WS (by rw[hy.2.2.2.2.2.2];exact hyn) (.inl hzr)) h3
      exact(hlate q _ z hoq hz c1 q1 (JU hxn (.inl hzr))).elim
    omega
 refine⟨x,hx,hstep,hkey,hslot,Zyf (b3 0).1 fun t=>(b3 t).2,b4,fun k x' v he=>⟨?_,?_,b5 k x' v he⟩,fun y hy=> ?_⟩
 ·rcases hw with ⟨h1,h2⟩|⟨h1,h2⟩
  ·rw[he]at h2;cases h2
  ·rw[hguard];exact h1
 ·rcases hw with ⟨h1,h2⟩|⟨h1,h2⟩
  ·rw[he]at h2;cases h2
  ·rw[he]at h2
   obtain⟨_,vf,h3,h4⟩:=h2.nwI
   exact⟨vf,h3,by rw[Ze3 hago];exact h4⟩
 rcases(Zaa 0 _ _ _ _ _).1 hy with h|⟨j,oj,z,h1,h2,h3,h4,h5⟩
 ·rw[hr]at h;simp at h
 ·rw[Nat.zero_add]at h3
  rw[WR]
  have old:S j=true->y∈σ.refs:=fun hSj=>(Zaa 0 _ _ _ _ _).2 (.inr ⟨j,oj,z,h1,h2,by rw[Nat.zero_add];exact hSj,h4,h5⟩)
  cases hSj:S j with
  |true=>
   split
   ·exact List.mem_cons_of_mem _ (old hSj)
   ·exact old hSj
  |false=>
   have h3:j=i:=by simpa[hSj]using h3
   subst h3
   rw[hil]at h1;cases h1
   rw[hx]at h2;cases h2
   rw[h5,h4]
   simp

def Zt8(ops:Array Oper)(l:List (Ef×Foot))(σ0:St)(S:Nat->Bool):Prop:=
 ∀j y k,l[j]? =some y->y.1.nwI=some k->S j=false->(∀q z,q<j->l[q]? =some z->z.1.isHp=true->S q=true)->(sst S 0 ops.toList l σ0).h.raw k=none

theorem Ji{l:List (Ef×Foot)}{σ0 τ:St}(hl:Lex Y loc ops ops.toList σ0 l τ){j:Nat}{y:Ef×Foot}(hy:l[j]? =some y): ∃o,ops[j]? =some o∧y.2.hw=y.1.isHp∧(y.1.isHp=true->y.2.hr=true)∧y.2.nw=y.1.nwI:=by
 have hj:j<ops.toList.length:=by rw[<-hl.length];exact(List.getElem?_eq_some_iff.1 hy).1
 have ho:ops.toList[j]? =some (ops.toList[j]):=by simp
 obtain⟨y',h3,_,h4,_⟩:=hl.at 0 j _ ho
 rw[hy]at h3;cases h3
 exact⟨_,Array.getElem?_toList▸ho,by rw[h4];rfl,fun h=>by rw[h4];simp[Vk,h],by rw[h4];rfl⟩

theorem Zn5{l:List (Ef×Foot)}{σ0 τ:St}(hl:Lex Y loc ops ops.toList σ0 l τ)(ho:Ord ops l){S:Nat->Bool}(hS:VZ ops S){i:Nat}{o:Oper}(hi:ops[i]? =some o)(hu:S i=false)
  (hd: ∀e∈o.after,Region.binds .any e=true->S e.on=true) {x:Ef×Foot} (ht:Turn Y loc ops l σ0 S i o x) (hf:Zt8 ops l σ0 S)
  (hlt: ∀k,((sst (fun j=>S j||j==i) 0 ops.toList l σ0).h.raw k).isSome=true->k<(sst (fun j=>S j||j==i) 0 ops.toList l σ0).h.nx):Zt8 ops l σ0 (fun j=>S j||j==i):=by
 intro j y k hy hk hj hq
 simp only[Bool.or_eq_false_iff,beq_eq_false_iff_ne,ne_eq]at hj
 obtain⟨hSj,hji⟩:=hj
 obtain⟨oj,hoj,yw,yr,yn⟩:=Ji hl hy
 obtain⟨_,hoi,xw,xr,xn⟩:=Ji hl ht.at_
 rw[hi]at hoi;cases hoi
 have hil:ops.toList[i]? =some o:=by simpa using hi
 have yk:y.2.nw=some k:=by rw[yn];exact hk
 have old: ∀q z,q<j->q≠i->l[q]? =some z->z.1.isHp=true->S q=true:=fun q z h1 h2 h3 h4=>by
  have:=hq q z h1 h3 h4
  simpa[h2]using this
 cases hxh:x.1.isHp with
 |true=>
  have hij:i<j:=by
   rcases Nat.lt_trichotomy i j with h|h|h
   ·exact h
   ·exact absurd h.symm hji
   ·have:=ho.cr S hS j i oj o y x h hoj hi hy ht.at_ (JU yk (.inl (xr hxh))) hd
    rw[hSj]at this;cases this
  have hnn: ∀k x' v,x.1≠ .nw k x' v:=fun k x' v he=>by rw[he]at hxh;cases hxh
  have h1:=Zcg hl (i+1) (j-(i+1)) fun q z h4 h5 hz=>by
   cases hh:z.1.isHp with
   |false=>rfl
   |true=>
    obtain⟨oq,hoq,zw,zr,_⟩:=Ji hl hz
    have c1:=old q z (by omega) (by omega) hz hh
    have:=ho.cl S hS i q o oq x z (by omega) hi hoq ht.at_ hz (Zgi (by rw[xw];exact hxh) (zr hh)) c1
    rw[hu]at this;cases this
  have e:i+1+(j-(i+1))=j:=by omega
  rw[e,Zgk hil ht.at_]at h1
  have h2:=ht.h hnn
  have h3:(x.1.app o.dst (Txt ops l σ0 i)).h.nx=(sst (fun j=>S j||j==i) 0 ops.toList l σ0).h.nx:=by rw[<-h2];exact Zqd hxh
  obtain⟨h5,_⟩:=Zt7 hl hy hk
  cases hr:(sst (fun j=>S j||j==i) 0 ops.toList l σ0).h.raw k with
  |none=>rfl
  |some r=>have:=hlt k (by rw[hr];rfl);omega
 |false=>
  have hx0:(sst S 0 ops.toList l σ0).h.raw k=none:=hf j y k hy hk hSj fun q z h1 h2 h3=>old q z h1 (fun e=>by subst e;rw[ht.at_]at h2;cases h2;rw[hxh]at h3;cases h3) h2 h3
  by_cases hn: ∃k' x' v,x.1= .nw k' x' v
  ·obtain⟨k',x',v,he⟩:=hn
   have hxk:x.1.nwI=some k':=by rw[he];rfl
   have xk:x.2.nw=some k':=by rw[xn];exact hxk
   rw[(ht.nw k' x' v he).2.2.raw]
   have hne:k≠k':=by
    rcases Nat.lt_trichotomy i j with h|h|h
    ·have:=Zyg hl ht.at_ hy hxk hk h fun q z q1 q2 hz=>by
      cases hh:z.1.isHp with
      |false=>rfl
      |true=>
       obtain⟨oq,hoq,zw,zr,_⟩:=Ji hl hz
       have c1:=old q z q2 (by omega) hz hh
       have:=ho.cl S hS i q o oq x z q1 hi hoq ht.at_ hz (JU xk (.inl (zr hh))) c1
       rw[hu]at this;cases this
     omega
    ·exact absurd h.symm hji
    ·have:=Zyg hl hy ht.at_ hk hxk h fun q z q1 q2 hz=>by
      cases hh:z.1.isHp with
      |false=>rfl
      |true=>
       obtain⟨oq,hoq,zw,zr,_⟩:=Ji hl hz
       have c1:=ho.cr S hS q i oq o z x q2 hoq hi hz ht.at_ (WS xk (.inl (zr hh))) hd
       have:=ho.cl S hS j q oj oq y z q1 hoj hoq hy hz (JU yk (.inl (zr hh))) c1
       rw[hSj]at this;cases this
     omega
   rw[if_neg hne];exact hx0
  ·have hnn: ∀k x' v,x.1≠ .nw k x' v:=fun k' x' v he=>hn ⟨k',x',v,he⟩
   rw[<-ht.h hnn,VY]
   obtain⟨e,f⟩:=x
   cases e with
   |hp _ _=>cases hxh
   |al _ _ _=>cases hxh
   |nw _ _ _=>exact absurd rfl (hnn _ _ _)
   |_=>exact hx0

theorem Zn6{l:List (Ef×Foot)}{σ0 τ:St}(hl:Lex Y loc ops ops.toList σ0 l τ){S:Nat->Bool}(hS: ∀j,S j=false)(hlt: ∀k,(σ0.h.raw k).isSome=true->k<σ0.h.nx):Zt8 ops l σ0 S:=by
 intro j y k hy hk _ hq
 rw[Qs _ _ _ _ _ fun j=>hS _]
 obtain⟨h1,_⟩:=Zt7 hl hy hk
 have h2:=Zcg hl 0 j fun q z _ h3 hz=>by
  cases hh:z.1.isHp with
  |false=>rfl
  |true=>have:=hq q z (by omega) hz hh;rw[hS]at this;cases this
 have h0:Txt ops l σ0 0=σ0:=Qs _ _ _ _ _ fun j=>by simp
 rw[Nat.zero_add,h0]at h2
 cases hr:σ0.h.raw k with
 |none=>rfl
 |some r=>have:=hlt k (by rw[hr];rfl);omega

theorem ZB6{ro:Option Nat}(hY:YOK Y){l:List (Ef×Foot)}{σ0 τ:St}(hr:σ0.refs= [])(hl:Lex Y loc ops ops.toList σ0 l τ)(ho:Ord ops l){Q:Exit->Act->World->Prop}{W0:Vw}{own0:Nat->Prop}{w0:World}
  (hQ: ∀W a w,Rel W τ a w->Stp W0 own0 w0 W (mine W τ a) w->Q .normal a w):
  ∀(fuel:Nat) (listed:Array Bool) (W:Vw) (a:Act) (w:World),listed.size=ops.size->listed.toList.count false=fuel->VZ ops (fun j=>listed.getD j false)->
   Zt8 ops l σ0 (fun j=>listed.getD j false)->Rel W (sst (fun j=>listed.getD j false) 0 ops.toList l σ0) a w->Stp W0 own0 w0 W (mine W (sst (fun j=>listed.getD j false) 0 ops.toList l σ0) a) w->wpAnyIn (FrR ro) 0 Y.P .any ops Q fuel listed a w:=by
 intro fuel
 have hfin: ∀(listed:Array Bool) (W:Vw) (a:Act) (w:World),listed.size=ops.size->(∀j,j<ops.size->listed.getD j false=true)->Rel W (sst (fun j=>listed.getD j false) 0 ops.toList l σ0) a w->
   Stp W0 own0 w0 W (mine W (sst (fun j=>listed.getD j false) 0 ops.toList l σ0) a) w->Q .normal a w:=by
  intro listed W a w _ hall hrel hst
  have:=hl.sst 0 (fun j=>listed.getD j false) fun j hj=>by
   rw[Nat.zero_add];exact hall j (by simpa using hj)
  rw[this]at hrel hst
  exact hQ W a w hrel hst
 -- nothing is ready only if all is done
 have hdone: ∀(listed:Array Bool),listed.size=ops.size->Region.ready .any ops listed= []-> ∀j,j<ops.size->listed.getD j false=true:=by
  intro listed hz hre j
  induction j using Nat.strongRecOn with
  |_ j ih=>
   intro hj
   cases hlj:listed.getD j false with
   |true=>rfl
   |false=>
    have hoj:ops[j]? =some ops[j]:=by simp[hj]
    have:j∈Region.ready .any ops listed:=mem_ready.2 ⟨by
     have hjl:j<listed.size:=by omega
     simp[Array.getD,hjl]at hlj ⊢
     exact hlj,_,hoj,fun e he hb=>by
     have h1:=ho.lt j _ hoj e he hb
     exact ih e.on h1 (by omega)⟩
    rw[hre]at this
    cases this
 induction fuel with
 |zero=>
  intro listed W a w hz hc hcl hfr hrel hst
  have hall: ∀j,j<ops.size->listed.getD j false=true:=by
   intro j hj
   have hjl:j<listed.size:=by omega
   rw[List.count_eq_zero]at hc
   cases hlj:listed.getD j false with
   |true=>rfl
   |false=>
    simp[Array.getD,hjl]at hlj
    exact absurd (by rw[<-hlj];simp) hc
  refine⟨?_,hfin listed W a w hz hall hrel hst⟩
  cases hre:Region.ready .any ops listed with
  |nil=>rfl
  |cons i r=>
   have hi:i∈Region.ready .any ops listed:=by rw[hre];simp
   obtain⟨h1,o,h2,_⟩:=mem_ready.1 hi
   have hio:i<ops.size:=(Array.getElem?_eq_some_iff.1 h2).1
   have h3:=hall i hio
   have hil:i<listed.size:=by omega
   simp[Array.getD,hil]at h1 h3
   rw[h1]at h3;cases h3
 |succ fuel ih=>
  intro listed W a w hz hc hcl hfr hrel hst
  refine⟨fun hre=>hfin listed W a w hz (hdone listed hz hre) hrel hst,fun i hi=> ?_⟩
  obtain⟨h1,o,h2,h3⟩:=mem_ready.1 hi
  have hio:i<ops.size:=(Array.getElem?_eq_some_iff.1 h2).1
  have hil:i<listed.size:=by omega
  have hu:listed.getD i false=false:=by simp[Array.getD,hil]at h1 ⊢;exact h1
  obtain⟨x,ht⟩:=turn hr hl ho hcl h2 hu h3
  have hS:(fun j=>(listed.setIfInBounds i true).getD j false)=fun j=>listed.getD j false||j==i:=by
   funext j
   by_cases hji:j=i
   ·subst hji;simp[Array.getD,hil]
   ·have h4: ¬i=j:=fun h=>hji h.symm
    rw[Array.getD_eq_getD_getElem?,Array.getD_eq_getD_getElem?,Array.getElem?_setIfInBounds,if_neg h4]
    simp[hji]
  have hcl':VZ ops (fun j=>(listed.setIfInBounds i true).getD j false):=by
   rw[hS]
   intro j oj hoj hj e he hb
   simp only[Bool.or_eq_true,beq_iff_eq]at hj ⊢
   rcases hj with hj|rfl
   ·exact .inl (hcl j oj hoj hj e he hb)
   ·rw[h2]at hoj;cases hoj
    exact .inl (h3 e he hb)
  have hcnt:(listed.setIfInBounds i true).toList.count false=fuel:=by
   have hg:listed.toList[i]'(by simpa using hil)=false:=by simp[Array.getD,hil]at hu ⊢;exact hu
   rw[Array.toList_setIfInBounds,List.count_set (h:=by simpa using hil),hg,hc]
   simp
  have fin: ∀W' a' w',Rel W' (sst (fun j=>listed.getD j false||j==i) 0 ops.toList l σ0) a' w'->Stp W (mine W (sst (fun j=>listed.getD j false) 0 ops.toList l σ0) a) w W' (mine W' (sst (fun j=>listed.getD j false||j==i) 0 ops.toList l σ0) a') w'->
    wpAnyIn (FrR ro) 0 Y.P .any ops Q fuel (listed.setIfInBounds i true) a' w':=by
   intro W' a' w' hr' hs'
   refine ih _ W' a' w' (by simpa using hz) hcnt hcl' ?_ ?_ ?_
   ·rw[hS];exact Zn5 hl ho hcl h2 hu h3 ht hfr hr'.heap.lt
   ·rw[hS];exact hr'
   ·rw[hS];exact hst.trans hs'
  have next:(∀k x' v,x.1≠ .nw k x' v)-> ∀W' a' w',Rel W' (x.1.app o.dst (sst (fun j=>listed.getD j false) 0 ops.toList l σ0)) a' w'->Stp W (mine W (sst (fun j=>listed.getD j false) 0 ops.toList l σ0) a) w W' (mine W' (x.1.app o.dst (sst (fun j=>listed.getD j false) 0 ops.toList l σ0)) a') w'->
    wpAnyIn (FrR ro) 0 Y.P .any ops Q fuel (listed.setIfInBounds i true) a' w':=by
   intro hnn W' a' w' hr' hs'
   refine fin W' a' w' (hr'.ext ht.env.symm (ht.h hnn).symm ht.refs) (hs'.weaken fun b hb=> ?_)
   rcases hb with hb|⟨t,⟨cs,hb1⟩,hb2⟩|hb
   ·exact .inl hb
   ·exact .inr (.inl ⟨t,⟨cs,by rw[ht.env];exact hb1⟩,hb2⟩)
   ·exact .inr (.inr hb)
  unfold wpOpIn
  simp only[h2]
  by_cases hn: ∃k x' v,x.1= .nw k x' v
  ·obtain⟨k,x',v,he⟩:=hn
   obtain⟨g1,⟨vf,rfl,g2⟩,g3⟩:=ht.nw k x' v he
   rw[if_pos (VU hrel g1)]
   obtain⟨_,hoi,_⟩:=Ji hl ht.at_
   have hk: ¬W.kn k:=fun hk=>by
    have h4:=hrel.heap.kn k hk
    have h5:=hfr i x k ht.at_ (by rw[he];rfl) hu fun q z q1 hz hh=>by
     obtain⟨oq,hoq,zw,zr,_⟩:=Ji hl hz
     obtain⟨_,_,_,_,xn⟩:=Ji hl ht.at_
     exact ho.cr _ hcl q i oq o z x q1 hoq h2 hz ht.at_ (WS (by rw[xn,he];rfl) (.inl (zr hh))) h3
    rw[h5]at h4;cases h4
   refine WP (fun c hd=>by simp[newO,hd]at g2) (Xy (Zkf hY hrel g2 hk g3) fun W' a' w' hr' hs'=> ?_)
   have henv:(putV {sst (fun j=>listed.getD j false) 0 ops.toList l σ0 with h:=(sst (fun j=>listed.getD j false||j==i) 0 ops.toList l σ0).h} o.dst (vf k)).env=(sst (fun j=>listed.getD j false||j==i) 0 ops.toList l σ0).env:=by
    rw[<-ht.env,he,Zl7]
    simp only[Ef.app,Zl7]
   refine fin W' a' w' (hr'.ext henv.symm (by rw[Zqa]) fun y hy=> ?_) (hs'.weaken fun b hb=> ?_)
   ·have:=ht.refs y hy
    rw[WR,he]at this
    rw[Zdb]
    exact this
   ·rcases hb with hb|⟨t,⟨cs,hb1⟩,hb2⟩|hb
    ·exact .inl hb
    ·exact .inr (.inl ⟨t,⟨cs,by rw[henv];exact hb1⟩,hb2⟩)
    ·exact .inr (.inr hb)
  have hnn: ∀k x' v,x.1≠ .nw k x' v:=fun k x' v he=>hn ⟨k,x',v,he⟩
  rcases ht.step hnn with ⟨g1,g2⟩|⟨g1,g2⟩
  ·rw[if_neg (by rw[VU hrel g1];simp)]
   have htup:VR W (.tup []) Go.undef:= .tup [] [] .nil
   refine⟨fun _ _=>trivial,next hnn W _ w ?_ ?_⟩
   ·rw[g2];exact hrel.putV htup o.dst
   ·rw[g2];exact(Stp.refl W _ w).weaken fun b hb=>Xd htup o.dst hb
  ·rw[if_pos (VU hrel g1)]
   exact Zl5 hY hrel g2 ht.key ht.slot (next hnn)

theorem Zt9{ro:Option Nat}(hY:YOK Y){σ τ:St}{id:Nat}{l:List (Ef×Foot)}{Q:Out->St->Prop}(hl:Lex Y loc ops ops.toList {σ with refs:= []} l τ)(hc:chk ops (l.map (·.2))=true)(hq:Q .normal {τ with refs:= []}):
  TriG ro Y (.region id ops true) σ Q:=by
 intro W a w W0 own0 w0 hr hs
 have ho:=ZB4 (by rw[hl.length];simp) hc
 refine wpIn_region_any hY.mixed ?_
 have hsame:Same w {w with drawn:=w.drawn+1} :=fun b o hb=>hb
 have hS: ∀j,(Array.replicate ops.size false).getD j false=false:=by
  intro j;simp[Array.getD]
 have h0:sst (fun j=>(Array.replicate ops.size false).getD j false) 0 ops.toList l {σ with refs:= []} = {σ with refs:= []} :=Qs _ _ _ _ _ fun j=>hS _
 refine ZB6 hY rfl hl ho (W0:=W0) (own0:=own0) (w0:=w0) (fun W' a' w' h1 h2=>⟨.normal,_,W',trivial,hq,h1.noRefs,h2⟩) ops.size _ W a _ (by simp) (by simp) ?_ (Zn6 hl (fun j=>hS j) (hr.same hsame).noRefs.heap.lt) ?_ ?_
 ·intro j o _ hj;have h1:=hS j;simp only at hj;rw[h1]at hj;cases hj
 ·rw[h0];exact(hr.same hsame).noRefs
 ·rw[h0];exact hs.trans ((Stp.same hsame ⟨rfl,rfl,rfl⟩).weaken fun b hb=>hb)

end
def frzD:Nat:=30

section
variable (Y:YP)

end

section
variable {Y:YP} {σ σ':St}

/-! ### What was not turned -/
variable {kn:FuncId->List V->Heap->Option (V×Heap)}
end
end Go.Y
