/- A part of the proof. -/
import Derived.Test.YteennilbmmlikaaGreatDoorYAny
import Derived.OrdersIn
import Derived.Test.YteennilbmmlikaaGreatDoorYEff
import Derived.Test.YteennilbmmlikaaGreatDoorProg
import Derived.KernelRfl
namespace Go.Y
set_option maxRecDepth 1000000
set_option maxHeartbeats 0
section
variable {Y:YP} {loc:Nat->Bool} {ops:Array Oper}
structure Turn(Y:YP)(loc:Nat->Bool)(ops:Array Oper)(l:List (Ef×Foot))(σ0:St)(S:Nat->Bool)(i:Nat)(o:Oper)(x:Ef×Foot):Prop where
 at_:l[i]? =some x
 step:(∀k x' v,x.1≠ .nw k x' v)->Zyy Y loc ops (sst S 0 ops.toList l σ0) o x.1
 key: ∀s f,x.1= .q (.ref s f)-> ∀y∈(sst S 0 ops.toList l σ0).refs,o.dst≠some y.1
 slot: ∀cs,x.1= .box cs-> ∀y∈(sst S 0 ops.toList l σ0).refs,o.dst≠some y.2.1
 env:(x.1.app o.dst (sst S 0 ops.toList l σ0)).env=(sst (fun j=>S j||j==i) 0 ops.toList l σ0).env
 h:(∀k x' v,x.1≠ .nw k x' v)->(x.1.app o.dst (sst S 0 ops.toList l σ0)).h=(sst (fun j=>S j||j==i) 0 ops.toList l σ0).h
 nw: ∀k x' v,x.1= .nw k x' v->JG ops (sst S 0 ops.toList l σ0).env o=some true∧(∃vf,v=vf k∧newO Y (sst S 0 ops.toList l σ0) o=some (x',vf))∧
  PushH (sst S 0 ops.toList l σ0).h (sst (fun j=>S j||j==i) 0 ops.toList l σ0).h k x'
 refs: ∀y,y∈(sst (fun j=>S j||j==i) 0 ops.toList l σ0).refs->y∈(x.1.app o.dst (sst S 0 ops.toList l σ0)).refs
/-! ### Numbers in the text's order -/
def Txt(ops:Array Oper)(l:List (Ef×Foot))(σ0:St)(i:Nat):St:=sst (λj=>decide (j<i)) 0 ops.toList l σ0
theorem Zix{l:List (Ef×Foot)}{σ0:St}{i:Nat}{o}{x:Ef×Foot}(d:ops.toList[i]? =some o)(c:l[i]? =some x):sst (λ_=>true) 0 (ops.toList.take i) (l.take i) σ0=Txt ops l σ0 i:=by
 unfold Txt;rw[Vi (λj=>decide (j<i)) i 0 ops.toList l σ0 o x d c];simp only[uJ,Nat.lt_irrefl,decide_false,uI,vF];rw[QL (i+1) _ _ _ (λj=>decide (j<i)) (λj=>by simp;omega)];exact Wj 0 _ _ _ _ _ λj a=>by
  simp at a ⊢;omega
theorem Ziy{l:List (Ef×Foot)}{σ0}{i:Nat}{o:Oper}{x:Ef×Foot}(d:ops.toList[i]? =some o)(a:l[i]? =some x):Txt ops l σ0 (i+1)=x.1.app o.dst (Txt ops l σ0 i):=by
 have c:=Vi (λj=>decide (j<i+1)) i 0 ops.toList l σ0 o x d a;simp only[uJ,Nat.lt_succ_self,decide_true,vG]at c;unfold Txt;rw[c,QL (i+1) _ _ _ (λj=>decide (j<i+1)) (λj=>sm)];rw[Wj 0 (ops.toList.take i) (l.take i) σ0 (λj=>decide (j<i+1)) (λ_=>true) λj e=>by simp at e ⊢;omega];rw[Zix d a]
 rfl
theorem ZH1{d:Option Tmp}{e:Ef}{c:St}(a:e.isHp=false):c.h.nx<=(e.app d c).h.nx:=by
 rw[Zbl]
 cases e with
 |hp h v=>cases a
 |al i o v=>cases a
 |nw i o v=>exact Nat.le_max_left _ _
 |_=>exact Nat.le_refl _
theorem Zud{d g:Option Tmp}{e:Ef}{f a}(c:e.isHp=true):(e.app d f).h.nx=(e.app g a).h.nx:=by
 rw[Zbl,Zbl];cases e<;>first|rfl|cases c
theorem Zd3{l:List (Ef×Foot)}{σ0 k}(g:Lex Y loc ops ops.toList σ0 l k)(m:Nat): ∀(n:Nat),(∀q z,m<=q->q<m+n->l[q]? =some z->z.1.isHp=false)->(Txt ops l σ0 m).h.nx<=(Txt ops l σ0 (m+n)).h.nx
 |0,_=>Nat.le_refl _
 |n+1,e=>by
  have c:=Zd3 g m n λq z c d=>e q z c om;have a:=g.length;by_cases r:m+n<l.length
  .have f:l[m+n]? =some l[m+n]:=sm;have o:ops.toList[m+n]? =some (ops.toList[m+n]'(by rw[<-a];exact r)):=sm;have d:=Ziy (σ0:=σ0) o f;have:m+(n+1)=m+n+1:=om;rw[this,d];exact uu c (ZH1 (e (m+n) _ om om f))
  .have:Txt ops l σ0 (m+(n+1))=Txt ops l σ0 (m+n):=by
    unfold Txt;exact Wj 0 _ _ _ _ _ λj t=>by
     have:j<m+n:=om;simp[this];omega
   rw[this];exact c
theorem Zy3{l:List (Ef×Foot)}{σ0 r}(n:Lex Y loc ops ops.toList σ0 l r){j:Nat}{y:Ef×Foot}{k:Nat}(a:l[j]? =some y)(d:y.1.nwI=some k):k=(Txt ops l σ0 j).h.nx/\k<(Txt ops l σ0 (j+1)).h.nx:=by
 have w:j<ops.toList.length:=by rw[<-n.length];exact(List.getElem?_eq_some_iff.1 a).1
 have c:ops.toList[j]? =some (ops.toList[j]):=sm;obtain⟨u,m,o,_⟩:=n.at 0 j _ c;rw[a]at m;cases m;rw[Zix c a]at o;obtain⟨e,f⟩:=y
 cases e with
 |nw i x v=>
  simp only[Ef.nwI,uB]at d;subst d;rcases o with ⟨_,g⟩|⟨_,g⟩
  .cases g
  .obtain⟨t,_⟩:=g.nwI;refine⟨t,?_⟩;rw[Ziy c a,Zbl];exact Nat.lt_of_lt_of_le (Nat.lt_succ_self _) (Nat.le_max_right _ _)
 |_=>cases d
theorem ZDv{l:List (Ef×Foot)}{σ0 f}(c:Lex Y loc ops ops.toList σ0 l f){m j:Nat}{x y:Ef×Foot}{a b:Nat}(k:l[m]? =some x)(g:l[j]? =some y)(n:x.1.nwI=some a)(o:y.1.nwI=some b)(h:m<j)
  (d: ∀q z,m<q->q<j->l[q]? =some z->z.1.isHp=false):a<b:=by
 obtain⟨u,w⟩:=Zy3 c k n;obtain⟨t,_⟩:=Zy3 c g o;have:=Zd3 c (m+1) (j-(m+1)) λq z r v=>d q z om om;have e:m+1+(j-(m+1))=j:=om;rw[e]at this;omega
theorem Zpr{S:Nat->Bool}{k:Nat}{w:YObj} : ∀(n:Nat) (os:List Oper) (l:List (Ef×Foot)) (c a:St),PushH c.h a.h k w->
  (∀j o y,os[j]? =some o->l[j]? =some y->S (n+j)=true->y.1.isHp=false/\y.1.nwI≠some k)->PushH (sst S n os l c).h (sst S n os l a).h k w
 |n,[],l,c,a,h,_=>by cases l<;>simpa[sst]using h
 |n,o::r,[],c,a,h,_=>by simpa[sst]using h
 |n,o::r,y::l,c,a,h,t=>by
  simp only[sst];refine Zpr (n+1) r l _ _ ?_ λj u x g d z=>t (j+1) u x (by simpa using g) (by simpa using d) (by rw[<-z];congr 1;omega)
  cases B:S n with
  |false=>simpa using h
  |true=>
   simp only[vG];obtain⟨g,d⟩:=t 0 o y rfl rfl (by simpa using B);rw[Zbl,Zbl];obtain⟨e,f⟩:=y
   cases e with
   |hp _ _=>cases g
   |al _ _ _=>cases g
   |nw i u v=>
    simp only[Ef.nwI,ne_eq,uB]at d;refine⟨λj=> ?_,⟨?_,?_⟩,h.tg⟩
    .rw[Heap.putM_raw,Heap.putM_raw,h.raw];by_cases m:j=i
     .have: ¬j=k:=λA=>d (by rw[<-m,A]);simp[m,d]
     .simp[m]
    .have:=h.nx.1;show max _ _<=max _ _;omega
    .exact Nat.lt_of_lt_of_le h.nx.2 (Nat.le_max_left _ _)
   |_=>exact h
theorem turn{l:List (Ef×Foot)}{σ0 τ:St}(hr:σ0.refs= [])(hl:Lex Y loc ops ops.toList σ0 l τ)(ho:Ord ops l){S:Nat->Bool}(hS:Zbm ops S)
  {i:Nat} {o:Oper} (hi:ops[i]? =some o) (hu:S i=false) (hd: ∀e∈o.after,Region.binds .any e=true->S e.on=true): ∃x,Turn Y loc ops l σ0 S i o x:=by
 have a0:ops.toList[i]? =some o:=by simpa using hi
 obtain⟨x,hx,hw,hf,hk⟩:=hl.at 0 i o a0
 -- the state in the text's order, as a set's
 have d5:sst (λ_=>true) 0 (ops.toList.take i) (l.take i) σ0=sst (λj=>decide (j<i)) 0 ops.toList l σ0:=Zix a0 hx;rw[d5]at hw hf hk
 let ρ:=sst (λj=>decide (j<i)) 0 ops.toList l σ0
 let O:=sst S 0 ops.toList l σ0
 -- what clashes with it is done just if it stands ahead
 have same: ∀(j:Nat) (m:Oper) (y:Ef×Foot),ops.toList[j]? =some m->l[j]? =some y->(j<i->Qj ops m o y.2 x.2=true)->(i<j->Qj ops o m x.2 y.2=true)->decide (j<i)=S j:=by
  intro j m y d8 N n g;have b2:ops[j]? =some m:=by simpa using d8
  rcases Nat.lt_trichotomy j i with B|B|B
  .rw[uN B];exact(ho.cr S hS j i m o y x B b2 hi N hx (n B) hd).symm
  .subst B;simp[hu]
  .rw[uK om]
   cases D:S j with
   |false=>rfl
   |true=>
    have:=ho.cl S hS i j o m x y B hi b2 hx N (g B) D;rw[hu]at this;cases this
 have u: ∀(j:Nat) (m:Oper) (y:Ef×Foot),ops.toList[j]? =some m->l[j]? =some y->(j<i->Qj ops m o y.2 x.2=true)->(i<j->Qj ops o m x.2 y.2=true)->decide (0+j<i)=S (0+j):=by
  intro j m y n g c W;rw[uJ];exact same j m y n g c W
 have a1: ∀t,(t∈o.looksAt ops\/t∈x.2.t)->R1 t ρ O:=λt ht=>Qu (R1.keeps t) R1.symm 0 _ _ _ _ (R1.refl t σ0) λj m y n g c=>by
  have c9:m.dst=some t:=c;refine u j m y n g (λ_=>Zc1 c9 ?_) (λ_=>Znn c9 ?_)
  .rcases ht with h|h
   .exact .inl h
   .exact .inr (.inr (.inl h))
  .rcases ht with h|h
   .exact .inl h
   .exact .inr (.inr (.inl h))
 have A: ∀(j:Nat) (m:Oper) (y:Ef×Foot),ops.toList[j]? =some m->l[j]? =some y->y.2.w=y.1.stS/\y.2.hw=y.1.isHp/\(∀s∈y.1.refS,s∈y.2.t)/\(∀s∈y.1.stS,s∈y.2.r)/\(y.1.isHp=true->y.2.hr=true)/\y.2.al=y.1.alI/\y.2.nw=y.1.nwI:=by
  intro j m y n g;obtain⟨y',c,_,W,_⟩:=hl.at 0 j m n;rw[g]at c;cases c;rw[W];exact⟨rfl,rfl,λs hs=>List.mem_append_right _ hs,λs hs=>List.mem_append_right _ hs,λh=>by simp[Zaj,h],rfl,rfl⟩
 obtain⟨d7,d4,e4,d9,a2,e3,d2⟩:=A i o x a0 hx;have a3: ∀s,s∈x.2.r->R3 s ρ O:=λs hs=>Qu (R3.keeps s) R3.symm 0 _ _ _ _ (R3.refl s σ0) λj m y n g c=>by
  have F:=(A j m y n g).1;rcases c with c|c
  .exact u j m y n g (λ_=>Zc1 c (.inr (.inr (.inr hs)))) (λ_=>Znn c (.inr (.inr (.inr hs))))
  .exact u j m y n g (λ_=>Zpp (by rw[F];exact c) hs) (λ_=>Zyz (by rw[F];exact c) hs)
 have a4:x.2.hr=true->ρ.h=O.h:=λhh=>Qu R4.keeps R4.symm 0 _ _ _ _ (rfl:R4 σ0 σ0) λj m y n g c=>by
  have F:=(A j m y n g).2.1;have L:=(A j m y n g).2.2.2.2.2.2;rcases c with c|c
  .exact u j m y n g (λ_=>Ziw (by rw[F];exact c) hh) (λ_=>Zy2 (by rw[F];exact c) hh)
  .obtain⟨k,c⟩:=Option.isSome_iff_exists.1 c;exact u j m y n g (λ_=>WB (by rw[L];exact c) (.inl hh)) (λ_=>VK (by rw[L];exact c) (.inl hh))
 have a5: ∀k,k∈x.2.ro->ρ.h.get k=O.h.get k:=λk Z=>Qu (R5.keeps k) R5.symm 0 _ _ _ _ (rfl:R5 k σ0 σ0) λj m y n g c=>by
  have F:=(A j m y n g).2.1;have d3:=(A j m y n g).2.2.2.2.2.1;have L:=(A j m y n g).2.2.2.2.2.2;rcases c with c|c
  .exact u j m y n g (λ_=>Zy0 (by rw[F];exact c.1) (by rw[d3];exact c.2) Z) (λ_=>Zy1 (by rw[F];exact c.1) (by rw[d3];exact c.2) Z)
  .exact u j m y n g (λ_=>WB (by rw[L];exact c) (.inr Z)) (λ_=>VK (by rw[L];exact c) (.inr Z))
 have b1:AgO ρ O o:=by
  refine⟨λt ht=>(a1 t (.inl (Zuc ht))).2,λt ht s hs=>(a1 s (.inr ?_)).2.env,λs hs=>(a3 s ?_).2,λhh=>a4 ?_,λk Z=>a5 k ?_⟩
  .rw[hf];exact List.mem_append_left _ (List.mem_filterMap.2 ⟨t,ht,hs⟩)
  .rw[hf];exact List.mem_append_left _ hs
  .rw[hf];simp[Zaj,ρ]at hh ⊢;exact .inl hh
  .rw[hf];exact Z
 have E:JG ops O.env o=JG ops ρ.env o:=by
  cases hg:o.guard with
  |none=>simp[JG,hg]
  |some jw=>
   obtain⟨j,e2⟩:=jw
   cases c4:(ops[j]?).bind (·.dst) with
   |none=>simp[JG,hg,c4]
   |some d=>exact Zkw hg c4 (a1 d (.inl (Znm hg c4))).2.env
 have b6:(∀k x' v,x.1≠ .nw k x' v)->Zyy Y loc ops O o x.1:=by
  intro b8;rcases hw with ⟨n,g⟩|⟨n,g⟩
  .exact .inl ⟨by rw[E];exact n,g⟩
  .refine .inr ⟨by rw[E];exact n,g.local b1 (λh v G=>a4 ?_) (λi x' v G=>a4 ?_) b8⟩
   .exact a2 (by rw[G];rfl)
   .exact a2 (by rw[G];rfl)
 -- references
 have a6: ∀y∈O.refs,∃(j:Nat) (m:Oper) (z:Ef×Foot),ops.toList[j]? =some m/\l[j]? =some z/\S j=true/\m.dst=some y.1/\z.1= .q (.ref y.2.1 y.2.2)/\(j<i->y∈ρ.refs):=by
  intro y N;rcases(Zbn 0 _ _ _ _ _).1 N with h|⟨j,m,z,n,g,c,W,h5⟩
  .rw[hr]at h;simp at h
  .rw[uJ]at c;refine⟨j,m,z,n,g,c,W,h5,λB=>(Zbn 0 _ _ _ _ _).2 (.inr ⟨j,m,z,n,g,?_,W,h5⟩)⟩;rw[uJ];exact uN B
 have C: ∀(j:Nat) (m:Oper) (z:Ef×Foot),ops.toList[j]? =some m->l[j]? =some z->S j=true->i<j->Qj ops o m x.2 z.2=true->False:=by
  intro j m z n g c W h5;have:=same j m z n g (λh=>absurd h om) (λ_=>h5);rw[c]at this;simp at this;omega
 have c7: ∀s f,x.1= .q (.ref s f)-> ∀y∈O.refs,o.dst≠some y.1:=by
  intro s f G y N H;obtain⟨j,m,z,n,g,c,W,h5,h6⟩:=a6 y N;rcases Nat.lt_trichotomy j i with B|B|B
  .have:=h6 B;simp only[Ze2,G,H]at hk;have:=uP.1 hk y this;simp at this
  .subst B;rw[hu]at c;cases c
  .exact C j m z n g c B (Zc1 H (.inr (.inl W)))
 have b7: ∀cs,x.1= .box cs-> ∀y∈O.refs,o.dst≠some y.2.1:=by
  intro cs G y N H;obtain⟨j,m,z,n,g,c,W,h5,h6⟩:=a6 y N;rcases Nat.lt_trichotomy j i with B|B|B
  .have:=h6 B;simp only[Ze2,G,H]at hk;have:=uP.1 hk y this;simp at this
  .subst B;rw[hu]at c;cases c
  .exact C j m z n g c B (Zc1 H (.inr (.inr (.inl ((A j m z n g).2.2.1 _ (by rw[h5];simp[Ef.refS]))))))
 -- the state behind it
 let S':Nat->Bool:=λj=>S j||j==i
 have c6:O=sst S (i+1) (ops.toList.drop (i+1)) (l.drop (i+1)) (sst S 0 (ops.toList.take i) (l.take i) σ0):=by
  have:=Vi S i 0 ops.toList l σ0 o x a0 hx;simp only[uJ,hu,uI,vF]at this;exact this
 have a8:sst S' 0 ops.toList l σ0=sst S (i+1) (ops.toList.drop (i+1)) (l.drop (i+1)) (x.1.app o.dst (sst S 0 (ops.toList.take i) (l.take i) σ0)):=by
  have:=Vi S' i 0 ops.toList l σ0 o x a0 hx;have e1:S' i=true:=by simp[S']
  simp only[uJ,e1,vG]at this;rw[this];rw[Wj 0 (ops.toList.take i) (l.take i) σ0 S' S λj B=>by
   simp at B;have: ¬j=i:=om;simp[S',this]]
  exact Wj (i+1) _ _ _ S' S λj B=>by
   have: ¬(i+1+j=i):=om;simp[S',this]
 let π:=sst S 0 (ops.toList.take i) (l.take i) σ0
 have a7: ∀(j:Nat) (m:Oper) (y:Ef×Foot),(ops.toList.drop (i+1))[j]? =some m->(l.drop (i+1))[j]? =some y->Qj ops o m x.2 y.2=true->S (i+1+j)=false:=by
  intro j m y n g c;rw[uz]at n g
  cases D:S (i+1+j) with
  |false=>rfl
  |true=>exact(C (i+1+j) m y n g D om c).elim
 have b3: ∀t,R3 t (x.1.app o.dst O) (sst S' 0 ops.toList l σ0):=by
  intro t;rw[c6,a8];by_cases P:ZBr t o x
  .have K: ∀X:St,R3 t (sst S (i+1) (ops.toList.drop (i+1)) (l.drop (i+1)) X) X:=by
    intro X;have:=Qu (R3.keeps t) R3.symm (S:=S) (S':=λ_=>false) (i+1) (ops.toList.drop (i+1)) (l.drop (i+1)) X X (R3.refl t X) λj m y n g c=>a7 j m y n g (by
     have F:=(A (i+1+j) m y (by rw[<-uz];exact n) (by rw[<-uz];exact g)).1;rcases P with ht|ht
     .rcases c with c|c
      .exact Zc1 ht (.inr (.inl c))
      .exact Zc1 ht (.inr (.inr (.inr ((A (i+1+j) m y (by rw[<-uz];exact n) (by rw[<-uz];exact g)).2.2.2.1 _ c))))
     .rcases c with c|c
      .exact Znn c (.inr (.inr (.inr (d9 _ ht))))
      .exact Zpp (by rw[d7];exact ht) ((A (i+1+j) m y (by rw[<-uz];exact n) (by rw[<-uz];exact g)).2.2.2.1 _ c))
    rwa [QL (i+1) _ _ _ (λ_=>false) (λ_=>rfl)]at this
   have n:=(R3.keeps t).both _ _ o x (K π);have g:=K (x.1.app o.dst π);exact⟨Eq.trans n.1 (Eq.symm g.1),n.2.trans g.2.symm⟩
  .have n:=(R3.keeps t).left _ _ o x (R3.refl t (sst S (i+1) (ops.toList.drop (i+1)) (l.drop (i+1)) π)) P;have g:=Qu (R3.keeps t) R3.symm (S:=S) (S':=S) (i+1) (ops.toList.drop (i+1)) (l.drop (i+1)) _ _ ((R3.keeps t).left _ _ o x (R3.refl t π) P) λ_ _ _ _ _ _=>rfl;exact⟨Eq.trans n.1 (Eq.symm g.1),n.2.trans g.2.symm⟩
 have b4:(∀k x' v,x.1≠ .nw k x' v)->R4 (x.1.app o.dst O) (sst S' 0 ops.toList l σ0):=by
  intro b8;have d6: ∀ {q:Ef},q=x.1->q.nwI.isSome=true->False:=λ{q} G hq=>by cases q<;>first|exact b8 _ _ _ G.symm|cases hq
  rw[c6,a8];by_cases P:Zkv o x
  .have K: ∀X:St,R4 (sst S (i+1) (ops.toList.drop (i+1)) (l.drop (i+1)) X) X:=by
    intro X;have:=Qu R4.keeps R4.symm (S:=S) (S':=λ_=>false) (i+1) (ops.toList.drop (i+1)) (l.drop (i+1)) X X (rfl:R4 X X) λj m y n g c=>a7 j m y n g (by
     have N:=A (i+1+j) m y (by rw[<-uz];exact n) (by rw[<-uz];exact g);have b0:=P.resolve_right (d6 rfl);rcases c with c|c
     .exact Ziw (by rw[d4];exact b0) (N.2.2.2.2.1 c)
     .obtain⟨k,c⟩:=Option.isSome_iff_exists.1 c;exact VK (by rw[N.2.2.2.2.2.2];exact c) (.inl (a2 b0)))
    rwa [QL (i+1) _ _ _ (λ_=>false) (λ_=>rfl)]at this
   exact((R4.keeps).both _ _ o x (K π)).trans (Eq.symm (K (x.1.app o.dst π)))
  .have n:=R4.keeps.left _ _ o x (rfl:R4 (sst S (i+1) (ops.toList.drop (i+1)) (l.drop (i+1)) π) _) P;have g:=Qu R4.keeps R4.symm (S:=S) (S':=S) (i+1) (ops.toList.drop (i+1)) (l.drop (i+1)) _ _ (R4.keeps.left _ _ o x (rfl:R4 π π) P) λ_ _ _ _ _ _=>rfl;exact Eq.trans n (Eq.symm g)
 have b5: ∀k x' v,x.1= .nw k x' v->PushH O.h (sst S' 0 ops.toList l σ0).h k x':=by
  intro k x' v G;rw[c6,a8];refine Zpr (i+1) _ _ _ _ ?_ λj m y n g c=> ?_
  .rw[G,Zbl];exact .putM _ _ _
  .have b9:ops.toList[i+1+j]? =some m:=by rw[<-uz];exact n
   have a9:l[i+1+j]? =some y:=by rw[<-uz];exact g
   have N:=A (i+1+j) m y b9 a9;have d1:x.2.nw=some k:=by rw[d2,G];rfl
   refine⟨?_,λL=> ?_⟩
   .cases hh:y.1.isHp with
    |false=>rfl
    |true=>exact(C (i+1+j) m y b9 a9 c om (WB d1 (.inl (N.2.2.2.2.1 hh)))).elim
   .have:=ZDv hl hx a9 (by rw[G];rfl:x.1.nwI=some k) L om λq z q1 q2 hz=>by
     cases hh:z.1.isHp with
     |false=>rfl
     |true=>
      have e5:q<ops.toList.length:=by rw[<-hl.length];exact(List.getElem?_eq_some_iff.1 hz).1
      have c5:ops.toList[q]? =some (ops.toList[q]):=sm;have e0:=A q _ z c5 hz;have c8:=e0.2.2.2.2.1 hh;have c1:S q=true:=ho.cl S hS q (i+1+j) _ m z y q2 (Array.getElem?_toList▸c5) (Array.getElem?_toList▸b9) hz a9 (VK (by rw[N.2.2.2.2.2.2];exact L) (.inl c8)) c;exact(C q _ z c5 hz c1 q1 (WB d1 (.inl c8))).elim
    omega
 refine⟨x,hx,b6,c7,b7,ZDu (b3 0).1 λt=>(b3 t).2,b4,λk x' v G=>⟨?_,?_,b5 k x' v G⟩,λy N=> ?_⟩
 .rcases hw with ⟨n,g⟩|⟨n,g⟩
  .rw[G]at g;cases g
  .rw[E];exact n
 .rcases hw with ⟨n,g⟩|⟨n,g⟩
  .rw[G]at g;cases g
  .rw[G]at g;obtain⟨_,vf,c,W⟩:=g.nwI;exact⟨vf,c,by rw[Zg9 b1];exact W⟩
 rcases(Zbn 0 _ _ _ _ _).1 N with h|⟨j,m,z,n,g,c,W,h5⟩
 .rw[hr]at h;simp at h
 .rw[uJ]at c;rw[VJ];have d0:S j=true->y∈O.refs:=λD=>(Zbn 0 _ _ _ _ _).2 (.inr ⟨j,m,z,n,g,by rw[uJ];exact D,W,h5⟩)
  cases D:S j with
  |true=>
   split
   .exact uv _ (d0 D)
   .exact d0 D
  |false=>
   have c:j=i:=by simpa[D]using c
   subst c;rw[a0]at n;cases n;rw[hx]at g;cases g;rw[h5,W];simp
def Zy4(ops:Array Oper)(l:List (Ef×Foot))(σ0:St)(S:Nat->Bool):Prop:=
 ∀j y k,l[j]? =some y->y.1.nwI=some k->S j=false->(∀q z,q<j->l[q]? =some z->z.1.isHp=true->S q=true)->(sst S 0 ops.toList l σ0).h.raw k=none
theorem JK{l:List (Ef×Foot)}{σ0 g}(f:Lex Y loc ops ops.toList σ0 l g){j:Nat}{y:Ef×Foot}(d:l[j]? =some y): ∃o,ops[j]? =some o/\y.2.hw=y.1.isHp/\(y.1.isHp=true->y.2.hr=true)/\y.2.nw=y.1.nwI:=by
 have m:j<ops.toList.length:=by rw[<-f.length];exact(List.getElem?_eq_some_iff.1 d).1
 have e:ops.toList[j]? =some (ops.toList[j]):=sm;obtain⟨k,c,_,a,_⟩:=f.at 0 j _ e;rw[d]at c;cases c;exact⟨_,Array.getElem?_toList▸e,by rw[a];rfl,λh=>by rw[a];simp[Zaj,h],by rw[a];rfl⟩
theorem Zru{l:List (Ef×Foot)}{σ0 τ}(m:Lex Y loc ops ops.toList σ0 l τ)(Z:Ord ops l){S:Nat->Bool}(W:Zbm ops S){i:Nat}{o}(G:ops[i]? =some o)(hu:S i=false)
  (hd: ∀e∈o.after,Region.binds .any e=true->S e.on=true) {x:Ef×Foot} (d:Turn Y loc ops l σ0 S i o x) (hf:Zy4 ops l σ0 S)
  (a2: ∀k,((sst (λj=>S j||j==i) 0 ops.toList l σ0).h.raw k).isSome=true->k<(sst (λj=>S j||j==i) 0 ops.toList l σ0).h.nx):Zy4 ops l σ0 (λj=>S j||j==i):=by
 intro j y k D X hj hq;simp only[uk,beq_eq_false_iff_ne,ne_eq]at hj;obtain⟨w,L⟩:=hj;obtain⟨oj,K,yw,yr,yn⟩:=JK m D;obtain⟨_,N,xw,xr,xn⟩:=JK m d.at_;rw[G]at N;cases N;have a1:ops.toList[i]? =some o:=by simpa using G
 have yk:y.2.nw=some k:=by rw[yn];exact X
 have A: ∀q z,q<j->q≠i->l[q]? =some z->z.1.isHp=true->S q=true:=λq z O C F h4=>by
  have:=hq q z O F h4;simpa[C]using this
 cases a:x.1.isHp with
 |true=>
  have a3:i<j:=by
   rcases Nat.lt_trichotomy i j with h|h|h
   .exact h
   .exact absurd h.symm L
   .have:=Z.cr S W j i oj o y x h K G D d.at_ (WB yk (.inl (xr a))) hd;rw[w]at this;cases this
  have n: ∀k g v,x.1≠ .nw k g v:=λk g v E=>by rw[E]at a;cases a
  have O:=Zd3 m (i+1) (j-(i+1)) λq z h4 h5 hz=>by
   cases u:z.1.isHp with
   |false=>rfl
   |true=>
    obtain⟨H,c,zw,zr,_⟩:=JK m hz;have c1:=A q z om om hz u;have:=Z.cl S W i q o H x z om G c d.at_ hz (Ziw (by rw[xw];exact a) (zr u)) c1;rw[hu]at this;cases this
  have e:i+1+(j-(i+1))=j:=om;rw[e,Ziy a1 d.at_]at O;have C:=d.h n;have F:(x.1.app o.dst (Txt ops l σ0 i)).h.nx=(sst (λj=>S j||j==i) 0 ops.toList l σ0).h.nx:=by rw[<-C];exact Zud a
  obtain⟨h5,_⟩:=Zy3 m D X
  cases hr:(sst (λj=>S j||j==i) 0 ops.toList l σ0).h.raw k with
  |none=>rfl
  |some r=>have:=a2 k (by rw[hr];rfl);omega
 |false=>
  have P:(sst S 0 ops.toList l σ0).h.raw k=none:=hf j y k D X w λq z O C F=>A q z O (λe=>by subst e;rw[d.at_]at C;cases C;rw[a]at F;cases F) C F;by_cases hn: ∃t g v,x.1= .nw t g v
  .obtain⟨t,g,v,E⟩:=hn;have B:x.1.nwI=some t:=by rw[E];rfl
   have xk:x.2.nw=some t:=by rw[xn];exact B
   rw[(d.nw t g v E).2.2.raw];have a0:k≠t:=by
    rcases Nat.lt_trichotomy i j with h|h|h
    .have:=ZDv m d.at_ D B X h λq z q1 q2 hz=>by
      cases u:z.1.isHp with
      |false=>rfl
      |true=>
       obtain⟨H,c,zw,zr,_⟩:=JK m hz;have c1:=A q z q2 om hz u;have:=Z.cl S W i q o H x z q1 G c d.at_ hz (WB xk (.inl (zr u))) c1;rw[hu]at this;cases this
     omega
    .exact absurd h.symm L
    .have:=ZDv m D d.at_ X B h λq z q1 q2 hz=>by
      cases u:z.1.isHp with
      |false=>rfl
      |true=>
       obtain⟨H,c,zw,zr,_⟩:=JK m hz;have c1:=Z.cr S W q i H o z x q2 c G hz d.at_ (VK xk (.inl (zr u))) hd;have:=Z.cl S W j q oj H y z q1 K c D hz (WB yk (.inl (zr u))) c1;rw[w]at this;cases this
     omega
   rw[uE a0];exact P
  .have n: ∀k g v,x.1≠ .nw k g v:=λt g v E=>hn ⟨t,g,v,E⟩;rw[<-d.h n,Zbl];obtain⟨e,f⟩:=x
   cases e with
   |hp _ _=>cases a
   |al _ _ _=>cases a
   |nw _ _ _=>exact absurd rfl (n _ _ _)
   |_=>exact P
theorem Zrv{l:List (Ef×Foot)}{σ0 g:St}(c:Lex Y loc ops ops.toList σ0 l g){S:Nat->Bool}(d: ∀j,S j=false)(a: ∀k,(σ0.h.raw k).isSome=true->k<σ0.h.nx):Zy4 ops l σ0 S:=by
 intro j y k f m _ e;rw[QL _ _ _ _ _ λj=>d _];obtain⟨v,_⟩:=Zy3 c f m;have t:=Zd3 c 0 j λq z _ u hz=>by
  cases n:z.1.isHp with
  |false=>rfl
  |true=>have:=e q z om hz n;rw[d]at this;cases this
 have o:Txt ops l σ0 0=σ0:=QL _ _ _ _ _ λj=>sm;rw[uJ,o]at t
 cases hr:σ0.h.raw k with
 |none=>rfl
 |some r=>have:=a k (by rw[hr];rfl);omega
theorem ZH2{ro:Option Nat}(hY:YOK Y){l:List (Ef×Foot)}{σ0 τ:St}(hr:σ0.refs= [])(hl:Lex Y loc ops ops.toList σ0 l τ)(ho:Ord ops l){Q:Exit->Act->World->Prop}{W0:Vw}{own0:Nat->Prop}{w0:World}
  (hQ: ∀W a w,Rel W τ a w->Stp W0 own0 w0 W (mine W τ a) w->Q .normal a w):
  ∀(fuel:Nat) (d:Array Bool) (W:Vw) (a:Act) (w:World),d.size=ops.size->d.toList.count false=fuel->Zbm ops (λj=>d.getD j false)->
   Zy4 ops l σ0 (λj=>d.getD j false)->Rel W (sst (λj=>d.getD j false) 0 ops.toList l σ0) a w->Stp W0 own0 w0 W (mine W (sst (λj=>d.getD j false) 0 ops.toList l σ0) a) w->wpAnyIn (FrR ro) 0 Y.P .any ops Q fuel d a w:=by
 intro fuel;have a1: ∀(d:Array Bool) (W:Vw) (a:Act) (w:World),d.size=ops.size->(∀j,j<ops.size->d.getD j false=true)->Rel W (sst (λj=>d.getD j false) 0 ops.toList l σ0) a w->
   Stp W0 own0 w0 W (mine W (sst (λj=>d.getD j false) 0 ops.toList l σ0) a) w->Q .normal a w:=by
  intro d W a w _ A f m;have:=hl.sst 0 (λj=>d.getD j false) λj X=>by
   rw[uJ];exact A j (by simpa using X)
  rw[this]at f m;exact hQ W a w f m
 -- nothing is ready only if all is done
 have a3: ∀(d:Array Bool),d.size=ops.size->Region.ready .any ops d= []-> ∀j,j<ops.size->d.getD j false=true:=by
  intro d hz H j
  induction j using Nat.strongRecOn with
  |_ j ih=>
   intro X
   cases L:d.getD j false with
   |true=>rfl
   |false=>
    have B:ops[j]? =some ops[j]:=by simp[X]
    have:j∈Region.ready .any ops d:=mem_ready.2 ⟨by
     have a6:j<d.size:=om;simp[Array.getD,a6]at L ⊢;exact L,_,B,λe G g=>by
     have h1:=ho.lt j _ B e G g;exact ih e.on h1 om⟩
    rw[H]at this;cases this
 induction fuel with
 |zero=>
  intro d W a w hz hc N a8 f m;have A: ∀j,j<ops.size->d.getD j false=true:=by
   intro j X;have a6:j<d.size:=om;rw[List.count_eq_zero]at hc
   cases L:d.getD j false with
   |true=>rfl
   |false=>
    simp[Array.getD,a6]at L;exact absurd (by rw[<-L];simp) hc
  refine⟨?_,a1 d W a w hz A f m⟩
  cases H:Region.ready .any ops d with
  |nil=>rfl
  |cons i r=>
   have hi:i∈Region.ready .any ops d:=by rw[H];simp
   obtain⟨h1,o,h2,_⟩:=mem_ready.1 hi;have b1:i<ops.size:=(Array.getElem?_eq_some_iff.1 h2).1;have h3:=A i b1;have u:i<d.size:=om;simp[Array.getD,u]at h1 h3;rw[h1]at h3;cases h3
 |succ fuel ih=>
  intro d W a w hz hc N a8 f m;refine⟨λH=>a1 d W a w hz (a3 d hz H) f m,λi hi=> ?_⟩;obtain⟨h1,o,h2,h3⟩:=mem_ready.1 hi;have b1:i<ops.size:=(Array.getElem?_eq_some_iff.1 h2).1;have u:i<d.size:=om;have hu:d.getD i false=false:=by simp[Array.getD,u]at h1 ⊢;exact h1
  obtain⟨x,n⟩:=turn hr hl ho N h2 hu h3;have hS:(λj=>(d.setIfInBounds i true).getD j false)=λj=>d.getD j false||j==i:=by
   funext j;by_cases a4:j=i
   .subst a4;simp[Array.getD,u]
   .have h4: ¬i=j:=λh=>a4 h.symm;rw[Array.getD_eq_getD_getElem?,Array.getD_eq_getD_getElem?,Array.getElem?_setIfInBounds,uE h4];simp[a4]
  have b2:Zbm ops (λj=>(d.setIfInBounds i true).getD j false):=by
   rw[hS];intro j oj B X e G g;simp only[uS,vM]at X ⊢;rcases X with X|rfl
   .exact .inl (N j oj B X e G g)
   .rw[h2]at B;cases B;exact .inl (h3 e G g)
  have a9:(d.setIfInBounds i true).toList.count false=fuel:=by
   have hg:d.toList[i]'(by simpa using u)=false:=by simp[Array.getD,u]at hu ⊢;exact hu
   rw[Array.toList_setIfInBounds,List.count_set (h:=by simpa using u),hg,hc];simp
  have b0: ∀E D C,Rel E (sst (λj=>d.getD j false||j==i) 0 ops.toList l σ0) D C->Stp W (mine W (sst (λj=>d.getD j false) 0 ops.toList l σ0) a) w E (mine E (sst (λj=>d.getD j false||j==i) 0 ops.toList l σ0) D) C->
    wpAnyIn (FrR ro) 0 Y.P .any ops Q fuel (d.setIfInBounds i true) D C:=by
   intro E D C F O;refine ih _ E D C (by simpa using hz) a9 b2 ?_ ?_ ?_
   .rw[hS];exact Zru hl ho N h2 hu h3 n a8 F.heap.lt
   .rw[hS];exact F
   .rw[hS];exact m.trans O
  have next:(∀k Z v,x.1≠ .nw k Z v)-> ∀E D C,Rel E (x.1.app o.dst (sst (λj=>d.getD j false) 0 ops.toList l σ0)) D C->Stp W (mine W (sst (λj=>d.getD j false) 0 ops.toList l σ0) a) w E (mine E (x.1.app o.dst (sst (λj=>d.getD j false) 0 ops.toList l σ0)) D) C->
    wpAnyIn (FrR ro) 0 Y.P .any ops Q fuel (d.setIfInBounds i true) D C:=by
   intro K E D C F O;refine b0 E D C (F.ext n.env.symm (n.h K).symm n.refs) (O.weaken λb g=> ?_);rcases g with g|⟨t,⟨cs,a5⟩,a7⟩|g
   .exact .inl g
   .exact .inr (.inl ⟨t,⟨cs,by rw[n.env];exact a5⟩,a7⟩)
   .exact .inr (.inr g)
  unfold wpOpIn;simp only[h2];by_cases hn: ∃k Z v,x.1= .nw k Z v
  .obtain⟨k,Z,v,G⟩:=hn;obtain⟨g1,⟨vf,rfl,g2⟩,g3⟩:=n.nw k Z v G;rw[uF (Zbi f g1)];obtain⟨_,b4,_⟩:=JK hl n.at_;have hk: ¬W.kn k:=λhk=>by
    have h4:=f.heap.kn k hk;have h5:=a8 i x k n.at_ (by rw[G];rfl) hu λq z q1 hz hh=>by
     obtain⟨oq,b3,zw,zr,_⟩:=JK hl hz;obtain⟨_,_,_,_,xn⟩:=JK hl n.at_;exact ho.cr _ N q i oq o z x q1 b3 h2 hz n.at_ (VK (by rw[xn,G];rfl) (.inl (zr hh))) h3
    rw[h5]at h4;cases h4
   refine VH (λc hd=>by simp[newO,hd]at g2) (XH (Znf hY f g2 hk g3) λE D C F O=> ?_);have a0:(putV {sst (λj=>d.getD j false) 0 ops.toList l σ0 with h:=(sst (λj=>d.getD j false||j==i) 0 ops.toList l σ0).h} o.dst (vf k)).env=(sst (λj=>d.getD j false||j==i) 0 ops.toList l σ0).env:=by
    rw[<-n.env,G,Zpn];simp only[Ef.app,Zpn]
   refine b0 E D C (F.ext a0.symm (by rw[Zua]) λy hy=> ?_) (O.weaken λb g=> ?_)
   .have:=n.refs y hy;rw[VJ,G]at this;rw[Ze3];exact this
   .rcases g with g|⟨t,⟨cs,a5⟩,a7⟩|g
    .exact .inl g
    .exact .inr (.inl ⟨t,⟨cs,by rw[a0];exact a5⟩,a7⟩)
    .exact .inr (.inr g)
  have K: ∀k Z v,x.1≠ .nw k Z v:=λk Z v G=>hn ⟨k,Z,v,G⟩;rcases n.step K with ⟨g1,g2⟩|⟨g1,g2⟩
  .rw[uE (by rw[Zbi f g1];simp)];have a2:VR W (.tup []) Go.undef:= .tup [] [] .nil;refine⟨λ_ _=>trivial,next K W _ w ?_ ?_⟩
   .rw[g2];exact f.putV a2 o.dst
   .rw[g2];exact(Stp.refl W _ w).weaken λb g=>Xq a2 o.dst g
  .rw[uF (Zbi f g1)];exact Zpl hY f g2 n.key n.slot (next K)
theorem Zy5{ro:Option Nat}(n:YOK Y){d m:St}{z:Nat}{l:List (Ef×Foot)}{Q:Out->St->Prop}(f:Lex Y loc ops ops.toList {d with refs:= []} l m)(y:chk ops (l.map (·.2))=true)(x:Q .normal {m with refs:= []}):
  TriG ro Y (.region z ops true) d Q:=by
 intro W a w W0 own0 w0 hr t;have A:=ZH0 (by rw[f.length];simp) y;refine wpIn_region_any n.mixed ?_;have c:Same w {w with drawn:=w.drawn+1} :=λb o h=>h;have k: ∀j,(Array.replicate ops.size false).getD j false=false:=by
  intro j;simp[Array.getD]
 have r:sst (λj=>(Array.replicate ops.size false).getD j false) 0 ops.toList l {d with refs:= []} = {d with refs:= []} :=QL _ _ _ _ _ λj=>k _;refine ZH2 n rfl f A (W0:=W0) (own0:=own0) (w0:=w0) (λv B C g u=>⟨.normal,_,v,trivial,x,g.noRefs,u⟩) ops.size _ W a _ sm sm ?_ (Zrv f (λj=>k j) (hr.same c).noRefs.heap.lt) ?_ ?_
 .intro j o _ e;have g:=k j;simp only at e;rw[g]at e;cases e
 .rw[r];exact(hr.same c).noRefs
 .rw[r];exact t.trans ((Stp.same c ⟨rfl,rfl,rfl⟩).weaken λb h=>h)
end
def frzD:Nat:=30
section
variable (Y:YP)
end
section
variable {Y:YP} {σ σ':St}
/-! ### What was not turned -/
variable {kn:FuncId->List V->Heap->Option (V×Heap)}
end
def zDfa:List V:=List.replicate 256 (.i .i64 0)++ [.sl none 0 (some 0) 0, .sl none 0 (some 0) 0]
abbrev tAa:Option TI:=some ⟨1,8, .func,[.nilfn]⟩
abbrev tAb:Option TI:=some ⟨1,8, .int .i64,[.i .i64 0]⟩
abbrev tAc:Option TI:=some ⟨1,1, .int .u8,[.i .u8 0]⟩
abbrev tAd:Option TI:=some ⟨1,8, .int .u64,[.i .u64 0]⟩
abbrev tAe:Option TI:=some ⟨1,16, .str,[.s []]⟩
abbrev tAf:Option TI:=some ⟨1,16, .iface,[.nilifc]⟩
abbrev tAg:Option TI:=some ⟨1,4, .int .i32,[.i .i32 0]⟩
abbrev tAh:Option TI:=some ⟨4,24, .struct [(0,2),(1,3),(2,4),(3,6)],[.i .i64 0, .i .i64 0, .b false, .i .u8 0]⟩
abbrev tAi:Option TI:=some ⟨4,32, .arr 4 23,[.i .u64 0, .i .u64 0, .i .u64 0, .i .u64 0]⟩
abbrev tAj:Option TI:=some ⟨9,88, .struct [(0,3),(1,25),(5,26),(6,3),(7,3),(8,3)],[.i .i64 0, .i .u64 0, .i .u64 0, .i .u64 0, .i .u64 0, .sl none 0 (some 0) 0, .i .i64 0, .i .i64 0, .i .i64 0]⟩
abbrev tAk:Option TI:=some ⟨5,104, .struct [(0,31),(1,32),(2,32),(3,33),(4,4)],[.sl none 0 (some 0) 0, .sl none 0 (some 0) 0, .sl none 0 (some 0) 0, .sl none 0 (some 0) 0, .b false]⟩
abbrev tAl:Option TI:=some ⟨2,24, .struct [(0,3),(1,9)],[.i .i64 0, .s []]⟩
abbrev tAm:Option TI:=some ⟨2,16, .struct [(0,3),(1,3)],[.i .i64 0, .i .i64 0]⟩
abbrev tAn:Option TI:=some ⟨20,160, .struct [(0,49)],List.replicate 20 (.i .i64 0)⟩
abbrev tAo:Option TI:=some ⟨3,40, .struct [(0,3),(1,5),(2,57)],[.i .i64 0, .i .u8 0, .sl none 0 (some 0) 0]⟩
abbrev tAp:Option TI:=some ⟨4,40, .struct [(0,9),(1,3),(2,3),(3,3)],[.s [], .i .i64 0, .i .i64 0, .i .i64 0]⟩
abbrev tAq:Option TI:=some ⟨5,104, .struct [(0,35)],[.sl none 0 (some 0) 0, .sl none 0 (some 0) 0, .sl none 0 (some 0) 0, .sl none 0 (some 0) 0, .b false]⟩
abbrev tAr:Option TI:=some ⟨3,56, .struct [(0,32),(1,32),(2,4)],[.sl none 0 (some 0) 0, .sl none 0 (some 0) 0, .b false]⟩
abbrev tAs:Option TI:=some ⟨258,2096, .struct [(0,95),(256,33),(257,96)],zDfa⟩
abbrev tAt:Option TI:=some ⟨21,176, .struct [(0,9),(1,49)],[.s [], .i .i64 0, .i .i64 0, .i .i64 0, .i .i64 0, .i .i64 0, .i .i64 0, .i .i64 0, .i .i64 0, .i .i64 0, .i .i64 0, .i .i64 0, .i .i64 0, .i .i64 0, .i .i64 0, .i .i64 0, .i .i64 0, .i .i64 0, .i .i64 0, .i .i64 0, .i .i64 0]⟩
abbrev tAu:Option TI:=some ⟨2,2, .struct [(0,5),(1,5)],[.i .u8 0, .i .u8 0]⟩
abbrev tAv:Option TI:=some ⟨3,32, .struct [(0,9),(1,3),(2,4)],[.s [], .i .i64 0, .b false]⟩
abbrev tAw:Option TI:=some ⟨4,40, .struct [(0,9),(1,3),(2,3),(3,36)],[.s [], .i .i64 0, .i .i64 0, .i .i64 0]⟩
abbrev tAx:Option TI:=some ⟨1,8, .struct [(0,3)],[.i .i64 0]⟩
abbrev tAy:Option TI:=some ⟨2,32, .struct [(0,180),(1,138)],[.p none, .sl none 0 (some 0) 0]⟩
abbrev tAz:Option TI:=some ⟨4,32, .struct [(0,3),(1,3),(2,3),(3,5)],[.i .i64 0, .i .i64 0, .i .i64 0, .i .u8 0]⟩
abbrev tBa:Option TI:=some ⟨12,136, .struct [(0,44),(2,56),(3,28)],[.i .i64 0, .s [], .sl none 0 (some 0) 0, .i .i64 0, .i .u64 0, .i .u64 0, .i .u64 0, .i .u64 0, .sl none 0 (some 0) 0, .i .i64 0, .i .i64 0, .i .i64 0]⟩
def Tryz.tys:List (Option TI):= [
none,tAa,tAb,tAb,some ⟨1,1,.bool,[.b false]⟩,tAc,tAc,tAh,tAh,tAe,tAe,tAe,tAd,none,none,some ⟨1,8,.ptr 273,[.p none]⟩,some ⟨1,8,.ptr 276,[.p none]⟩,some ⟨1,8,.ptr 283,[.p none]⟩,none,none,tAf,tAg,tAa,tAd,tAi,tAi,some ⟨1,24,.slice 28,[.sl none 0 (some 0) 0]⟩,tAj,tAj,none,tAa,some ⟨1,24,.slice 25,[.sl none 0 (some 0) 0]⟩,some ⟨1,24,.slice 3,[.sl none 0 (some 0) 0]⟩,some ⟨1,24,.slice 32,[.sl none 0 (some 0) 0]⟩,tAk,tAk,tAb,none,tAa,tAa,none,tAa,tAa,tAl,tAl,none,tAa,tAm,tAm,some ⟨20,160,.arr 10 48,List.replicate 20 (.i .i64 0)⟩,tAn,tAn,none,tAa,tAa,tAa,some ⟨1,24,.slice 59,[.sl none 0 (some 0) 0]⟩,some ⟨1,24,.slice 155,[.sl none 0 (some 0) 0]⟩,tAo,tAo,none,tAa,none,tAa,tAa,tAa,tAa,tAa,tAa,tAa,tAa,none,tAa,tAa,tAa,tAa,some ⟨1,8,.ptr 78,[.p none]⟩,tAp,tAp,tAa,tAa,tAa,tAa,some ⟨1,8,.ptr 85,[.p none]⟩,tAq,tAq,tAr,tAr,tAa,tAa,tAa,tAa,tAa,some ⟨18,176,.arr 2 28,[.i .i64 0,.i .u64 0,.i .u64 0,.i .u64 0,.i .u64 0,.sl none 0 (some 0) 0,.i .i64 0,.i .i64 0,.i .i64 0,.i .i64 0,.i .u64 0,.i .u64 0,.i .u64 0,.i .u64 0,.sl none 0 (some 0) 0,.i .i64 0,.i .i64 0,.i .i64 0]⟩,some ⟨10,208,.arr 2 35,[.sl none 0 (some 0) 0,.sl none 0 (some 0) 0,.sl none 0 (some 0) 0,.sl none 0 (some 0) 0,.b false,.sl none 0 (some 0) 0,.sl none 0 (some 0) 0,.sl none 0 (some 0) 0,.sl none 0 (some 0) 0,.b false]⟩,some ⟨256,2048,.arr 256 3,List.replicate 256 (.i .i64 0)⟩,some ⟨1,24,.slice 4,[.sl none 0 (some 0) 0]⟩,tAs,tAs,some ⟨516,4192,.arr 2 98,zDfa++zDfa⟩,some ⟨1,24,.slice 44,[.sl none 0 (some 0) 0]⟩,none,tAa,none,tAa,tAa,tAa,tAa,tAa,tAa,tAa,tAa,tAa,tAa,none,tAa,none,tAa,tAa,tAa,none,tAa,tAa,tAa,tAa,tAa,tAa,none,tAa,tAa,tAa,tAa,tAd,tAa,tAa,tAa,tAa,tAa,some ⟨1,24,.slice 5,[.sl none 0 (some 0) 0]⟩,none,tAa,tAa,tAa,tAa,tAa,tAa,some ⟨1,8,.ptr 148,[.p none]⟩,tAt,tAt,tAa,tAa,none,tAa,tAa,tAu,tAu,none,tAa,tAa,tAa,tAa,tAa,some ⟨1,8,.ptr 211,[.p none]⟩,none,tAa,some ⟨1,8,.ptr 167,[.p none]⟩,tAv,tAv,tAa,some ⟨1,8,.ptr 171,[.p none]⟩,tAw,tAw,tAa,tAa,tAa,none,tAa,tAx,tAx,tAa,some ⟨1,8,.ptr 182,[.p none]⟩,tAy,tAy,tAa,tAa,tAa,tAa,tAa,tAa,tAa,tAa,tAa,tAa,tAa,tAa,some ⟨1,8,.map 9 3,[.mp none]⟩,tAf,tAf,tAa,none,tAa,some ⟨2,16,.arr 2 3,[.i .i64 0,.i .i64 0]⟩,some ⟨1,8,.map 201 3,[.mp none]⟩,tAz,tAz,some ⟨1,24,.slice 204,[.sl none 0 (some 0) 0]⟩,tAa,tAa,tAa,tAa,tBa,tBa,tAa,tAa,tAa,tAa,tAa,none,tAa,some ⟨1,8,.ptr 178,[.p none]⟩,tAa,tAa,none,tAa,some ⟨1,8,.ptr 5,[.p none]⟩,tAa,tAa,tAb,none,tAa,tAa,tAa,tAa,tAa,tAa,some ⟨1,4,.int .u32,[.i .u32 0]⟩,tAa,tAa,tAa,tAa,tAa,tAa,tAa,tAa,tAa,tAa,tAa,tAa,tAd,tAa,tAa,tAa,some ⟨1,8,.ptr 3,[.p none]⟩,tAa,none,tAa,tAa,some ⟨1,8,.ptr 248,[.p none]⟩,tAa,tAa,tAa,tAa,tAa,some ⟨24,24,.arr 24 5,List.replicate 24 (.i .u8 0)⟩,tAa,none,tAa,tAa,some ⟨20,160,.arr 20 23,List.replicate 20 (.i .u64 0)⟩,some ⟨65,65,.arr 65 5,List.replicate 65 (.i .u8 0)⟩,some ⟨32,32,.arr 32 5,List.replicate 32 (.i .u8 0)⟩,some ⟨64,64,.arr 64 5,List.replicate 64 (.i .u8 0)⟩,none,none,some ⟨0,0,.arr 0 16,[]⟩,none,none,tAc,tAc,tAa,tAg,tAg,none,none,tAa]
def Tryz.locs:List (List Nat):= [
  [],
  [],
  [],
  [7,10,14,16,18,20],
  [3,4,9,11],
  [5,8,9,11,13,15,17,19],
  [3,7,12,14,16],
  [1,4],
  [2,6],
  [2,4,7],
  [1,2,5,46],
  [2],
  [1],
  [3,4,8,9,10,12,13,16,17,20,21],
  [3,6,11,14],
  [1,6],
  [2],
  [2],
  [2],
  [2],
  [1,2,8,16],
  [1,2,8,16],
  [2,3],
  [4],
  [],
  [],
  [1],
  [4,9],
  [],
  [1],
  [1],
  [1,5],
  [3,4,5,8,9,11],
  [],
  [3],
  [3],
  [],
  [1],
  [2,4,6,8],
  [2,3],
  [3,8],
  [4,8],
  [1],
  [2,4],
  [],
  [1,2],
  [2],
  [],
  [],
  [5],
  [],
  [],
  [1],
  [0],
  [],
  [2,6],
  [1],
  [1,2,4],
  [0],
  [1],
  [1,2],
  [5],
  [],
  [2],
  [],
  [],
  [],
  [4],
  [],
  [1],
  [],
  [1],
  [],
  [4,5,6,7],
  [3,4,5,8],
  [],
  [],
  [],
  [],
  [],
  [1],
  [],
  [1,2],
  [2],
  [3],
  [],
  [],
  [],
  [2],
  [3,4,12,14],
  [],
  [4],
  [5,11],
  [1],
  [2,5],
  [4,10],
  [2],
  [],
  [1],
  [1],
  [0],
  [1],
  [0],
  [4],
  [1],
  [2],
  [4,9],
  [],
  [],
  [],
  [5],
  [],
  [4,5],
  [5],
  [3,5],
  [],
  [],
  [],
  [],
  [27],
  [],
  [],
  [],
  [],
  [2],
  [],
  [],
  [],
  [],
  [5,9],
  [],
  [],
  [1],
  [],
  [],
  [4],
  [],
  [],
  [4],
  [],
  [5],
  [4,7],
  [],
  [1],
  [10],
  [4],
  [],
  [1,6],
  [],
  [],
  [],
  [],
  [],
  [],
  [],
  [],
  [],
  [],
  [],
  [],
  [],
  [],
  [],
  [],
  [],
  [],
  [],
  [],
  [],
  [2,3],
  [4,5,6],
  [],
  [],
  [2],
  [],
  [1],
  [1,2],
  [],
  [],
  [],
  [],
  [],
  [],
  [],
  [],
  [],
  [],
  [4],
  [],
  [],
  [2],
  [],
  [],
  [4,6],
  [2,4],
  [2],
  [],
  [],
  [],
  [],
  [6],
  [],
  [],
  [],
  [],
  [],
  [],
  [],
  [],
  [],
  [],
  [],
  [],
  [],
  [],
  [],
  [],
  [],
  [],
  [],
  [],
  [],
  [],
  [],
  [],
  [],
  [],
  [],
  [],
  [],
  [],
  [],
  [],
  [],
  []]
def Tryz.modes:List Nat:= [2,2,2,2,2,2,2,2,1,1,1,2,2,2,2,2,1,1,1,1,1,1,2,2,1,2,2,4,0,2,2,2,4,1,1,1,2,2,1,2,1,2,2,4,1,1,4,1,2,1,2,1,2,1,1,1,2,1,1,2,1,1,1,2,2,0,3,4,3,2,0,2,1,4,4,0,0,0,3,2,2,2,1,1,1,0,3,2,2,0,2,4,0,2,1,2,2,0,2,2,1,2,1,2,0,4,4,3,0,5,1,2,4,0,0,3,0,0,6,0,2,2,0,2,2,2,0,2,2,0,0,0,2,0,4,4,3,0,4,2,1,4,0,2,0,0,0,2,2,6,2,2,2,2,2,2,2,2,2,2,2,2,0,2,2,3,2,0,3,0,4,2,2,4,0,1,2,2,2,2,2,0,0,0,2,0,0,4,0,2,2,2,0,4,4,1,0,2,2,0,2,2,2,2,1,2,2,2,2,2,2,2,2,2,2,2,2,2,2,0,0,0,0,0,0,0,0,0,2,2,2,2,2,2,2]
noncomputable def UY:YP:=⟨Go.Proofs.Tryz.prog,Tryz.tys,Tryz.locs,Tryz.modes,[182,5],[(185,1),(197,2)],[26,27,28]⟩
theorem Tryz.ext185: ∃fn,UY.P.funcs[185]? =some fn/\fn.body.isNone=true/\Extern.findNext fn=none/\Extern.find fn=some (extE 1):=⟨Go.Proofs.Tryz.f185,kr,kr,kr,kr⟩
theorem Tryz.ext197: ∃fn,UY.P.funcs[197]? =some fn/\fn.body.isNone=true/\Extern.findNext fn=none/\Extern.find fn=some (extE 2):=⟨Go.Proofs.Tryz.f197,kr,kr,kr,kr⟩
theorem Tryz.extok:ZDf UY:=by
 intro p hp;have a:p∈([(185,1),(197,2)]:List (FuncId×Nat)):=hp;simp only[List.mem_cons,List.not_mem_nil,or_false]at a;rcases a with rfl|rfl
 .exact Tryz.ext185
 .exact Tryz.ext197
theorem UK:YOK UY:=Vg kr Tryz.extok
abbrev vVW(N:List V)(L:Nat)(O:List V)(W:Nat)(F:List V)(K:Nat)(Z:Int)(E:Int)(H:Int)(D:List V)(P:Nat)(x7:List UInt8)(G:List UInt8)(X:List UInt8)(m:List UInt8)(u:List UInt8)(n:List UInt8)(o:List UInt8)(r:List UInt8)(B:List UInt8)(k:List UInt8)(z:List V)(g:Nat)(f:Int)(c:Int)(v:Int)(C:Int)(j:Int)(w:List V)(y:Nat)(x:List V)(t:Nat)(a:List V)(d:Nat)(e:List V)(A:Nat)(h:List V)(l:Nat):List V:= [.ts N L none, .ts O W none, .ts F K none, .i .i64 Z, .i .i64 E, .i .i64 H, .ts D P none, .s x7, .s G, .s X, .s m, .s u, .s n, .s o, .s r, .s B, .s k, .ts z g none, .i .i64 f, .i .i64 c, .i .i64 v, .i .i64 C, .i .i64 j, .ts w y none, .ts x t none, .ts a d none, .ts e A none, .ts h l none]
abbrev vCF(E:Int)(u:List V)(A:Nat)(x:List UInt8)(C:List UInt8)(w:List UInt8)(z:List UInt8)(v:List UInt8)(D:List UInt8)(y:List UInt8)(B:List UInt8)(o:List UInt8)(j:List UInt8)(c:List V)(h:Nat)(e:Int)(f:Int)(t:Int)(l:Int)(r:Int)(g:List V)(m:Nat)(d:List V)(a:Nat)(k:List V)(n:Nat):List V:= [.i .i64 E, .ts u A none, .s x, .s C, .s w, .s z, .s v, .s D, .s y, .s B, .s o, .s j, .ts c h none, .i .i64 e, .i .i64 f, .i .i64 t, .i .i64 l, .i .i64 r, .ts g m none, .ts d a none, .ts k n none]
abbrev vSD(t:Bool)(c:Bool)(g:Bool)(k:Int)(e:Int)(l:List UInt8)(d:List V)(n:Nat)(f:Option Nat)(m:List UInt8)(o:List V)(j:Nat)(h:Option Nat)(r:List UInt8)(a:List UInt8):List V:= [.b t, .b c, .b g, .i .i64 k, .i .i64 e, .s l, .ts d n f, .s m, .ts o j h, .s r, .s a]
abbrev vMD(h:List V)(c:Nat)(a:List V)(g:Nat)(f:List V)(j:Nat)(e:Int)(d:Int):List V:= [.ts h c none, .ts a g none, .ts f j none, .i .i64 e, .i .i64 d]
end Go.Y
