/- A part of the proof. -/
import Derived.Test.YteennilbmmlikaaGreatDoorYAny
import Derived.OrdersIn
import Derived.Test.YteennilbmmlikaaGreatDoorYEff
import Derived.Test.YteennilbmmlikaaGreatDoorProg
import Derived.KernelRfl
namespace Go.Y
set_option maxRecDepth 1000000
set_option maxHeartbeats 0
section
variable {Y:YP} {loc:Nat->Bool} {ops:Array Oper}
structure Turn(Y:YP)(loc:Nat->Bool)(ops:Array Oper)(l:List (Ef×Foot))(σ0:St)(S:Nat->Bool)(i:Nat)(o:Oper)(x:Ef×Foot):Prop where
 at_:l[i]? =some x
 step:(∀k x' v,x.1≠ .nw k x' v)->Zz5 Y loc ops (sst S 0 ops.toList l σ0) o x.1
 key: ∀s f,x.1= .q (.ref s f)-> ∀y∈(sst S 0 ops.toList l σ0).refs,o.dst≠some y.1
 slot: ∀cs,x.1= .box cs-> ∀y∈(sst S 0 ops.toList l σ0).refs,o.dst≠some y.2.1
 env:(x.1.app o.dst (sst S 0 ops.toList l σ0)).env=(sst (fun j=>S j||j==i) 0 ops.toList l σ0).env
 h:(∀k x' v,x.1≠ .nw k x' v)->(x.1.app o.dst (sst S 0 ops.toList l σ0)).h=(sst (fun j=>S j||j==i) 0 ops.toList l σ0).h
 nw: ∀k x' v,x.1= .nw k x' v->JG ops (sst S 0 ops.toList l σ0).env o=some true∧(∃vf,v=vf k∧newO Y (sst S 0 ops.toList l σ0) o=some (x',vf))∧
  PushH (sst S 0 ops.toList l σ0).h (sst (fun j=>S j||j==i) 0 ops.toList l σ0).h k x'
 refs: ∀y,y∈(sst (fun j=>S j||j==i) 0 ops.toList l σ0).refs->y∈(x.1.app o.dst (sst S 0 ops.toList l σ0)).refs
/-! ### Numbers in the text's order -/
def Txt(ops:Array Oper)(l:List (Ef×Foot))(σ0:St)(i:Nat):St:=sst (λj=>decide (j<i)) 0 ops.toList l σ0
theorem Zjb{l:List (Ef×Foot)}{σ0:St}{i:Nat}{o}{x:Ef×Foot}(a:ops.toList[i]? =some o)(c:l[i]? =some x):sst (λ_=>true) 0 (ops.toList.take i) (l.take i) σ0=Txt ops l σ0 i:=by
 unfold Txt;rw[Vm (λj=>decide (j<i)) i 0 ops.toList l σ0 o x a c];simp only[uJ,Nat.lt_irrefl,decide_false,uI,vF];rw[QL (i+1) _ _ _ (λj=>decide (j<i)) (λj=>by simp;omega)];exact Wl 0 _ _ _ _ _ λj b=>by
  simp at b ⊢;omega
theorem Zjc{l:List (Ef×Foot)}{σ0}{i:Nat}{o:Oper}{x:Ef×Foot}(b:ops.toList[i]? =some o)(c:l[i]? =some x):Txt ops l σ0 (i+1)=x.1.app o.dst (Txt ops l σ0 i):=by
 have a:=Vm (λj=>decide (j<i+1)) i 0 ops.toList l σ0 o x b c;simp only[uJ,Nat.lt_succ_self,decide_true,vG]at a;unfold Txt;rw[a,QL (i+1) _ _ _ (λj=>decide (j<i+1)) (λj=>sm)];rw[Wl 0 (ops.toList.take i) (l.take i) σ0 (λj=>decide (j<i+1)) (λ_=>true) λj d=>by simp at d ⊢;omega];rw[Zjb b c]
 rfl
theorem ZI8{d:Option Tmp}{e:Ef}{b:St}(a:e.isHp=false):b.h.nx<=(e.app d b).h.nx:=by
 rw[Zbq]
 cases e with
 |hp h v=>cases a
 |al i o v=>cases a
 |nw i o v=>exact Nat.le_max_left _ _
 |_=>exact Nat.le_refl _
theorem Zvc{d b:Option Tmp}{e:Ef}{f a}(c:e.isHp=true):(e.app d f).h.nx=(e.app b a).h.nx:=by
 rw[Zbq,Zbq];cases e<;>first|rfl|cases c
theorem Zeg{l:List (Ef×Foot)}{σ0 k}(d:Lex Y loc ops ops.toList σ0 l k)(m:Nat): ∀(n:Nat),(∀q z,m<=q->q<m+n->l[q]? =some z->z.1.isHp=false)->(Txt ops l σ0 m).h.nx<=(Txt ops l σ0 (m+n)).h.nx
 |0,_=>Nat.le_refl _
 |n+1,e=>by
  have b:=Zeg d m n λq z b c=>e q z b om;have a:=d.length;by_cases g:m+n<l.length;have f:l[m+n]? =some l[m+n]:=sm;have i:ops.toList[m+n]? =some (ops.toList[m+n]'(by rw[<-a];exact g)):=sm;have c:=Zjc (σ0:=σ0) i f;have:m+(n+1)=m+n+1:=om;rw[this,c];exact uu b (ZI8 (e (m+n) _ om om f))
  .have:Txt ops l σ0 (m+(n+1))=Txt ops l σ0 (m+n):=by
    unfold Txt;exact Wl 0 _ _ _ _ _ λj o=>by
     have:j<m+n:=om;simp[this];omega
   rw[this];exact b
theorem ZAa{l:List (Ef×Foot)}{σ0 p}(n:Lex Y loc ops ops.toList σ0 l p){j:Nat}{y:Ef×Foot}{k:Nat}(a:l[j]? =some y)(c:y.1.nwI=some k):k=(Txt ops l σ0 j).h.nx/\k<(Txt ops l σ0 (j+1)).h.nx:=by
 have q:j<ops.toList.length:=by rw[<-n.length];exact(List.getElem?_eq_some_iff.1 a).1
 have d:ops.toList[j]? =some (ops.toList[j]):=sm;obtain⟨r,g,m,_⟩:=n.at 0 j _ d;rw[a]at g;cases g;rw[Zjb d a]at m;obtain⟨e,f⟩:=y
 cases e with
 |nw i x v=>
  simp only[Ef.nwI,uB]at c;subst c;rcases m with ⟨_,b⟩|⟨_,b⟩;cases b;obtain⟨o,_⟩:=b.nwI;refine⟨o,?_⟩;rw[Zjc d a,Zbq];exact Nat.lt_of_lt_of_le (Nat.lt_succ_self _) (Nat.le_max_right _ _)
 |_=>cases c
theorem ZEz{l:List (Ef×Foot)}{σ0 n}(c:Lex Y loc ops ops.toList σ0 l n){m j:Nat}{x y:Ef×Foot}{a b:Nat}(h:l[m]? =some x)(g:l[j]? =some y)(d:x.1.nwI=some a)(f:y.1.nwI=some b)(i:m<j)
  (k: ∀q z,m<q->q<j->l[q]? =some z->z.1.isHp=false):a<b:=by
 obtain⟨o,p⟩:=ZAa c h d;obtain⟨r,_⟩:=ZAa c g f;have:=Zeg c (m+1) (j-(m+1)) λq z s t=>k q z om om;have e:m+1+(j-(m+1))=j:=om;rw[e]at this;omega
theorem Zqc{S:Nat->Bool}{k:Nat}{q:YObj} : ∀(n:Nat) (os:List Oper) (l:List (Ef×Foot)) (c a:St),PushH c.h a.h k q->
  (∀j o y,os[j]? =some o->l[j]? =some y->S (n+j)=true->y.1.isHp=false/\y.1.nwI≠some k)->PushH (sst S n os l c).h (sst S n os l a).h k q
 |n,[],l,c,a,h,_=>by cases l<;>simpa[sst]using h
 |n,o::r,[],c,a,h,_=>by simpa[sst]using h
 |n,o::r,y::l,c,a,h,m=>by
  simp only[sst];refine Zqc (n+1) r l _ _ ?_ λj p w d b t=>m (j+1) p w (su d) (su b) (by rw[<-t];congr 1;omega)
  cases u:S n with
  |false=>simpa using h
  |true=>
   simp only[vG];obtain⟨d,b⟩:=m 0 o y rfl rfl (su u);rw[Zbq,Zbq];obtain⟨e,f⟩:=y
   cases e with
   |hp _ _=>cases d
   |al _ _ _=>cases d
   |nw i p v=>
    simp only[Ef.nwI,ne_eq,uB]at b;refine⟨λj=> ?_,⟨?_,?_⟩,h.tg⟩;rw[Heap.putM_raw,Heap.putM_raw,h.raw];by_cases g:j=i;have: ¬j=k:=λs=>b (by rw[<-g,s]);simp[g,b];simp[g];have:=h.nx.1;show max _ _<=max _ _;omega;exact Nat.lt_of_lt_of_le h.nx.2 (Nat.le_max_left _ _)
   |_=>exact h
theorem turn{l:List (Ef×Foot)}{σ0 τ:St}(hr:σ0.refs= [])(hl:Lex Y loc ops ops.toList σ0 l τ)(ho:Ord ops l){S}(hS:Zbr ops S)
  {i:Nat} {o:Oper} (hi:ops[i]? =some o) (hu:S i=false) (hd: ∀e∈o.after,Region.binds .any e=true->S e.on=true): ∃x,Turn Y loc ops l σ0 S i o x:=by
 have P:ops.toList[i]? =some o:=su hi;obtain⟨x,hx,hw,hf,hk⟩:=hl.at 0 i o P
 -- the state in the text's order, as a set's
 have c6:sst (λ_=>true) 0 (ops.toList.take i) (l.take i) σ0=sst (λj=>decide (j<i)) 0 ops.toList l σ0:=Zjb P hx;rw[c6]at hw hf hk
 let ρ:=sst (λj=>decide (j<i)) 0 ops.toList l σ0
 let O:=sst S 0 ops.toList l σ0
 -- what clashes with it is done just if it stands ahead
 have b2: ∀(j:Nat) (g:Oper) (y:Ef×Foot),ops.toList[j]? =some g->l[j]? =some y->(j<i->Qj ops g o y.2 x.2=true)->(i<j->Qj ops o g x.2 y.2=true)->decide (j<i)=S j:=by
  intro j g y d3 K m c;have b0:ops[j]? =some g:=su d3;rcases Nat.lt_trichotomy j i with u|u|u;rw[uN u];exact(ho.cr S hS j i g o y x u b0 hi K hx (m u) hd).symm;subst u;simp[hu]
  .rw[uK om]
   cases B:S j with
   |false=>rfl
   |true=>
    have:=ho.cl S hS i j o g x y u hi b0 hx K (c u) B;rw[hu]at this;cases this
 have n: ∀(j:Nat) (g:Oper) (y:Ef×Foot),ops.toList[j]? =some g->l[j]? =some y->(j<i->Qj ops g o y.2 x.2=true)->(i<j->Qj ops o g x.2 y.2=true)->decide (0+j<i)=S (0+j):=by
  intro j g y m c b L;rw[uJ];exact b2 j g y m c b L
 have a1: ∀t,(t∈o.looksAt ops\/t∈x.2.t)->R1 t ρ O:=λt ht=>Qt (R1.keeps t) R1.symm 0 _ _ _ _ (R1.refl t σ0) λj g y m c b=>by
  have c4:g.dst=some t:=b;refine n j g y m c (λ_=>Zc9 c4 ?_) (λ_=>Zof c4 ?_);rcases ht with h|h;exact .inl h;exact .inr (.inr (.inl h));rcases ht with h|h;exact .inl h;exact .inr (.inr (.inl h))
 have p: ∀(j:Nat) (g:Oper) (y:Ef×Foot),ops.toList[j]? =some g->l[j]? =some y->y.2.w=y.1.stS/\y.2.hw=y.1.isHp/\(∀s∈y.1.refS,s∈y.2.t)/\(∀s∈y.1.stS,s∈y.2.r)/\(y.1.isHp=true->y.2.hr=true)/\y.2.al=y.1.alI/\y.2.nw=y.1.nwI:=by
  intro j g y m c;obtain⟨y',b,_,L,_⟩:=hl.at 0 j g m;rw[c]at b;cases b;rw[L];exact⟨rfl,rfl,λs Z=>List.mem_append_right _ Z,λs Z=>List.mem_append_right _ Z,λh=>by simp[Zao,h],rfl,rfl⟩
 obtain⟨d7,d1,e2,d6,a7,d9,d2⟩:=p i o x P hx;have a3: ∀s,s∈x.2.r->R3 s ρ O:=λs Z=>Qt (R3.keeps s) R3.symm 0 _ _ _ _ (R3.refl s σ0) λj g y m c b=>by
  have D:=(p j g y m c).1;rcases b with b|b;exact n j g y m c (λ_=>Zc9 b (.inr (.inr (.inr Z)))) (λ_=>Zof b (.inr (.inr (.inr Z))));exact n j g y m c (λ_=>Zqa (by rw[D];exact b) Z) (λ_=>Zz6 (by rw[D];exact b) Z)
 have a4:x.2.hr=true->ρ.h=O.h:=λhh=>Qt R4.keeps R4.symm 0 _ _ _ _ (rfl:R4 σ0 σ0) λj g y m c b=>by
  have D:=(p j g y m c).2.1;have G:=(p j g y m c).2.2.2.2.2.2;rcases b with b|b;exact n j g y m c (λ_=>Zja (by rw[D];exact b) hh) (λ_=>Zz9 (by rw[D];exact b) hh);obtain⟨k,b⟩:=Option.isSome_iff_exists.1 b;exact n j g y m c (λ_=>WE (by rw[G];exact b) (.inl hh)) (λ_=>VN (by rw[G];exact b) (.inl hh))
 have a5: ∀k,k∈x.2.ro->ρ.h.get k=O.h.get k:=λk W=>Qt (R5.keeps k) R5.symm 0 _ _ _ _ (rfl:R5 k σ0 σ0) λj g y m c b=>by
  have D:=(p j g y m c).2.1;have c8:=(p j g y m c).2.2.2.2.2.1;have G:=(p j g y m c).2.2.2.2.2.2;rcases b with b|b;exact n j g y m c (λ_=>Zz7 (by rw[D];exact b.1) (by rw[c8];exact b.2) W) (λ_=>Zz8 (by rw[D];exact b.1) (by rw[c8];exact b.2) W);exact n j g y m c (λ_=>WE (by rw[G];exact b) (.inr W)) (λ_=>VN (by rw[G];exact b) (.inr W))
 have a9:AgO ρ O o:=by
  refine⟨λt ht=>(a1 t (.inl (Zvb ht))).2,λt ht s Z=>(a1 s (.inr ?_)).2.env,λs Z=>(a3 s ?_).2,λhh=>a4 ?_,λk W=>a5 k ?_⟩;rw[hf];exact List.mem_append_left _ (List.mem_filterMap.2 ⟨t,ht,Z⟩);rw[hf];exact List.mem_append_left _ Z;rw[hf];simp[Zao,ρ]at hh ⊢;exact .inl hh;rw[hf];exact W
 have C:JG ops O.env o=JG ops ρ.env o:=by
  cases hg:o.guard with
  |none=>simp[JG,hg]
  |some jw=>
   obtain⟨j,d8⟩:=jw
   cases b7:(ops[j]?).bind (·.dst) with
   |none=>simp[JG,hg,b7]
   |some d=>exact Zli hg b7 (a1 d (.inl (Zoe hg b7))).2.env
 have c3:(∀k x' v,x.1≠ .nw k x' v)->Zz5 Y loc ops O o x.1:=by
  intro b8;rcases hw with ⟨m,c⟩|⟨m,c⟩;exact .inl ⟨by rw[C];exact m,c⟩;refine .inr ⟨by rw[C];exact m,c.local a9 (λh v E=>a4 ?_) (λi x' v E=>a4 ?_) b8⟩;exact a7 (by rw[E];rfl);exact a7 (by rw[E];rfl)
 -- references
 have a0: ∀y∈O.refs,∃(j:Nat) (g:Oper) (z:Ef×Foot),ops.toList[j]? =some g/\l[j]? =some z/\S j=true/\g.dst=some y.1/\z.1= .q (.ref y.2.1 y.2.2)/\(j<i->y∈ρ.refs):=by
  intro y K;rcases(Zbs 0 _ _ _ _ _).1 K with h|⟨j,g,z,m,c,b,L,h5⟩;rw[hr]at h;simp at h;rw[uJ]at b;refine⟨j,g,z,m,c,b,L,h5,λu=>(Zbs 0 _ _ _ _ _).2 (.inr ⟨j,g,z,m,c,?_,L,h5⟩)⟩;rw[uJ];exact uN u
 have A: ∀(j:Nat) (g:Oper) (z:Ef×Foot),ops.toList[j]? =some g->l[j]? =some z->S j=true->i<j->Qj ops o g x.2 z.2=true->False:=by
  intro j g z m c b L h5;have:=b2 j g z m c (λh=>absurd h om) (λ_=>h5);rw[b]at this;simp at this;omega
 have c5: ∀s f,x.1= .q (.ref s f)-> ∀y∈O.refs,o.dst≠some y.1:=by
  intro s f E y K F;obtain⟨j,g,z,m,c,b,L,h5,h6⟩:=a0 y K;rcases Nat.lt_trichotomy j i with u|u|u;have:=h6 u;simp only[Zfg,E,F]at hk;have:=uP.1 hk y this;simp at this;subst u;rw[hu]at b;cases b;exact A j g z m c b u (Zc9 F (.inr (.inl L)))
 have c0: ∀cs,x.1= .box cs-> ∀y∈O.refs,o.dst≠some y.2.1:=by
  intro cs E y K F;obtain⟨j,g,z,m,c,b,L,h5,h6⟩:=a0 y K;rcases Nat.lt_trichotomy j i with u|u|u;have:=h6 u;simp only[Zfg,E,F]at hk;have:=uP.1 hk y this;simp at this;subst u;rw[hu]at b;cases b;exact A j g z m c b u (Zc9 F (.inr (.inr (.inl ((p j g z m c).2.2.1 _ (by rw[h5];simp[Ef.refS]))))))
 -- the state behind it
 let S':Nat->Bool:=λj=>S j||j==i
 have c2:O=sst S (i+1) (ops.toList.drop (i+1)) (l.drop (i+1)) (sst S 0 (ops.toList.take i) (l.take i) σ0):=by
  have:=Vm S i 0 ops.toList l σ0 o x P hx;simp only[uJ,hu,uI,vF]at this;exact this
 have a6:sst S' 0 ops.toList l σ0=sst S (i+1) (ops.toList.drop (i+1)) (l.drop (i+1)) (x.1.app o.dst (sst S 0 (ops.toList.take i) (l.take i) σ0)):=by
  have:=Vm S' i 0 ops.toList l σ0 o x P hx;have e1:S' i=true:=by simp[S']
  simp only[uJ,e1,vG]at this;rw[this];rw[Wl 0 (ops.toList.take i) (l.take i) σ0 S' S λj u=>by
   simp at u;have: ¬j=i:=om;simp[S',this]]
  exact Wl (i+1) _ _ _ S' S λj u=>by
   have: ¬(i+1+j=i):=om;simp[S',this]
 let π:=sst S 0 (ops.toList.take i) (l.take i) σ0
 have a2: ∀(j:Nat) (g:Oper) (y:Ef×Foot),(ops.toList.drop (i+1))[j]? =some g->(l.drop (i+1))[j]? =some y->Qj ops o g x.2 y.2=true->S (i+1+j)=false:=by
  intro j g y m c b;rw[uz]at m c
  cases B:S (i+1+j) with
  |false=>rfl
  |true=>exact(A (i+1+j) g y m c B om b).elim
 have b3: ∀t,R3 t (x.1.app o.dst O) (sst S' 0 ops.toList l σ0):=by
  intro t;rw[c2,a6];by_cases N:ZCy t o x
  .have H: ∀X:St,R3 t (sst S (i+1) (ops.toList.drop (i+1)) (l.drop (i+1)) X) X:=by
    intro X;have:=Qt (R3.keeps t) R3.symm (S:=S) (S':=λ_=>false) (i+1) (ops.toList.drop (i+1)) (l.drop (i+1)) X X (R3.refl t X) λj g y m c b=>a2 j g y m c (by
     have D:=(p (i+1+j) g y (by rw[<-uz];exact m) (by rw[<-uz];exact c)).1;rcases N with ht|ht;rcases b with b|b;exact Zc9 ht (.inr (.inl b));exact Zc9 ht (.inr (.inr (.inr ((p (i+1+j) g y (by rw[<-uz];exact m) (by rw[<-uz];exact c)).2.2.2.1 _ b))))
     .rcases b with b|b;exact Zof b (.inr (.inr (.inr (d6 _ ht))))
      .exact Zqa (by rw[d7];exact ht) ((p (i+1+j) g y (by rw[<-uz];exact m) (by rw[<-uz];exact c)).2.2.2.1 _ b))
    rwa [QL (i+1) _ _ _ (λ_=>false) (λ_=>rfl)]at this
   have m:=(R3.keeps t).both _ _ o x (H π);have c:=H (x.1.app o.dst π);exact⟨Eq.trans m.1 (Eq.symm c.1),m.2.trans c.2.symm⟩
  .have m:=(R3.keeps t).left _ _ o x (R3.refl t (sst S (i+1) (ops.toList.drop (i+1)) (l.drop (i+1)) π)) N;have c:=Qt (R3.keeps t) R3.symm (S:=S) (S':=S) (i+1) (ops.toList.drop (i+1)) (l.drop (i+1)) _ _ ((R3.keeps t).left _ _ o x (R3.refl t π) N) λ_ _ _ _ _ _=>rfl;exact⟨Eq.trans m.1 (Eq.symm c.1),m.2.trans c.2.symm⟩
 have b4:(∀k x' v,x.1≠ .nw k x' v)->R4 (x.1.app o.dst O) (sst S' 0 ops.toList l σ0):=by
  intro b8;have d4: ∀ {q:Ef},q=x.1->q.nwI.isSome=true->False:=λ{q} E hq=>by cases q<;>first|exact b8 _ _ _ E.symm|cases hq
  rw[c2,a6];by_cases N:Zlh o x
  .have H: ∀X:St,R4 (sst S (i+1) (ops.toList.drop (i+1)) (l.drop (i+1)) X) X:=by
    intro X;have:=Qt R4.keeps R4.symm (S:=S) (S':=λ_=>false) (i+1) (ops.toList.drop (i+1)) (l.drop (i+1)) X X (rfl:R4 X X) λj g y m c b=>a2 j g y m c (by
     have K:=p (i+1+j) g y (by rw[<-uz];exact m) (by rw[<-uz];exact c);have b1:=N.resolve_right (d4 rfl);rcases b with b|b;exact Zja (by rw[d1];exact b1) (K.2.2.2.2.1 b)
     .obtain⟨k,b⟩:=Option.isSome_iff_exists.1 b;exact VN (by rw[K.2.2.2.2.2.2];exact b) (.inl (a7 b1)))
    rwa [QL (i+1) _ _ _ (λ_=>false) (λ_=>rfl)]at this
   exact((R4.keeps).both _ _ o x (H π)).trans (Eq.symm (H (x.1.app o.dst π)))
  .have m:=R4.keeps.left _ _ o x (rfl:R4 (sst S (i+1) (ops.toList.drop (i+1)) (l.drop (i+1)) π) _) N;have c:=Qt R4.keeps R4.symm (S:=S) (S':=S) (i+1) (ops.toList.drop (i+1)) (l.drop (i+1)) _ _ (R4.keeps.left _ _ o x (rfl:R4 π π) N) λ_ _ _ _ _ _=>rfl;exact Eq.trans m (Eq.symm c)
 have b5: ∀k x' v,x.1= .nw k x' v->PushH O.h (sst S' 0 ops.toList l σ0).h k x':=by
  intro k x' v E;rw[c2,a6];refine Zqc (i+1) _ _ _ _ ?_ λj g y m c b=> ?_;rw[E,Zbq];exact .putM _ _ _
  .have b6:ops.toList[i+1+j]? =some g:=by rw[<-uz];exact m
   have a8:l[i+1+j]? =some y:=by rw[<-uz];exact c
   have K:=p (i+1+j) g y b6 a8;have c7:x.2.nw=some k:=by rw[d2,E];rfl
   refine⟨?_,λG=> ?_⟩
   .cases hh:y.1.isHp with
    |false=>rfl
    |true=>exact(A (i+1+j) g y b6 a8 b om (WE c7 (.inl (K.2.2.2.2.1 hh)))).elim
   .have:=ZEz hl hx a8 (by rw[E];rfl:x.1.nwI=some k) G om λq z q1 q2 hz=>by
     cases hh:z.1.isHp with
     |false=>rfl
     |true=>
      have e0:q<ops.toList.length:=by rw[<-hl.length];exact(List.getElem?_eq_some_iff.1 hz).1
      have b9:ops.toList[q]? =some (ops.toList[q]):=sm;have d5:=p q _ z b9 hz;have c9:=d5.2.2.2.2.1 hh;have c1:S q=true:=ho.cl S hS q (i+1+j) _ g z y q2 (Array.getElem?_toList▸b9) (Array.getElem?_toList▸b6) hz a8 (VN (by rw[K.2.2.2.2.2.2];exact G) (.inl c9)) b;exact(A q _ z b9 hz c1 q1 (WE c7 (.inl c9))).elim
    omega
 refine⟨x,hx,c3,c5,c0,ZEy (b3 0).1 λt=>(b3 t).2,b4,λk x' v E=>⟨?_,?_,b5 k x' v E⟩,λy K=> ?_⟩;rcases hw with ⟨m,c⟩|⟨m,c⟩;rw[E]at c;cases c;rw[C];exact m;rcases hw with ⟨m,c⟩|⟨m,c⟩;rw[E]at c;cases c;rw[E]at c;obtain⟨_,vf,b,L⟩:=c.nwI;exact⟨vf,b,by rw[Zhi a9];exact L⟩;rcases(Zbs 0 _ _ _ _ _).1 K with h|⟨j,g,z,m,c,b,L,h5⟩;rw[hr]at h;simp at h
 .rw[uJ]at b;rw[VM];have d0:S j=true->y∈O.refs:=λB=>(Zbs 0 _ _ _ _ _).2 (.inr ⟨j,g,z,m,c,by rw[uJ];exact B,L,h5⟩)
  cases B:S j with
  |true=>
   split;exact uv _ (d0 B);exact d0 B
  |false=>
   have b:j=i:=by simpa[B]using b
   subst b;rw[P]at m;cases m;rw[hx]at c;cases c;rw[h5,L];simp
def ZAb(ops:Array Oper)(l:List (Ef×Foot))(σ0:St)(S:Nat->Bool):Prop:=
 ∀j y k,l[j]? =some y->y.1.nwI=some k->S j=false->(∀q z,q<j->l[q]? =some z->z.1.isHp=true->S q=true)->(sst S 0 ops.toList l σ0).h.raw k=none
theorem JK{l:List (Ef×Foot)}{σ0 f}(c:Lex Y loc ops ops.toList σ0 l f){j:Nat}{y:Ef×Foot}(e:l[j]? =some y): ∃o,ops[j]? =some o/\y.2.hw=y.1.isHp/\(y.1.isHp=true->y.2.hr=true)/\y.2.nw=y.1.nwI:=by
 have g:j<ops.toList.length:=by rw[<-c.length];exact(List.getElem?_eq_some_iff.1 e).1
 have d:ops.toList[j]? =some (ops.toList[j]):=sm;obtain⟨i,b,_,a,_⟩:=c.at 0 j _ d;rw[e]at b;cases b;exact⟨_,Array.getElem?_toList▸d,by rw[a];rfl,λh=>by rw[a];simp[Zao,h],by rw[a];rfl⟩
theorem Zst{l:List (Ef×Foot)}{σ0 τ}(g:Lex Y loc ops ops.toList σ0 l τ)(O:Ord ops l){S}(K:Zbr ops S){i:Nat}{o}(D:ops[i]? =some o)(hu:S i=false)
  (hd: ∀e∈o.after,Region.binds .any e=true->S e.on=true) {x:Ef×Foot} (c:Turn Y loc ops l σ0 S i o x) (hf:ZAb ops l σ0 S)
  (a0: ∀k,((sst (λj=>S j||j==i) 0 ops.toList l σ0).h.raw k).isSome=true->k<(sst (λj=>S j||j==i) 0 ops.toList l σ0).h.nx):ZAb ops l σ0 (λj=>S j||j==i):=by
 intro j y k w N hj hq;simp only[uk,beq_eq_false_iff_ne,ne_eq]at hj;obtain⟨t,L⟩:=hj;obtain⟨oj,W,yw,yr,yn⟩:=JK g w;obtain⟨_,P,xw,xr,xn⟩:=JK g c.at_;rw[D]at P;cases P;have Z:ops.toList[i]? =some o:=su D;have yk:y.2.nw=some k:=by rw[yn];exact N
 have A: ∀q z,q<j->q≠i->l[q]? =some z->z.1.isHp=true->S q=true:=λq z H s B h4=>by
  have:=hq q z H B h4;simpa[s]using this
 cases a:x.1.isHp with
 |true=>
  have a2:i<j:=by
   rcases Nat.lt_trichotomy i j with h|h|h;exact h;exact absurd h.symm L;have:=O.cr S K j i oj o y x h W D w c.at_ (WE yk (.inl (xr a))) hd;rw[t]at this;cases this
  have m: ∀k d v,x.1≠ .nw k d v:=λk d v C=>by rw[C]at a;cases a
  have H:=Zeg g (i+1) (j-(i+1)) λq z h4 h5 hz=>by
   cases n:z.1.isHp with
   |false=>rfl
   |true=>
    obtain⟨E,b,zw,F,_⟩:=JK g hz;have G:=A q z om om hz n;have:=O.cl S K i q o E x z om D b c.at_ hz (Zja (by rw[xw];exact a) (F n)) G;rw[hu]at this;cases this
  have e:i+1+(j-(i+1))=j:=om;rw[e,Zjc Z c.at_]at H;have s:=c.h m;have B:(x.1.app o.dst (Txt ops l σ0 i)).h.nx=(sst (λj=>S j||j==i) 0 ops.toList l σ0).h.nx:=by rw[<-s];exact Zvc a
  obtain⟨h5,_⟩:=ZAa g w N
  cases hr:(sst (λj=>S j||j==i) 0 ops.toList l σ0).h.raw k with
  |none=>rfl
  |some r=>have:=a0 k (by rw[hr];rfl);omega
 |false=>
  have X:(sst S 0 ops.toList l σ0).h.raw k=none:=hf j y k w N t λq z H s B=>A q z H (λe=>by subst e;rw[c.at_]at s;cases s;rw[a]at B;cases B) s B;by_cases hn: ∃p d v,x.1= .nw p d v
  .obtain⟨p,d,v,C⟩:=hn;have u:x.1.nwI=some p:=by rw[C];rfl
   have xk:x.2.nw=some p:=by rw[xn];exact u
   rw[(c.nw p d v C).2.2.raw];have a1:k≠p:=by
    rcases Nat.lt_trichotomy i j with h|h|h
    .have:=ZEz g c.at_ w u N h λq z q1 q2 hz=>by
      cases n:z.1.isHp with
      |false=>rfl
      |true=>
       obtain⟨E,b,zw,F,_⟩:=JK g hz;have G:=A q z q2 om hz n;have:=O.cl S K i q o E x z q1 D b c.at_ hz (WE xk (.inl (F n))) G;rw[hu]at this;cases this
     omega
    .exact absurd h.symm L
    .have:=ZEz g w c.at_ N u h λq z q1 q2 hz=>by
      cases n:z.1.isHp with
      |false=>rfl
      |true=>
       obtain⟨E,b,zw,F,_⟩:=JK g hz;have G:=O.cr S K q i E o z x q2 b D hz c.at_ (VN xk (.inl (F n))) hd;have:=O.cl S K j q oj E y z q1 W b w hz (WE yk (.inl (F n))) G;rw[t]at this;cases this
     omega
   rw[uE a1];exact X
  .have m: ∀k d v,x.1≠ .nw k d v:=λp d v C=>hn ⟨p,d,v,C⟩;rw[<-c.h m,Zbq];obtain⟨e,f⟩:=x
   cases e with
   |hp _ _=>cases a
   |al _ _ _=>cases a
   |nw _ _ _=>exact absurd rfl (m _ _ _)
   |_=>exact X
theorem Zsu{l:List (Ef×Foot)}{σ0 o:St}(c:Lex Y loc ops ops.toList σ0 l o){S}(b: ∀j,S j=false)(a: ∀k,(σ0.h.raw k).isSome=true->k<σ0.h.nx):ZAb ops l σ0 S:=by
 intro j y k n g _ i;rw[QL _ _ _ _ _ λj=>b _];obtain⟨p,_⟩:=ZAa c n g;have e:=Zeg c 0 j λq z _ s hz=>by
  cases f:z.1.isHp with
  |false=>rfl
  |true=>have:=i q z om hz f;rw[b]at this;cases this
 have d:Txt ops l σ0 0=σ0:=QL _ _ _ _ _ λj=>sm;rw[uJ,d]at e
 cases m:σ0.h.raw k with
 |none=>rfl
 |some r=>have:=a k (by rw[m];rfl);omega
theorem ZI9{ro:Option Nat}(hY:YOK Y){l:List (Ef×Foot)}{σ0 τ:St}(hr:σ0.refs= [])(hl:Lex Y loc ops ops.toList σ0 l τ)(ho:Ord ops l){Q:Exit->Act->World->Prop}{W0:Vw}{own0:Nat->Prop}{w0:World}
  (hQ: ∀W a w,Rel W τ a w->Stp W0 own0 w0 W (mine W τ a) w->Q .normal a w):
  ∀(fuel:Nat) (d:Array Bool) (W:Vw) (a:Act) (w:World),d.size=ops.size->d.toList.count false=fuel->Zbr ops (λj=>d.getD j false)->
   ZAb ops l σ0 (λj=>d.getD j false)->Rel W (sst (λj=>d.getD j false) 0 ops.toList l σ0) a w->Stp W0 own0 w0 W (mine W (sst (λj=>d.getD j false) 0 ops.toList l σ0) a) w->wpAnyIn (FrR ro) 0 Y.P .any ops Q fuel d a w:=by
 intro fuel;have a1: ∀(d:Array Bool) (W:Vw) (a:Act) (w:World),d.size=ops.size->(∀j,j<ops.size->d.getD j false=true)->Rel W (sst (λj=>d.getD j false) 0 ops.toList l σ0) a w->
   Stp W0 own0 w0 W (mine W (sst (λj=>d.getD j false) 0 ops.toList l σ0) a) w->Q .normal a w:=by
  intro d W a w _ s f n;have:=hl.sst 0 (λj=>d.getD j false) λj N=>by
   rw[uJ];exact s j (su N)
  rw[this]at f n;exact hQ W a w f n
 -- nothing is ready only if all is done
 have a5: ∀(d:Array Bool),d.size=ops.size->Region.ready .any ops d= []-> ∀j,j<ops.size->d.getD j false=true:=by
  intro d hz K j
  induction j using Nat.strongRecOn with
  |_ j ih=>
   intro N
   cases G:d.getD j false with
   |true=>rfl
   |false=>
    have B:ops[j]? =some ops[j]:=by simp[N]
    have:j∈Region.ready .any ops d:=mem_ready.2 ⟨by
     have a8:j<d.size:=om;simp[Array.getD,a8]at G ⊢;exact G,_,B,λe E g=>by
     have h1:=ho.lt j _ B e E g;exact ih e.on h1 om⟩
    rw[K]at this;cases this
 induction fuel with
 |zero=>
  intro d W a w hz hc F a6 f n;have s: ∀j,j<ops.size->d.getD j false=true:=by
   intro j N;have a8:j<d.size:=om;rw[List.count_eq_zero]at hc
   cases G:d.getD j false with
   |true=>rfl
   |false=>
    simp[Array.getD,a8]at G;exact absurd (by rw[<-G];simp) hc
  refine⟨?_,a1 d W a w hz s f n⟩
  cases K:Region.ready .any ops d with
  |nil=>rfl
  |cons i r=>
   have hi:i∈Region.ready .any ops d:=by rw[K];simp
   obtain⟨h1,o,X,_⟩:=mem_ready.1 hi;have b2:i<ops.size:=(Array.getElem?_eq_some_iff.1 X).1;have Z:=s i b2;have m:i<d.size:=om;simp[Array.getD,m]at h1 Z;rw[h1]at Z;cases Z
 |succ fuel ih=>
  intro d W a w hz hc F a6 f n;refine⟨λK=>a1 d W a w hz (a5 d hz K) f n,λi hi=> ?_⟩;obtain⟨h1,o,X,Z⟩:=mem_ready.1 hi;have b2:i<ops.size:=(Array.getElem?_eq_some_iff.1 X).1;have m:i<d.size:=om;have hu:d.getD i false=false:=by simp[Array.getD,m]at h1 ⊢;exact h1
  obtain⟨x,p⟩:=turn hr hl ho F X hu Z;have hS:(λj=>(d.setIfInBounds i true).getD j false)=λj=>d.getD j false||j==i:=by
   funext j;by_cases a7:j=i;subst a7;simp[Array.getD,m];have h4: ¬i=j:=λh=>a7 h.symm;rw[Array.getD_eq_getD_getElem?,Array.getD_eq_getD_getElem?,Array.getElem?_setIfInBounds,uE h4];simp[a7]
  have b0:Zbr ops (λj=>(d.setIfInBounds i true).getD j false):=by
   rw[hS];intro j oj B N e E g;simp only[uS,vO]at N ⊢;rcases N with N|rfl;exact .inl (F j oj B N e E g);rw[X]at B;cases B;exact .inl (Z e E g)
  have b1:(d.setIfInBounds i true).toList.count false=fuel:=by
   have hg:d.toList[i]'(su m)=false:=by simp[Array.getD,m]at hu ⊢;exact hu
   rw[Array.toList_setIfInBounds,List.count_set (h:=su m),hg,hc];simp
  have a9: ∀u A D,Rel u (sst (λj=>d.getD j false||j==i) 0 ops.toList l σ0) A D->Stp W (mine W (sst (λj=>d.getD j false) 0 ops.toList l σ0) a) w u (mine u (sst (λj=>d.getD j false||j==i) 0 ops.toList l σ0) A) D->
    wpAnyIn (FrR ro) 0 Y.P .any ops Q fuel (d.setIfInBounds i true) A D:=by
   intro u A D C L;refine ih _ u A D (su hz) b1 b0 ?_ ?_ ?_;rw[hS];exact Zst hl ho F X hu Z p a6 C.heap.lt;rw[hS];exact C;rw[hS];exact n.trans L
  have next:(∀k O v,x.1≠ .nw k O v)-> ∀u A D,Rel u (x.1.app o.dst (sst (λj=>d.getD j false) 0 ops.toList l σ0)) A D->Stp W (mine W (sst (λj=>d.getD j false) 0 ops.toList l σ0) a) w u (mine u (x.1.app o.dst (sst (λj=>d.getD j false) 0 ops.toList l σ0)) A) D->
    wpAnyIn (FrR ro) 0 Y.P .any ops Q fuel (d.setIfInBounds i true) A D:=by
   intro H u A D C L;refine a9 u A D (C.ext p.env.symm (p.h H).symm p.refs) (L.weaken λb g=> ?_);rcases g with g|⟨t,⟨cs,a3⟩,a4⟩|g;exact .inl g;exact .inr (.inl ⟨t,⟨cs,by rw[p.env];exact a3⟩,a4⟩);exact .inr (.inr g)
  unfold wpOpIn;simp only[X];by_cases hn: ∃k O v,x.1= .nw k O v
  .obtain⟨k,O,v,E⟩:=hn;obtain⟨g1,⟨vf,rfl,g2⟩,g3⟩:=p.nw k O v E;rw[uF (Zbn f g1)];obtain⟨_,b4,_⟩:=JK hl p.at_;have hk: ¬W.kn k:=λhk=>by
    have h4:=f.heap.kn k hk;have h5:=a6 i x k p.at_ (by rw[E];rfl) hu λq z q1 hz hh=>by
     obtain⟨oq,b3,zw,zr,_⟩:=JK hl hz;obtain⟨_,_,_,_,xn⟩:=JK hl p.at_;exact ho.cr _ F q i oq o z x q1 b3 X hz p.at_ (VN (by rw[xn,E];rfl) (.inl (zr hh))) Z
    rw[h5]at h4;cases h4
   refine VK (λc hd=>by simp[newO,hd]at g2) (XI (Zn7 hY f g2 hk g3) λu A D C L=> ?_);have a0:(putV {sst (λj=>d.getD j false) 0 ops.toList l σ0 with h:=(sst (λj=>d.getD j false||j==i) 0 ops.toList l σ0).h} o.dst (vf k)).env=(sst (λj=>d.getD j false||j==i) 0 ops.toList l σ0).env:=by
    rw[<-p.env,E,Zp8];simp only[Ef.app,Zp8]
   refine a9 u A D (C.ext a0.symm (by rw[Zu9]) λy hy=> ?_) (L.weaken λb g=> ?_);have:=p.refs y hy;rw[VM,E]at this;rw[Zfh];exact this;rcases g with g|⟨t,⟨cs,a3⟩,a4⟩|g;exact .inl g;exact .inr (.inl ⟨t,⟨cs,by rw[a0];exact a3⟩,a4⟩);exact .inr (.inr g)
  have H: ∀k O v,x.1≠ .nw k O v:=λk O v E=>hn ⟨k,O,v,E⟩;rcases p.step H with ⟨g1,g2⟩|⟨g1,g2⟩;rw[uE (by rw[Zbn f g1];simp)];have a2:VR W (.tup []) Go.undef:= .tup [] [] .nil;refine⟨λ_ _=>trivial,next H W _ w ?_ ?_⟩;rw[g2];exact f.putV a2 o.dst;rw[g2];exact(Stp.refl W _ w).weaken λb g=>Xq a2 o.dst g;rw[uF (Zbn f g1)];exact Zp6 hY f g2 p.key p.slot (next H)
theorem ZAc{ro:Option Nat}(m:YOK Y){d p:St}{x:Nat}{l:List (Ef×Foot)}{Q:Out->St->Prop}(i:Lex Y loc ops ops.toList {d with refs:= []} l p)(s:chk ops (l.map (·.2))=true)(u:Q .normal {p with refs:= []}):
  TriG ro Y (.region x ops true) d Q:=by
 intro W a w W0 own0 w0 n v;have t:=ZI7 (by rw[i.length];simp) s;refine wpIn_region_any m.mixed ?_;have c:Same w {w with drawn:=w.drawn+1} :=λb o g=>g;have f: ∀j,(Array.replicate ops.size false).getD j false=false:=by
  intro j;simp[Array.getD]
 have k:sst (λj=>(Array.replicate ops.size false).getD j false) 0 ops.toList l {d with refs:= []} = {d with refs:= []} :=QL _ _ _ _ _ λj=>f _;refine ZI9 m rfl i t (W0:=W0) (own0:=own0) (w0:=w0) (λq y z e r=>⟨.normal,_,q,trivial,u,e.noRefs,r⟩) ops.size _ W a _ sm sm ?_ (Zsu i (λj=>f j) (n.same c).noRefs.heap.lt) ?_ ?_;intro j o _ h;have e:=f j;simp only at h;rw[e]at h;cases h;rw[k];exact(n.same c).noRefs;rw[k];exact v.trans ((Stp.same c ⟨rfl,rfl,rfl⟩).weaken λb g=>g)
end
def frzD:Nat:=30
section
variable (Y:YP)
end
section
variable {Y:YP} {σ σ':St}
/-! ### What was not turned -/
variable {kn:FuncId->List V->Heap->Option (V×Heap)}
end
def zDfa:List V:=List.replicate 256 (.i .i64 0)++ [.sl none 0 (some 0) 0, .sl none 0 (some 0) 0]
abbrev tAa:Option TI:=some ⟨1,8, .func,[.nilfn]⟩
abbrev tAb:Option TI:=some ⟨1,8, .int .i64,[.i .i64 0]⟩
abbrev tAc:Option TI:=some ⟨1,1, .int .u8,[.i .u8 0]⟩
abbrev tAd:Option TI:=some ⟨1,8, .int .u64,[.i .u64 0]⟩
abbrev tAe:Option TI:=some ⟨1,16, .str,[.s []]⟩
abbrev tAf:Option TI:=some ⟨1,16, .iface,[.nilifc]⟩
abbrev tAg:Option TI:=some ⟨1,4, .int .i32,[.i .i32 0]⟩
abbrev tAh:Option TI:=some ⟨4,24, .struct [(0,2),(1,3),(2,4),(3,6)],[.i .i64 0, .i .i64 0, .b false, .i .u8 0]⟩
abbrev tAi:Option TI:=some ⟨4,32, .arr 4 23,[.i .u64 0, .i .u64 0, .i .u64 0, .i .u64 0]⟩
abbrev tAj:Option TI:=some ⟨9,88, .struct [(0,3),(1,25),(5,26),(6,3),(7,3),(8,3)],[.i .i64 0, .i .u64 0, .i .u64 0, .i .u64 0, .i .u64 0, .sl none 0 (some 0) 0, .i .i64 0, .i .i64 0, .i .i64 0]⟩
abbrev tAk:Option TI:=some ⟨5,104, .struct [(0,31),(1,32),(2,32),(3,33),(4,4)],[.sl none 0 (some 0) 0, .sl none 0 (some 0) 0, .sl none 0 (some 0) 0, .sl none 0 (some 0) 0, .b false]⟩
abbrev tAl:Option TI:=some ⟨2,24, .struct [(0,3),(1,9)],[.i .i64 0, .s []]⟩
abbrev tAm:Option TI:=some ⟨2,16, .struct [(0,3),(1,3)],[.i .i64 0, .i .i64 0]⟩
abbrev tAn:Option TI:=some ⟨20,160, .struct [(0,49)],List.replicate 20 (.i .i64 0)⟩
abbrev tAo:Option TI:=some ⟨3,40, .struct [(0,3),(1,5),(2,57)],[.i .i64 0, .i .u8 0, .sl none 0 (some 0) 0]⟩
abbrev tAp:Option TI:=some ⟨4,40, .struct [(0,9),(1,3),(2,3),(3,3)],[.s [], .i .i64 0, .i .i64 0, .i .i64 0]⟩
abbrev tAq:Option TI:=some ⟨5,104, .struct [(0,35)],[.sl none 0 (some 0) 0, .sl none 0 (some 0) 0, .sl none 0 (some 0) 0, .sl none 0 (some 0) 0, .b false]⟩
abbrev tAr:Option TI:=some ⟨3,56, .struct [(0,32),(1,32),(2,4)],[.sl none 0 (some 0) 0, .sl none 0 (some 0) 0, .b false]⟩
abbrev tAs:Option TI:=some ⟨258,2096, .struct [(0,95),(256,33),(257,96)],zDfa⟩
abbrev tAt:Option TI:=some ⟨21,176, .struct [(0,9),(1,49)],[.s [], .i .i64 0, .i .i64 0, .i .i64 0, .i .i64 0, .i .i64 0, .i .i64 0, .i .i64 0, .i .i64 0, .i .i64 0, .i .i64 0, .i .i64 0, .i .i64 0, .i .i64 0, .i .i64 0, .i .i64 0, .i .i64 0, .i .i64 0, .i .i64 0, .i .i64 0, .i .i64 0]⟩
abbrev tAu:Option TI:=some ⟨2,2, .struct [(0,5),(1,5)],[.i .u8 0, .i .u8 0]⟩
abbrev tAv:Option TI:=some ⟨3,32, .struct [(0,9),(1,3),(2,4)],[.s [], .i .i64 0, .b false]⟩
abbrev tAw:Option TI:=some ⟨4,40, .struct [(0,9),(1,3),(2,3),(3,36)],[.s [], .i .i64 0, .i .i64 0, .i .i64 0]⟩
abbrev tAx:Option TI:=some ⟨1,8, .struct [(0,3)],[.i .i64 0]⟩
abbrev tAy:Option TI:=some ⟨2,32, .struct [(0,180),(1,138)],[.p none, .sl none 0 (some 0) 0]⟩
abbrev tAz:Option TI:=some ⟨4,32, .struct [(0,3),(1,3),(2,3),(3,5)],[.i .i64 0, .i .i64 0, .i .i64 0, .i .u8 0]⟩
abbrev tBa:Option TI:=some ⟨12,136, .struct [(0,44),(2,56),(3,28)],[.i .i64 0, .s [], .sl none 0 (some 0) 0, .i .i64 0, .i .u64 0, .i .u64 0, .i .u64 0, .i .u64 0, .sl none 0 (some 0) 0, .i .i64 0, .i .i64 0, .i .i64 0]⟩
def Tryz.tys:List (Option TI):= [
none,tAa,tAb,tAb,some ⟨1,1,.bool,[.b false]⟩,tAc,tAc,tAh,tAh,tAe,tAe,tAe,tAd,none,none,some ⟨1,8,.ptr 273,[.p none]⟩,some ⟨1,8,.ptr 276,[.p none]⟩,some ⟨1,8,.ptr 283,[.p none]⟩,none,none,tAf,tAg,tAa,tAd,tAi,tAi,some ⟨1,24,.slice 28,[.sl none 0 (some 0) 0]⟩,tAj,tAj,none,tAa,some ⟨1,24,.slice 25,[.sl none 0 (some 0) 0]⟩,some ⟨1,24,.slice 3,[.sl none 0 (some 0) 0]⟩,some ⟨1,24,.slice 32,[.sl none 0 (some 0) 0]⟩,tAk,tAk,tAb,none,tAa,tAa,none,tAa,tAa,tAl,tAl,none,tAa,tAm,tAm,some ⟨20,160,.arr 10 48,List.replicate 20 (.i .i64 0)⟩,tAn,tAn,none,tAa,tAa,tAa,some ⟨1,24,.slice 59,[.sl none 0 (some 0) 0]⟩,some ⟨1,24,.slice 155,[.sl none 0 (some 0) 0]⟩,tAo,tAo,none,tAa,none,tAa,tAa,tAa,tAa,tAa,tAa,tAa,tAa,none,tAa,tAa,tAa,tAa,some ⟨1,8,.ptr 78,[.p none]⟩,tAp,tAp,tAa,tAa,tAa,tAa,some ⟨1,8,.ptr 85,[.p none]⟩,tAq,tAq,tAr,tAr,tAa,tAa,tAa,tAa,tAa,some ⟨18,176,.arr 2 28,[.i .i64 0,.i .u64 0,.i .u64 0,.i .u64 0,.i .u64 0,.sl none 0 (some 0) 0,.i .i64 0,.i .i64 0,.i .i64 0,.i .i64 0,.i .u64 0,.i .u64 0,.i .u64 0,.i .u64 0,.sl none 0 (some 0) 0,.i .i64 0,.i .i64 0,.i .i64 0]⟩,some ⟨10,208,.arr 2 35,[.sl none 0 (some 0) 0,.sl none 0 (some 0) 0,.sl none 0 (some 0) 0,.sl none 0 (some 0) 0,.b false,.sl none 0 (some 0) 0,.sl none 0 (some 0) 0,.sl none 0 (some 0) 0,.sl none 0 (some 0) 0,.b false]⟩,some ⟨256,2048,.arr 256 3,List.replicate 256 (.i .i64 0)⟩,some ⟨1,24,.slice 4,[.sl none 0 (some 0) 0]⟩,tAs,tAs,some ⟨516,4192,.arr 2 98,zDfa++zDfa⟩,some ⟨1,24,.slice 44,[.sl none 0 (some 0) 0]⟩,none,tAa,none,tAa,tAa,tAa,tAa,tAa,tAa,tAa,tAa,tAa,tAa,none,tAa,none,tAa,tAa,tAa,none,tAa,tAa,tAa,tAa,tAa,tAa,none,tAa,tAa,tAa,tAa,tAd,tAa,tAa,tAa,tAa,tAa,some ⟨1,24,.slice 5,[.sl none 0 (some 0) 0]⟩,none,tAa,tAa,tAa,tAa,tAa,tAa,some ⟨1,8,.ptr 148,[.p none]⟩,tAt,tAt,tAa,tAa,none,tAa,tAa,tAu,tAu,none,tAa,tAa,tAa,tAa,tAa,some ⟨1,8,.ptr 211,[.p none]⟩,none,tAa,some ⟨1,8,.ptr 167,[.p none]⟩,tAv,tAv,tAa,some ⟨1,8,.ptr 171,[.p none]⟩,tAw,tAw,tAa,tAa,tAa,none,tAa,tAx,tAx,tAa,some ⟨1,8,.ptr 182,[.p none]⟩,tAy,tAy,tAa,tAa,tAa,tAa,tAa,tAa,tAa,tAa,tAa,tAa,tAa,tAa,some ⟨1,8,.map 9 3,[.mp none]⟩,tAf,tAf,tAa,none,tAa,some ⟨2,16,.arr 2 3,[.i .i64 0,.i .i64 0]⟩,some ⟨1,8,.map 201 3,[.mp none]⟩,tAz,tAz,some ⟨1,24,.slice 204,[.sl none 0 (some 0) 0]⟩,tAa,tAa,tAa,tAa,tBa,tBa,tAa,tAa,tAa,tAa,tAa,none,tAa,some ⟨1,8,.ptr 178,[.p none]⟩,tAa,tAa,none,tAa,some ⟨1,8,.ptr 5,[.p none]⟩,tAa,tAa,tAb,none,tAa,tAa,tAa,tAa,tAa,tAa,some ⟨1,4,.int .u32,[.i .u32 0]⟩,tAa,tAa,tAa,tAa,tAa,tAa,tAa,tAa,tAa,tAa,tAa,tAa,tAd,tAa,tAa,tAa,some ⟨1,8,.ptr 3,[.p none]⟩,tAa,none,tAa,tAa,some ⟨1,8,.ptr 248,[.p none]⟩,tAa,tAa,tAa,tAa,tAa,some ⟨24,24,.arr 24 5,List.replicate 24 (.i .u8 0)⟩,tAa,none,tAa,tAa,some ⟨20,160,.arr 20 23,List.replicate 20 (.i .u64 0)⟩,some ⟨65,65,.arr 65 5,List.replicate 65 (.i .u8 0)⟩,some ⟨32,32,.arr 32 5,List.replicate 32 (.i .u8 0)⟩,some ⟨64,64,.arr 64 5,List.replicate 64 (.i .u8 0)⟩,none,none,some ⟨0,0,.arr 0 16,[]⟩,none,none,tAc,tAc,tAa,tAg,tAg,none,none,tAa]
def Tryz.locs:List (List Nat):= [
  [],
  [],
  [],
  [7,10,14,16,18,20],
  [3,4,9,11],
  [5,8,9,11,13,15,17,19],
  [3,7,12,14,16],
  [1,4],
  [2,6],
  [2,4,7],
  [1,2,5,46],
  [2],
  [1],
  [3,4,8,9,10,12,13,16,17,20,21],
  [3,6,11,14],
  [1,6],
  [2],
  [2],
  [2],
  [2],
  [1,2,8,16],
  [1,2,8,16],
  [2,3],
  [4],
  [],
  [],
  [1],
  [4,9],
  [],
  [1],
  [1],
  [1,5],
  [3,4,5,8,9,11],
  [],
  [3],
  [3],
  [],
  [1],
  [2,4,6,8],
  [2,3],
  [3,8],
  [4,8],
  [1],
  [2,4],
  [],
  [1,2],
  [2],
  [],
  [],
  [5],
  [],
  [],
  [1],
  [0],
  [],
  [2,6],
  [1],
  [1,2,4],
  [0],
  [1],
  [1,2],
  [5],
  [],
  [2],
  [],
  [],
  [],
  [4],
  [],
  [1],
  [],
  [1],
  [],
  [4,5,6,7],
  [3,4,5,8],
  [],
  [],
  [],
  [],
  [],
  [1],
  [],
  [1,2],
  [2],
  [3],
  [],
  [],
  [],
  [2],
  [3,4,12,14],
  [],
  [4],
  [5,11],
  [1],
  [2,5],
  [4,10],
  [2],
  [],
  [1],
  [1],
  [0],
  [1],
  [0],
  [4],
  [1],
  [2],
  [4,9],
  [],
  [],
  [],
  [5],
  [],
  [4,5],
  [5],
  [3,5],
  [],
  [],
  [],
  [],
  [27],
  [],
  [],
  [],
  [],
  [2],
  [],
  [],
  [],
  [],
  [5,9],
  [],
  [],
  [1],
  [],
  [],
  [4],
  [],
  [],
  [4],
  [],
  [5],
  [4,7],
  [],
  [1],
  [10],
  [4],
  [],
  [1,6],
  [],
  [],
  [],
  [],
  [],
  [],
  [],
  [],
  [],
  [],
  [],
  [],
  [],
  [],
  [],
  [],
  [],
  [],
  [],
  [],
  [],
  [2,3],
  [4,5,6],
  [],
  [],
  [2],
  [],
  [1],
  [1,2],
  [],
  [],
  [],
  [],
  [],
  [],
  [],
  [],
  [],
  [],
  [4],
  [],
  [],
  [2],
  [],
  [],
  [4,6],
  [2,4],
  [2],
  [],
  [],
  [],
  [],
  [6],
  [],
  [],
  [],
  [],
  [],
  [],
  [],
  [],
  [],
  [],
  [],
  [],
  [],
  [],
  [],
  [],
  [],
  [],
  [],
  [],
  [],
  [],
  [],
  [],
  [],
  [],
  [],
  [],
  [],
  [],
  [],
  [],
  [],
  []]
def Tryz.modes:List Nat:= [2,2,2,2,2,2,2,2,1,1,1,2,2,2,2,2,1,1,1,1,1,1,2,2,1,2,2,4,0,2,2,2,4,1,1,1,2,2,1,2,1,2,2,4,1,1,4,1,2,1,2,1,2,1,1,1,2,1,1,2,1,1,1,2,2,0,3,4,3,2,0,2,1,4,4,0,0,0,3,2,2,2,1,1,1,0,3,2,2,0,2,4,0,2,1,2,2,0,2,2,1,2,1,2,0,4,4,3,0,5,1,2,4,0,0,3,0,0,6,0,2,2,0,2,2,2,0,2,2,0,0,0,2,0,4,4,3,0,4,2,1,4,0,2,0,0,0,2,2,6,2,2,2,2,2,2,2,2,2,2,2,2,0,2,2,3,2,0,3,0,4,2,2,4,0,1,2,2,2,2,2,0,0,0,2,0,0,4,0,2,2,2,0,4,4,1,0,2,2,0,2,2,2,2,1,2,2,2,2,2,2,2,2,2,2,2,2,2,2,0,0,0,0,0,0,0,0,0,2,2,2,2,2,2,2]
noncomputable def UY:YP:=⟨Go.Proofs.Tryz.prog,Tryz.tys,Tryz.locs,Tryz.modes,[182,5],[(185,1),(197,2)],[26,27,28]⟩
theorem Tryz.ext185: ∃a,UY.P.funcs[185]? =some a/\a.body.isNone=true/\Extern.findNext a=none/\Extern.find a=some (extE 1):=⟨Go.Proofs.Tryz.f185,kr,kr,kr,kr⟩
theorem Tryz.ext197: ∃a,UY.P.funcs[197]? =some a/\a.body.isNone=true/\Extern.findNext a=none/\Extern.find a=some (extE 2):=⟨Go.Proofs.Tryz.f197,kr,kr,kr,kr⟩
theorem Tryz.extok:ZEj UY:=by intro p b;have a:p∈([(185,1),(197,2)]:List (FuncId×Nat)):=b;simp only[List.mem_cons,List.not_mem_nil,or_false]at a;rcases a with rfl|rfl;exact Tryz.ext185;exact Tryz.ext197
theorem UK:YOK UY:=Vk kr Tryz.extok
abbrev vVW(A:List V)(N:Nat)(B:List V)(O:Nat)(C:List V)(P:Nat)(D:Int)(E:Int)(F:Int)(G:List V)(W:Nat)(H:List UInt8)(K:List UInt8)(L:List UInt8)(a:List UInt8)(b:List UInt8)(c:List UInt8)(d:List UInt8)(e:List UInt8)(f:List UInt8)(g:List UInt8)(h:List V)(u:Nat)(j:Int)(k:Int)(l:Int)(m:Int)(n:Int)(o:List V)(v:Nat)(p:List V)(w:Nat)(q:List V)(x:Nat)(r:List V)(y:Nat)(t:List V)(z:Nat):List V:= [.ts A N none, .ts B O none, .ts C P none, .i .i64 D, .i .i64 E, .i .i64 F, .ts G W none, .s H, .s K, .s L, .s a, .s b, .s c, .s d, .s e, .s f, .s g, .ts h u none, .i .i64 j, .i .i64 k, .i .i64 l, .i .i64 m, .i .i64 n, .ts o v none, .ts p w none, .ts q x none, .ts r y none, .ts t z none]
abbrev vCF(q:Int)(r:List V)(B:Nat)(t:List UInt8)(u:List UInt8)(v:List UInt8)(w:List UInt8)(x:List UInt8)(y:List UInt8)(z:List UInt8)(A:List UInt8)(a:List UInt8)(b:List UInt8)(c:List V)(m:Nat)(d:Int)(e:Int)(f:Int)(g:Int)(h:Int)(j:List V)(n:Nat)(k:List V)(o:Nat)(l:List V)(p:Nat):List V:= [.i .i64 q, .ts r B none, .s t, .s u, .s v, .s w, .s x, .s y, .s z, .s A, .s a, .s b, .ts c m none, .i .i64 d, .i .i64 e, .i .i64 f, .i .i64 g, .i .i64 h, .ts j n none, .ts k o none, .ts l p none]
abbrev vSD(c:Bool)(d:Bool)(e:Bool)(f:Int)(g:Int)(h:List UInt8)(j:List V)(n:Nat)(p:Option Nat)(k:List UInt8)(l:List V)(o:Nat)(q:Option Nat)(m:List UInt8)(a:List UInt8):List V:= [.b c, .b d, .b e, .i .i64 f, .i .i64 g, .s h, .ts j n p, .s k, .ts l o q, .s m, .s a]
abbrev vMD(a:List V)(f:Nat)(b:List V)(g:Nat)(c:List V)(h:Nat)(d:Int)(e:Int):List V:= [.ts a f none, .ts b g none, .ts c h none, .i .i64 d, .i .i64 e]
end Go.Y
