/- A part of the proof. -/
import Derived.Test.YteennilbmmlikaaGreatDoorGTrL
import Derived.Test.YteennilbmmlikaaGreatDoorYAny3
import Derived.Test.YteennilbmmlikaaGreatDoorYLoop
import Derived.Test.YteennilbmmlikaaGreatDoorGDf5
import Derived.Test.YteennilbmmlikaaGreatDoorGRule
namespace Go.Y
set_option maxRecDepth 1000000
set_option maxHeartbeats 0
structure DOk(cl:List Nat)(N:List (List Int))(G:List Bool)(w:Nat):Prop where
 c256:cl.length=256
 clt: ∀k∈cl,k<w
 cmx:w-1∈cl
 w1:0<w
 w2:w<=256
 n1:0<N.length
 n2:N.length<=300
 ng:G.length=N.length
 rl: ∀r∈N,r.length=w
 rx: ∀r∈N,∀x∈r,0<=x∧x<(N.length:Nat)
theorem Zrt(a:List Set4): ∀c,(∀k∈(srtS a c).1,k<(srtS a c).2.length)/\(∀j,j<(srtS a c).2.length->j∈(srtS a c).1)
 |0=>⟨λk h=>(by cases h),λj h=>(by simp[srtS]at h)⟩
 |c+1=>by
  obtain⟨g,i⟩:=Zrt a c;rw[srtS]
  cases l:(srtS a c).2.findIdx? λd=>keyN a c==keyN a d with
  |some k=>
   have m:k<(srtS a c).2.length:=by
    rw[List.findIdx?_eq_some_iff_findIdx_eq]at l;exact l.1
   refine⟨λx b=> ?_,λj f=> ?_⟩;rcases qA.1 b with b|b;exact g x b;simp at b;subst b;exact m;exact List.mem_append_left _ (i j f)
  |none=>
   refine⟨λx b=> ?_,λj f=> ?_⟩;simp only[qf,qh,qp];rcases qA.1 b with b|b;have:=g x b;omega;simp at b;omega;simp only[qf,qh,qp]at f;by_cases e:j=(srtS a c).2.length;subst e;simp;exact List.mem_append_left _ (i j om)
theorem ZBu{T:List (List Int)}{l:List Int}{i:Nat}(h:Zal T l=some i):i<T.length:=by unfold Zal at h;rw[List.findIdx?_eq_some_iff_findIdx_eq]at h;exact h.1
theorem Zpb{a}{most at_:Nat} : ∀ {g:List Nat} {T:List (List Int)} {r:List Int} {d:List (List Int)} {f:List Int},rowD a most at_ g T r=some (d,f)->
  (∀x∈r,0<=x/\x<=(T.length:Nat))->T.length<=d.length/\ ∀x∈f,0<=x/\x<=(d.length:Nat)
 | [],T,r,d,f,h,e=>by rw[rowD]at h;cases h;exact⟨qnq _,e⟩
 |c::g,T,r,d,f,h,e=>by
  rw[rowD]at h;split at h
  .rename_i i l;have:=ZBu l;exact Zpb h λx b=>by
    rcases qA.1 b with b|b;exact e x b;simp at b;subst b;omega
  .split at h;cases h
   .obtain⟨j,k⟩:=Zpb h λx b=>by
     rcases qA.1 b with b|b;have:=e x b;simp only[qf,qh,qp];omega;simp at b;subst b;simp only[qf,qh,qp];omega
    exact⟨by simp at j;omega,k⟩
theorem Zru{a}(o:OkA a){most w:Nat}{le:List Nat}(p:le.length=w): ∀(f at_:Nat) {T N:List (List Int)} {G:List Bool} {c:List (List Int)} {j:List Bool},Jd a most le f at_ T N G=some (c,j)->
  f+at_=most+1->TOk most T->N.length=at_->G.length=at_->at_<=T.length+1->(∀r∈N,r.length=w/\ ∀x∈r,0<=x/\x<=(T.length:Nat))->
  j.length=c.length/\0<c.length/\c.length<=most/\ ∀r∈c,r.length=w/\ ∀x∈r,0<=x/\x<(c.length:Nat)
 |0,at_,T,N,G,c,j,h,v,k,n,m,l,g=>by
  have:=k.len;omega
 |f+1,at_,T,N,G,c,j,h,v,k,n,m,l,g=>by
  rw[Jd]at h;split at h;split at h;cases h;rename_i A B r d;obtain⟨q,s,C,_⟩:=Zj9 o k d;obtain⟨D,t⟩:=Zpb d (λx i=>by cases i);refine Zru o p f (at_+1) h om q (by simp[n]) (by simp[m]) om λy b=> ?_;rcases qA.1 b with b|b;exact⟨(g y b).1,λx i=>by have:=(g y b).2 x i;omega⟩;simp at b;subst b;exact⟨by rw[s];simp[p],t⟩;rename_i z;cases h;have u:=k.len;have e:at_=T.length+1:=om;refine⟨om,om,om,λy b=>⟨(g y b).1,λx i=> ?_⟩⟩;have:=(g y b).2 x i;omega
theorem ZHm{a:Au}(j:OkA a){most:Nat}(l:1<=most)(m:most<=300){N:List (List Int)}{G:List Bool}(h:Jd a most (srtS a.sets 256).2 (most+1) 0 [] [] []=some (N,G)):
  DOk (srtS a.sets 256).1 N G (srtS a.sets 256).2.length:=by
 have c:=Zrt a.sets 256;have d:=JQ a.sets 256;have f:=Zmv a.sets 256 dc;obtain⟨g,i,k,e⟩:=Zru j rfl (most+1) 0 h rfl ⟨by simp;omega,sm⟩ rfl rfl sm sm;exact⟨d.1,c.1,c.2 _ om,f,d.2,i,om,g,λr b=>(e r b).1,λr b=>(e r b).2⟩
/-! ### first -/
def nxt(a:List Nat)(N:List (List Int))(x c:Nat):Nat:=((N.getD x []).getD (a.getD c 0) 0).toNat
theorem DOk.row{a}{N:List (List Int)}{G}{w:Nat}(d:DOk a N G w){x c:Nat}(f:x<N.length)(g:c<256):
  ∃(k:Nat) (r:List Int) (h:k<r.length),a[c]? =some k/\N[x]? =some r/\r[k]=((nxt a N x c:Nat):Int)/\nxt a N x c<N.length:=by
 have b:c<a.length:=by rw[d.c256];exact g
 have h:=d.clt a[c] (qe b);have j:=d.rl N[x] (qe f);have i:=d.rx N[x] (qe f) (N[x][a[c]]' om) (qe _);have e:nxt a N x c=(N[x][a[c]]' om).toNat:=by
  unfold nxt;simp only[qw,qo f,qo b,uq];rw[qo om];rfl
 exact⟨a[c],N[x],om,qo b,qo f,by rw[e];omega,by rw[e];omega⟩
structure Dn where
 cl:List Nat
 N:List (List Int)
 G:List Bool
def Zdt(d e:Dn)(p:Nat×Nat)(c:Nat):Nat×Nat:=(nxt d.cl d.N p.1 c,nxt e.cl e.N p.2 c)
def addQ(L:List (Nat×Nat))(q:Nat×Nat):List (Nat×Nat):=if q∈L then L else L++ [q]
def rowQ(d e:Dn)(p:Nat×Nat):Nat->List (Nat×Nat)->List (Nat×Nat)
 |0,L=>L
 |n+1,L=>addQ (rowQ d e p n L) (Zdt d e p n)
def soQ(d e:Dn)(p:Nat×Nat):Bool:=d.G.getD p.1 false&& !e.G.getD p.2 false
def Zm2(d e:Dn):Nat->Nat->List (Nat×Nat)->Bool
 |0,_,_=>false
 |f+1,at_,L=>if at_<L.length then if soQ d e (L.getD at_ (0,0))then true else Zm2 d e f (at_+1) (rowQ d e (L.getD at_ (0,0)) 256 L)else false
def Qy(d e:Dn):Bool:=Zm2 d e (d.N.length*e.N.length+1) 0 [(0,0)]
structure LOk(d e:Dn)(L:List (Nat×Nat)):Prop where
 nd:L.Nodup
 lt: ∀p∈L,p.1<d.N.length∧p.2<e.N.length
theorem LOk.len{d e:Dn}{L:List (Nat×Nat)}(o:LOk d e L):L.length<=d.N.length*e.N.length:=by
 have c: ∀p∈L,∀q∈L,p.1*e.N.length+p.2=q.1*e.N.length+q.2->p=q:=by
  intro p b q r h;have g:=o.lt p b;have k:=o.lt q r;have f:p.1=q.1:=by
   have i:(p.1*e.N.length+p.2) / e.N.length=p.1:=by
    rw[Nat.mul_comm,Nat.mul_add_div om,Nat.div_eq_of_lt g.2];omega
   have j:(q.1*e.N.length+q.2) / e.N.length=q.1:=by
    rw[Nat.mul_comm,Nat.mul_add_div om,Nat.div_eq_of_lt k.2];omega
   rw[<-i,<-j,h]
  rw[f]at h;exact Prod.ext f om
 have n:(L.map λp=>p.1*e.N.length+p.2).Nodup:=by
  rw[List.Nodup,List.pairwise_map];exact o.nd.imp_of_mem λl m a h=>a (c _ l _ m h)
 have:=List.Nodup.length_le_of_subset n (l₂:=List.range (d.N.length*e.N.length)) λx s=>by
  obtain⟨p,b,rfl⟩:=uW.1 s;have g:=o.lt p b;rw[List.mem_range]
  calc p.1*e.N.length+p.2<p.1*e.N.length+e.N.length:=om
   _=(p.1+1)*e.N.length:=by rw[Nat.succ_mul]
   _<=d.N.length*e.N.length:=Nat.mul_le_mul_right _ om
 simpa using this
theorem LOk.add{d e:Dn}{L:List (Nat×Nat)}(o:LOk d e L){q:Nat×Nat}(h:q.1<d.N.length/\q.2<e.N.length):LOk d e (addQ L q):=by unfold addQ;split;exact o;rename_i g;refine⟨?_,λp hp=> ?_⟩;rw[List.nodup_append];exact⟨o.nd,sm,λa f b c e=>g (by simp at c;subst c;rwa [e]at f)⟩;rcases qA.1 hp with hp|hp;exact o.lt p hp;simp at hp;subst hp;exact h
def wayQ(d e:Dn)(w:List Nat):Nat×Nat:=w.foldl (Zdt d e) (0,0)
theorem Zyd(d e)(w:List Nat)(c:Nat):wayQ d e (w++ [c])=Zdt d e (wayQ d e w) c:=by unfold wayQ;rw[List.foldl_append];rfl
theorem ZBv{L:List (Nat×Nat)}{q p:Nat×Nat} :p∈addQ L q↔p∈L\/p=q:=by unfold addQ;split;rename_i h;exact⟨.inl,λa=>a.elim id λe=>e▸h⟩;simp
theorem ZBw{L:List (Nat×Nat)}{q:Nat×Nat}{i:Nat}(h:i<L.length):(addQ L q)[i]? =L[i]? :=by unfold addQ;split;rfl;rw[vC h]
theorem ZHn(L:List (Nat×Nat))(q:Nat×Nat):L.length<=(addQ L q).length:=by unfold addQ;split<;>simp
theorem Zpc(d e)(p:Nat×Nat): ∀(n:Nat) (L:List (Nat×Nat)),L.length<=(rowQ d e p n L).length
 |0,L=>qnq _
 |n+1,L=>uu (Zpc d e p n L) (ZHn _ _)
theorem Zrv(d e)(p:Nat×Nat){i:Nat} : ∀(n:Nat) (L:List (Nat×Nat)),i<L.length->(rowQ d e p n L)[i]? =L[i]?
 |0,L,_=>rfl
 |n+1,L,h=>by
  rw[rowQ,ZBw (qv h (Zpc d e p n L)),Zrv d e p n L h]
theorem Zcl(d e)(p:Nat×Nat){x:Nat×Nat} : ∀(n:Nat) (L:List (Nat×Nat)),x∈rowQ d e p n L↔x∈L\/ ∃c,c<n/\x=Zdt d e p c
 |0,L=>by simp[rowQ]
 |n+1,L=>by
  rw[rowQ,ZBv,Zcl d e p n L];constructor;rintro((h|⟨c,hc,h⟩)|h);exact .inl h;exact .inr ⟨c,om,h⟩;exact .inr ⟨n,om,h⟩;rintro(h|⟨c,hc,h⟩);exact .inl (.inl h);by_cases e:c=n;exact .inr (e▸h);exact .inl (.inr ⟨c,om,h⟩)
theorem DOk.step{d e:Dn}{j k:Nat}(h:DOk d.cl d.N d.G j)(i:DOk e.cl e.N e.G k){p:Nat×Nat}(b:p.1<d.N.length/\p.2<e.N.length){c:Nat}(a:c<256):
  (Zdt d e p c).1<d.N.length/\(Zdt d e p c).2<e.N.length:=by
 obtain⟨_,_,_,_,_,_,f⟩:=h.row b.1 a;obtain⟨_,_,_,_,_,_,g⟩:=i.row b.2 a;exact⟨f,g⟩
theorem LOk.row{d e:Dn}{f g:Nat}(a:DOk d.cl d.N d.G f)(b:DOk e.cl e.N e.G g){p:Nat×Nat}(c:p.1<d.N.length/\p.2<e.N.length):
  ∀(n:Nat),n<=256-> ∀ {L:List (Nat×Nat)},LOk d e L->LOk d e (rowQ d e p n L)
 |0,_,_,o=>o
 |n+1,h,L,o=>(LOk.row a b c n om o).add (a.step b c om)
theorem LOk.zero{d e:Dn}{w1 f:Nat}(b:DOk d.cl d.N d.G w1)(c:DOk e.cl e.N e.G f):LOk d e [(0,0)]:=
 ⟨sm,λp a=>by simp at a;subst a;exact⟨b.n1,c.n1⟩⟩
theorem Zm3{d e:Dn}{O P:Nat}(z:DOk d.cl d.N d.G O)(A:DOk e.cl e.N e.G P): ∀(f at_:Nat) (L:List (Nat×Nat)),f+at_=d.N.length*e.N.length+1->at_<=L.length->LOk d e L->(0,0)∈L->
  (∀p∈L,∃w:List Nat,(∀c∈w,c<256)/\p=wayQ d e w)->(∀i p,i<at_->L[i]? =some p->soQ d e p=false/\ ∀c,c<256->Zdt d e p c∈L)->
  (Zm2 d e f at_ L=true-> ∃w:List Nat,(∀c∈w,c<256)/\soQ d e (wayQ d e w)=true)/\
  (Zm2 d e f at_ L=false-> ∀w:List Nat,(∀c∈w,c<256)->soQ d e (wayQ d e w)=false)
 |0,at_,L,F,t,o,s,y,u=>by have:=o.len;omega
 |f+1,at_,L,F,t,o,s,y,u=>by
  rw[Zm2];by_cases a:at_<L.length
  .rw[uF a];have H:L.getD at_ (0,0)=L[at_]:=by rw[qw,qo a];rfl
   rw[H];obtain⟨w,m,n⟩:=y _ (qe a);by_cases q:soQ d e L[at_]=true;rw[uF q];exact⟨λ_=>⟨w,m,by rw[<-n];exact q⟩,λh=>by cases h⟩;rw[uE q];have k:=o.lt _ (qe a);refine Zm3 z A f (at_+1) _ om (uu a (Zpc _ _ _ _ _)) (LOk.row z A k 256 (qnq _) o) ((Zcl _ _ _ _ _).2 (.inl s)) (λp v=> ?_) (λi p B g=> ?_);rcases(Zcl _ _ _ _ _).1 v with h|⟨c,b,h⟩;exact y p h;refine⟨w++ [c],λx j=> ?_,by rw[Zyd,<-n];exact h⟩;rcases qA.1 j with j|j;exact m x j;simp at j;subst j;exact b;rw[Zrv d e _ 256 L om]at g;by_cases C:i=at_;subst C;rw[qo a]at g;cases g;exact⟨su q,λc b=>(Zcl _ _ _ _ _).2 (.inr ⟨c,b,rfl⟩)⟩;obtain⟨D,E⟩:=u i p om g;exact⟨D,λc b=>(Zcl _ _ _ _ _).2 (.inl (E c b))⟩
  .rw[uE a];refine⟨λh=>(by cases h),λ_ w r=> ?_⟩;have l: ∀p∈L,soQ d e p=false/\ ∀c,c<256->Zdt d e p c∈L:=λp k=>by
    obtain⟨i,B,rfl⟩:=List.getElem_of_mem k;exact u i _ om (qo B)
   have: ∀(w:List Nat),(∀c∈w,c<256)-> ∀p∈L,w.foldl (Zdt d e) p∈L:=by
    intro w
    induction w with
    |nil=>exact λ_ p k=>k
    |cons c w K=>exact λr p k=>K (λx j=>r x (.tail _ j)) _ ((l p k).2 c (r c (.head _)))
   exact(l _ (this w r _ s)).1
theorem Zig{d e:Dn}{g h:Nat}(a:DOk d.cl d.N d.G g)(b:DOk e.cl e.N e.G h):
  (Qy d e=true-> ∃w:List Nat,(∀c∈w,c<256)/\soQ d e (wayQ d e w)=true)/\
  (Qy d e=false-> ∀w:List Nat,(∀c∈w,c<256)->soQ d e (wayQ d e w)=false):=
 Zm3 a b _ 0 _ om om (LOk.zero a b) sm (λp f=>by simp at f;subst f;exact⟨[],sm,rfl⟩) (λi p j _=>om)
end Go.Y
namespace Go.Y
open Go.Proofs
set_option maxRecDepth 1000000
set_option maxHeartbeats 0
def Trye.locs:List (List Nat):=(((Tryz.locs.set 127 []).set 89 [12,14,27]).set 39 []).set 13 [3,4,12,13,16,17,20,46,63]
def Trye.modes:List Nat:=((Tryz.modes.set 39 0).set 127 7).set 166 0
noncomputable def eY_:YP:=⟨Go.Proofs.Tryz.prog,Tryz.tys,Trye.locs,Trye.modes,[182,5],[(185,1),(197,2)],[26,27,28,32,33,96]⟩
theorem eK_:YOK eY_:=Vk kr Tryz.extok
theorem PCon.ez{f}{a}{Q:V->Prop}(c:PCon eY_ f a Q):PCon UY f a Q:=⟨c.body,c.tr⟩
theorem PCon.ze{f}{a}{Q:V->Prop}(c:PCon UY f a Q):PCon eY_ f a Q:=⟨c.body,c.tr⟩
theorem ZN2{a f c d h}(K):CP eY_ 65 (flat (Za Tryz.f65)) (J a f none::V.fn (.func 165) [] [p_P c,p_P d]::Rp 7) h [4] K=(Con eY_ 85 [J a f none,V.fn (Fn.func 165) [] [p_P c,p_P d]] h fun(v:V) (g:Heap)=> ∃e,v=I e/\K .ret 9 [.b (leI 0 e)] g):=kr
theorem ZN3{a d b c h}(K):CP eY_ 85 (pre B_85) (J a d none::V.fn (.func 165) [] [p_P b,p_P c]::Rp 17) h [0,1,7,8] K=(K .normal 19 [J a d none, .fn (Fn.func 165) [] [p_P b, p_P c],I (d:Int),I 0] h):=kr
theorem ZN4{a i d e x8 h}(K):CP eY_ 85 (lp_ B_85) (MZ 19 [0,1,7,8] [J a i none,V.fn (Fn.func 165) [] [p_P d,p_P e],I (i:Int),I x8]) h [0,1,4,7,8] K=(If (ltI x8 i) ((0<=x8/\x8<i)/\ ∃b c f,Zs 1 (List.drop (x8.toNat*1) a)=some [J b c f]/\ ∃g,RCon eY_ 165 [J b c f,p_P d,p_P e] h (.b g)/\If g (K .ret 19 [J a i none, .fn (Fn.func 165) [] [p_P d, p_P e],I x8,I (i:Int),I x8] h) (K .normal 19 [J a i none, .fn (Fn.func 165) [] [p_P d, p_P e],Ud,I (i:Int),I (wW (x8+(1:Int)))] h)) (K (.exit 0) 19 [J a i none, .fn (Fn.func 165) [] [p_P d, p_P e],Ud,I (i:Int),I x8] h)):=kr
theorem ZN5{h}(K):CP eY_ 85 ((post B_85).drop 1) (MZ 19 [] []) h [4] K=(K .ret 19 [I (-1)] h):=kr
theorem ZHo{a j c d h}(K):CP eY_ 165 (flat (Za Tryz.f165)) (J a j none::p_P c::p_P d::Rp 17) h [4] K=(∃e,Zb h c 0 1=some [I e]/\If ((↑j:Int) !=e) (K .ret 20 [.b true] h) (∃f,(PCon eY_ 164 [J a j none] λv=>v=I f)/\If (ltI f 0) (K .ret 20 [.b true] h) (∃g,(PCon eY_ 163 [J a j none] λv=>v=I g)/\ ∃i,Zb h d 0 1=some [I i]/\K .ret 20 [.b (leI i g)] h))):=kr
theorem ZHp{cs h}(K):CP eY_ 127 (flat (Za Tryz.f127)) (.agg cs::Rp 39) h [2] K=(If (decide (cs.length=(258:Nat))&&Zp cs) (∃a b c,Zb (h.push (YObj.arr cs true)) h.nx 256 1=some [J a b c]/\ ∃d,Zi ((h.push (YObj.arr cs true)).pushT (eY_.tag (3:Nat)) (YObj.arr [I 0] true)) (h.nx+(1:Nat)) 0 [I (b:Int)]=some d/\((1=0->False)/\ ∃e f,d.get h.nx=some (YObj.arr e f)/\256<=e.length)/\ ∃e,FCon eY_ (163:Nat) [S (some (h.nx,0)) 256 (some 256) 1] d (I e)/\ ∃f,Zi (d.pushT (eY_.tag (3:Nat)) (YObj.arr [I 0] true)) d.nx 0 [I (wW (e+(1:Int)))]=some f/\((1=0->False)/\ ∃g i,f.get h.nx=some (YObj.arr g i)/\256<=g.length)/\ ∃g,FCon eY_ (164:Nat) [S (some (h.nx,0)) 256 (some 256) 1] f (I g)/\If (ltI g 0) (K .ret 40 [.b false] f) (∃i,Zb f d.nx 0 1=some [I i]/\If (ltI 256 i) (K .ret 40 [.b false] f) (∃j,Zb f (h.nx+(1:Nat)) 0 1=some [I j]/\If (ltI j 1) (K .ret 40 [.b false] f) (∃l,Zb f (h.nx+(1:Nat)) 0 1=some [I l]/\If (ltI 300 l) (K .ret 40 [.b false] f) (∃m n o,Zb f h.nx 257 1=some [J m n o]/\ ∃q,Zb f (h.nx+(1:Nat)) 0 1=some [I q]/\If ((↑n:Int) !=q) (K .ret 40 [.b false] f) (∃r s t,Zb f h.nx 256 1=some [J r s t]/\Con eY_ 65 [J r s t,V.fn (Fn.func (165:Nat)) [] [p_P d.nx,.p (some (h.nx+(1:Nat),0))]] f fun(v:V) (k:Heap)=> ∃u,v=.b u/\K .ret 40 [.b !u] k)))))) False):=kr
theorem Zih: ∀(r:List Int) (a x:Int),(x=a\/x∈r)->x<=r.foldl (λx y=>if y>x then y else x) a
 | [],a,x,h=>by
  rcases h with h|h;rw[h];exact Int.le_refl _;cases h
 |y::r,a,x,h=>by
  rw[uR];have b:=Zih r (if y>a then y else a);rcases h with h|h
  .have:=b _ (.inl rfl);subst h;split at this<;>split<;>omega
  .rcases qu.1 h with h|h
   .have:=b _ (.inl rfl);subst h;split at this<;>split<;>omega
   .exact b x (.inr h)
theorem Zii: ∀(r:List Int) (a b:Int),a<=b->(∀x∈r,x<=b)->r.foldl (λx y=>if y>x then y else x) a<=b
 | [],a,b,h,_=>h
 |y::r,a,b,h,c=>by
  rw[uR];refine Zii r _ b ?_ λx d=>c x (.tail _ d);have:=c y (.head _);split<;>omega
theorem Zij: ∀(r:List Int) (a b:Int),b<=a->(∀x∈r,b<=x)->b<=r.foldl (λx y=>if y<x then y else x) a
 | [],a,b,h,_=>h
 |y::r,a,b,h,c=>by
  rw[uR];refine Zij r _ b ?_ λx d=>c x (.tail _ d);have:=c y (.head _);split<;>omega
theorem Zye{l:List Int}{b:Int}(a:l≠ [])(h: ∀x∈l,x<=b):maxZ l<=b:=by
 cases l with
 |nil=>exact absurd rfl a
 |cons x r=>exact Zii r x b (h x (.head _)) λy c=>h y (.tail _ c)
theorem ZHq{l:List Int}{x:Int}(h:x∈l):x<=maxZ l:=by
 cases l with
 |nil=>cases h
 |cons y r=>exact Zih r y x (qu.1 h)
theorem Zyf{l:List Int}{b:Int}(a:l≠ [])(h: ∀x∈l,b<=x):b<=minZ l:=by
 cases l with
 |nil=>exact absurd rfl a
 |cons x r=>exact Zij r x b (h x (.head _)) λy c=>h y (.tail _ c)
theorem Zrw: ∀l:List Nat,row encI (l.map fun(k:Nat)=>(k:Int))=clsI l
 | []=>rfl
 |k::l=>by
  have e:row encI ((k::l).map fun(k:Nat)=>(k:Int))=I (k:Nat)::row encI (l.map fun(k:Nat)=>(k:Int)):=rfl;rw[e,Zrw l];rfl
theorem ZHr(r:List Int)(w n:Nat)(g:r.length=w)(p:0<w/\w<=256)(i: ∀x∈r,0<=x/\x<(n:Nat)){h:Heap}{c d:Nat}(j:h.get c=some (.arr [I w] true))(k:h.get d=some (.arr [I n] true)):
  RCon eY_ 165 [lst encI r, p_P c, p_P d] h (.b false):=by
 have a:r≠ []:=by intro e;subst e;simp at g;omega
 have m:Con eY_ 165 [lst encI r, p_P c, p_P d] h λv l=>v= .b false/\l=h:=by
  refine Zx eK_ (fn:=Tryz.f165) (Zo eK_ ZHo rfl ?_);refine⟨_,by rw[Zr j];rfl,ifF (by rw[g];simp) ⟨_,PCon.ze (ZD3 r a om),ifF ?_ ⟨_,PCon.ze (ZD2 r a om),_,(by rw[Zr k];rfl),finC rr rfl (.now ⟨?_,rfl⟩)⟩⟩⟩;have:=Zyf a λx f=>(i x f).1;simp[ltI];omega
  .have:=Zye (b:=(n:Int)-1) a λx f=>by have:=(i x f).2;omega
   simp only[leI];rw[uK om];rfl
 exact⟨h,m,λ_ _=>rfl,λ_ o=>o⟩
theorem ZBx(N:List (List Int))(w n:Nat)(o:0<w/\w<=256)(k: ∀r∈N,r.length=w/\ ∀x∈r,0<=x/\x<(n:Nat)){h:Heap}{b c:Nat}(g:h.get b=some (.arr [I w] true))(j:h.get c=some (.arr [I n] true))(q:N.length<=300):
  Con eY_ 85 [lst Xk N, .fn (.func 165) [] [p_P b, p_P c]] h λv d=>v= I (-1)/\d=h:=by
 refine Zx eK_ (fn:=Tryz.f85) ?_;refine Zh eK_ 19 ZN3 rfl ?_;refine⟨rfl,ZM [0,1,7,8] [0,1,4,7,8] (λm f d=> ∃i:Nat,f= [lst Xk N, .fn (.func 165) [] [p_P b, p_P c],I N.length,I (i:Nat)]/\i<=N.length/\m=N.length-i/\d=h) N.length ZA ⟨0,rfl,om,om,rfl⟩ ?_⟩;rintro m f d ⟨i,rfl,p,rfl,rfl⟩;refine Zm eK_ ZN4 rfl ?_;refine Zq (λa=> ?_) (λl=> ?_);have e:=k _ (qe a);refine⟨Zu a,_,_,_,getL N a,_,ZHr N[i] w n e.1 o e.2 g j,ifF rfl ?_⟩;exact⟨rfl,N.length-(i+1),om,i+1,by rw[Ze om];rfl,om,rfl,rfl⟩;refine Zj [] ?_;refine Zo eK_ ZN5 rfl ?_;exact finC rr rfl (.now ⟨rfl,rfl⟩)
theorem Zpd(N:List (List Int))(w n:Nat)(l:0<w/\w<=256)(j: ∀r∈N,r.length=w/\ ∀x∈r,0<=x/\x<(n:Nat)){h:Heap}{a c:Nat}(g:h.get a=some (.arr [I w] true))(i:h.get c=some (.arr [I n] true))(k:N.length<=300):
  Con eY_ 65 [lst Xk N, .fn (.func 165) [] [p_P a, p_P c]] h λv d=>v= .b false/\d=h:=by
 refine Zx eK_ (fn:=Tryz.f65) (Zo eK_ ZN2 rfl ?_);exact(ZBx N w n l j g i k).mono λv d ⟨e,f⟩=>⟨_,e,finC rr rfl (.now ⟨rfl,f⟩)⟩
theorem DOk.max{a:List Nat}{N:List (List Int)}{G}{w:Nat}(d:DOk a N G w):maxZ (a.map fun(k:Nat)=>(k:Int))=((w-1:Nat):Int):=by
 have c:(a.map fun(k:Nat)=>(k:Int))≠ []:=by
  intro e;have:=congrArg List.length e;rw[qC,d.c256]at this;simp at this
 have h:=Zye (b:=((w-1:Nat):Int)) c λx g=>by
  obtain⟨k,f,rfl⟩:=uW.1 g;have:=d.clt k f;have:=d.w1;omega
 have i:=ZHq (l:=a.map fun(k:Nat)=>(k:Int)) (uW.2 ⟨w-1,d.cmx,rfl⟩);omega
theorem DOk.min{a:List Nat}{N:List (List Int)}{G}{w:Nat}(d:DOk a N G w):0<=minZ (a.map fun(k:Nat)=>(k:Int)):=by refine Zyf (λe=> ?_) λx b=> ?_;have:=congrArg List.length e;rw[qC,d.c256]at this;simp at this;obtain⟨k,c,rfl⟩:=uW.1 b;omega
theorem QV(a:List Nat)(N:List (List Int))(G)(h:a.length=256):(dfaC a N G).length=258:=by simp[dfaC,clsI,h]
theorem Zbd(a)(N:List (List Int))(G):Zp (dfaC a N G)=true:=by
 unfold dfaC
 induction a with
 |nil=>rfl
 |cons k r b=>simp only[clsI,qz,qs,Zp,qrq];exact⟨rfl,b⟩
theorem WT(a)(N:List (List Int))(G):ZZ (dfaC a N G)=true:=by
 unfold dfaC
 induction a with
 |nil=>rfl
 |cons k r b=>simp only[clsI,qz,qs,ZZ,qrq];exact⟨rfl,b⟩
theorem Zyg(a)(N:List (List Int))(G):Xp [.agg (dfaC a N G)]=true:=by show(ZZ (dfaC a N G)&&true)=true;rw[WT];rfl
theorem WU{h:Heap}{a:Nat}{b:List Nat}{N:List (List Int)}{G}(c:h.get a=some (.arr (dfaC b N G) true))(d:b.length=256):Zb h a 256 1=some [lst Xk N]/\Zb h a 257 1=some [lst Zl G]:=ZHk c d
theorem Zyh{h:Heap}{b:Nat}{a:List Nat}{N:List (List Int)}{G}(e:h.get b=some (.arr (dfaC a N G) true)){c:Nat}(d:c<a.length)(o:Nat)(f:o=c):Zb h b o 1=some [I (a[c]:Nat)]:=by subst f;rw[Zr e];unfold dfaC;rw[List.drop_append_of_le_length (by simp[clsI];omega),uM (by simpa[clsI]using d)];simp[Zs]
theorem Zyi{h:Heap}{d:Nat}{a:List Nat}{N:List (List Int)}{G}(f:h.get d=some (.arr (dfaC a N G) true))(c:a.length=256):Frz h (.sl (some (d,0)) 256 (some 256) 1) (lst encI (a.map fun(k:Nat)=>(k:Int))):=by
 have e:lst encI (a.map fun(k:Nat)=>(k:Int))= .ts (clsI a) 256 none:=by
  show V.ts _ _ _=_;rw[Zrw,qC,c]
 rw[e];refine .sl _ _ _ _ _ _ true (clsI a) _ _ f ?_ (λx g=>by cases g) dc (frzN h a);rw[ql];unfold dfaC;have b:(clsI a).length=256:=by simp[clsI,c]
 rw[WH (by simp[b]),List.take_left' b]
theorem ZD8{f}{N:List (List Int)}{G}{w:Nat}(d:DOk f N G w):PCon eY_ 127 [.agg (dfaC f N G)] (· = .b true):=by
 refine Zv eK_ (fn:=Tryz.f127) (Zyg _ _ _) ZHp rfl ?_;have o:eY_.tag 3=none:=kr;rw[o];have n:(f.map fun(k:Nat)=>(k:Int))≠ []:=by
  intro e;have:=congrArg List.length e;rw[qC,d.c256]at this;simp at this
 have x:=d.max;have E:=d.min;have P:=d.w1;have W:=d.w2;have Y:=d.n1;have H:=d.n2;have l:(f.map fun(k:Nat)=>(k:Int)).length<2 ^ 20:=by rw[qC,d.c256];decide
 generalize h:dfaC f N G=g;have m:g.length=258:=by rw[<-h];exact QV _ _ _ d.c256
 have j:Zp g=true:=by rw[<-h];exact Zbd _ _ _
 refine ifT (by rw[j];simp[m]) ?_;have y:(Heap.empty.push (.arr g true)).get Heap.empty.nx=some (.arr (dfaC f N G) true):=by rw[qk,uF rfl,h]
 refine⟨_,_,_,(WU y d.c256).1,?_⟩;obtain⟨a,p⟩: ∃a,a=((Heap.empty.push (.arr g true)).pushT none (.arr [I 0] true)).set (Heap.empty.nx+1) (some (.arr [I (N.length:Nat)] true)):=⟨_,rfl⟩;have L:Zi ((Heap.empty.push (.arr g true)).pushT none (.arr [I 0] true)) (Heap.empty.nx+1) 0 [I (N.length:Nat)]=some a:=by
  rw[p];exact ZL (cs:= [I 0]) (by rw[qj,uF sm]) sm
 have u:a.get Heap.empty.nx=some (.arr (dfaC f N G) true):=by
  rw[p,qc,uE om,qj,uE sm];exact y
 have F:a.get (Heap.empty.nx+1)=some (.arr [I (N.length:Nat)] true):=by rw[p,qc,uF rfl]
 have x1:a.nx=Heap.empty.nx+2:=by rw[p,Heap.nx_set];simp
 refine⟨a,L,⟨dc,_,_,u,by rw[QV _ _ _ d.c256];decide⟩,_,⟨_, .cons _ _ _ _ (Zyi u d.c256) .nil,PCon.ze (ZD2 _ n l)⟩,?_⟩;rw[x,show(((w-1:Nat):Int)+1)=(w:Int) from om];have D:wW (w:Int)=(w:Int):=by
  have:=Ze (i:=w-1) om;rw[show((w-1:Nat):Int)+1=(w:Int) from om]at this;rw[this];omega
 rw[D];obtain⟨c,q⟩: ∃c,c=(a.pushT none (.arr [I 0] true)).set a.nx (some (.arr [I w] true)):=⟨_,rfl⟩;have O:Zi (a.pushT none (.arr [I 0] true)) a.nx 0 [I w]=some c:=by
  rw[q];exact ZL (cs:= [I 0]) (by rw[qj,uF rfl]) sm
 have s:c.get Heap.empty.nx=some (.arr (dfaC f N G) true):=by
  rw[q,qc,uE om,qj,uE om];exact u
 have A:c.get (Heap.empty.nx+1)=some (.arr [I (N.length:Nat)] true):=by
  rw[q,qc,uE om,qj,uE om];exact F
 have B:c.get a.nx=some (.arr [I w] true):=by rw[q,qc,uF rfl]
 have t:Zb c (Heap.empty.nx+1) 0 1=some [I (N.length:Nat)]:=by rw[Zr A];rfl
 have C:Zb c a.nx 0 1=some [I w]:=by rw[Zr B];rfl
 refine⟨c,O,⟨dc,_,_,s,by rw[QV _ _ _ d.c256];decide⟩,_,⟨_, .cons _ _ _ _ (Zyi s d.c256) .nil,PCon.ze (ZD3 _ n l)⟩,?_⟩;refine ifF (by simp[ltI];omega) ⟨_,C,ifF (by simp[ltI];omega) ⟨_,t,ifF (by simp[ltI];omega) ⟨_,t,ifF (by simp[ltI];omega) ⟨_,_,_,(WU s d.c256).2,_,t,ifF (by rw[d.ng];simp) ⟨_,_,_,(WU s d.c256).1,?_⟩⟩⟩⟩⟩;refine(Zpd N w N.length ⟨P,W⟩ (λr z=>⟨d.rl r z,d.rx r z⟩) B A H).mono λv X ⟨K,Z⟩=>⟨_,K,ZB rr rfl (.b _) rfl⟩
theorem ZHs{a b x1 h}(K):CP eY_ 128 (pre (flat (Za Tryz.f128))) (J a b none::I x1::Rp 27) h [0,1,5] K=
  (K .normal 29 [J a b none,I x1,S0] h):=kr
theorem ZHt{b n0 x1 a5 l5 c5 k5 h}(K):CP eY_ 128 (lp_ (flat (Za Tryz.f128))) (MZ 29 [0,1,5] [J b n0 none,I x1,S a5 l5 c5 k5]) h [0,1,5] K=
  ((0<=x1/\x1<n0)/\
  ∃a,
  Zs 1 (List.drop 2 (List.drop (x1.toNat*4) b))=some [I a]/\
   If (leI 0 a)
    ((0<=x1/\x1<n0)/\
     ∃c,
      Zs 1 (List.drop 3 (List.drop (x1.toNat*4) b))=some [.i .u8 c]/\
       ∃d e f g j,Zk eY_ h 138 138 (S a5 l5 c5 k5)
          (J [.i .u8 c] 1 (some 1))=
          some (S d e f g,j)/\
          (0<=x1/\x1<n0)/\
          ∃l,
          Zs 1 (List.drop 2 (List.drop (x1.toNat*4) b))=
          some [I l]/\
          K .normal 29 [J b n0 none,I l,S d e f g] j)
    (K (.exit 0) 29 [J b n0 none,I x1,S a5 l5 c5 k5] h)):=kr
theorem ZHu{a5 l5 c5 k5 h}(K):CP eY_ 128 ((post (flat (Za Tryz.f128))).drop 1) (MZ 29 [5] [S a5 l5 c5 k5]) h [4] K=
  (Con eY_ 166 [S a5 l5 c5 k5] h fun(v:V) (b:Heap)=>
  v=.tup []/\
  ∃a,
   opQ eY_
      (Ef.appL (some (27:Nat)) (Ef.q (Q.val (S a5 l5 c5 k5)))
       {
        env:=
         ((mk (29:Nat) ([(5:Nat)].zip [S a5 l5 c5 k5])).set (25:Nat) (S a5 l5 c5 k5)).set
          (26:Nat) (.tup []),
        refs:= [],h:=b})
      {dst:=some (28:Nat),op:=Op.convert (138:Nat) (9:Nat) (Operand.tmp (27:Nat)),
       type:=(9:Nat),pos:="dfa.go:178",after:= #[{on:=(0:Nat),ground:=Ground.data}],
       guard:=none} =
     some (Q.val (.s a))/\
    K .ret 29 [.s a] b):=kr
theorem ZHv{a l0 c0 h}(K):CP eY_ 166 (pre B_166) (S (some (a,0)) l0 c0 1::Rp 27) h [0,2,3] K=
  (K .normal 28
  [S (some (a,0)) l0 c0 1,I 0,
  I (wW ((↑l0:Int)-(1:Int)))]
  h):=kr
theorem ZHw{a l0 c0 x2 x3 h}(K):CP eY_ 166 (lp_ B_166) (MZ 28 [0,2,3] [S (some (a,0)) l0 c0 1,I x2,I x3]) h [0,2,3] K=
  (If (ltI x2 x3)
  ((0<=x3/\x3<l0)/\
  1=1/\
   ∃b,
    Zb h a ((0:Nat)+x3.toNat*1) 1=some [.i .u8 b]/\
     (0<=x2/\x2<l0)/\
      1=1/\
       ∃c,
        Zb h a ((0:Nat)+x2.toNat*1) 1=some [.i .u8 c]/\
         (0<=x2/\x2<l0)/\
          1=1/\
          ∃d,
          Zi h a ((0:Nat)+x2.toNat*1) [.i .u8 b]=some d/\
          (0<=x3/\x3<l0)/\
          1=1/\
          ∃e,
          Zi d a ((0:Nat)+x3.toNat*1) [.i .u8 c]=some e/\
          K .normal 28
          [S (some (a,0)) l0 c0 1,
          I (wW (x2+(1:Int))),
          I (wW (x3-(1:Int)))]
          e)
  (K (.exit 0) 28
  [S (some (a,0)) l0 c0 1,I x2,I x3] h)):=kr
theorem ZN6{cs ds h}(K):CP eY_ 39 (flat (Za Tryz.f39)) (.agg cs::.agg ds::Rp 9) h [4,5] K=
  (If (decide (cs.length=(258:Nat))&&Zp cs)
  (If (decide (ds.length=(258:Nat))&&Zp ds)
  (∃a,
   Zb ((h.push (YObj.arr cs true)).push (YObj.arr ds true)) h.nx 0 258=some a/\
    ∃b,
     Zb ((h.push (YObj.arr cs true)).push (YObj.arr ds true)) (h.nx+(1:Nat)) 0 258=
       some b/\
      Con eY_ 89 [.agg a,.agg b,V.fn (Fn.func (90:Nat)) [] []]
       ((h.push (YObj.arr cs true)).push (YObj.arr ds true)) fun(v:V) (e:Heap)=>
       ∃c d,v=.tup [.s c,.b d]/\K .ret 11 [.s c, .b d] e)
  False)
  False):=kr
theorem ZN7{b0 b1 h}(K):CP eY_ 90 (flat (Za Tryz.f90)) (.b b0::.b b1::Rp 8) h [4] K=
  (If b0 (K .ret 10 [.b !b1] h) (K .ret 10 [.b false] h)):=kr
theorem ZHx{c0 k0 h}(K):CP eY_ 166 (pre B_166) (S none 0 c0 k0::Rp 27) h [0,2,3] K=(K .normal 28 [S none 0 c0 k0,I 0,I (wW ((↑(0:Nat):Int)-(1:Int)))] h):=kr
theorem ZHy{c0 k0 h}(K):CP eY_ 166 (lp_ B_166) (MZ 28 [0,2,3] [S none 0 c0 k0,I 0,I (wW ((↑0:Int)-1))]) h [0,2,3] K=(K (.exit 0) 28 [S none 0 c0 k0,I 0,I (wW ((0:Int)-(1:Int)))] h):=kr
theorem Zkb(a:List Nat):(row encU a).length=a.length:=by have:=Xf (f:=encU) (k:=1) Zez a;omega
theorem Zrx(a:List Nat){i:Nat}(h:i<a.length):Zs 1 ((row encU a).drop i)=some [.i .u8 (a[i]:Nat)]:=by
 have:=getU a h
 rwa [qdq,uY]at this
theorem Zpe: ∀(a:List Nat) (i x:Nat),i<a.length->splice (row encU a) i [.i .u8 (x:Nat)]=row encU (a.set i x)
 | [],i,x,h=>by simp at h
 |b::a,0,x,h=>by
  have e:row encU (b::a)=V.i .u8 (b:Nat)::row encU a:=rfl;rw[e];rfl
 |b::a,i+1,x,h=>by
  have e:row encU (b::a)=V.i .u8 (b:Nat)::row encU a:=rfl;rw[e];show V.i .u8 (b:Nat)::splice (row encU a) i [.i .u8 (x:Nat)]=_;rw[Zpe a i x (su h)];rfl
def strN(a:List Nat):List UInt8:=a.map UInt8.ofNat
theorem ZD9: ∀a:List Nat,Qz (row encU a)=some (strN a)
 | []=>rfl
 |b::a=>by
  have e:row encU (b::a)=V.i .u8 (b:Nat)::row encU a:=rfl;rw[e,Qz,ZD9 a];rfl
def Zm4(a:List Nat):Nat->List Nat
 |0=>a
 |i+1=>((Zm4 a i).set i ((Zm4 a i).getD (a.length-1-i) 0)).set (a.length-1-i) ((Zm4 a i).getD i 0)
theorem Zgo(a:List Nat): ∀i,(Zm4 a i).length=a.length
 |0=>rfl
 |i+1=>by rw[Zm4,vJ,vJ,Zgo a i]
def revN(a:List Nat):List Nat:=Zm4 a (a.length / 2)
theorem ZBy{a:List V}{j:Nat}{v}(h:a[j]? =some v):Zs 1 (a.drop j)=some [v]:=by
 obtain⟨b,e⟩:=qb.1 h;rw[uM b,e]
 rfl
theorem ZHz(c0)(b:Nat)(h:Heap):Con eY_ 166 [.sl none 0 c0 b] h λv a=>v= .tup []/\a=h:=by refine Zx eK_ (fn:=Tryz.f166) ?_;refine Zh eK_ 28 ZHx rfl ?_;refine⟨rfl,Zfo [0,2,3] [0,2,3] (λm c a=>c= [.sl none 0 c0 b,I 0,I (wW (((0:Nat):Int)-1))]/\a=h) 0 ZA ⟨rfl,rfl⟩ ?_⟩;rintro m c a ⟨rfl,rfl⟩;refine Zm eK_ ZHy rfl ?_;exact Xc (.inl rfl) rfl (AfterZ.now ⟨rfl,rfl⟩)
theorem ZN8{h:Heap}{e:Nat}{c0:Option Nat}(b:List Nat)(t:h.get e=some (.arr (row encU b) true))(y:b.length<2 ^ 20):
  Con eY_ 166 [.sl (some (e,0)) b.length c0 1] h λv c=>v= .tup []/\c.get e=some (.arr (row encU (revN b)) true)/\c.nx=h.nx:=by
 refine Zx eK_ (fn:=Tryz.f166) ?_;refine Zh eK_ 28 ZHv rfl ?_;refine⟨rfl,Zfo [0,2,3] [0,2,3] (λm p c=> ∃(i:Nat) (a:List Nat),p= [.sl (some (e,0)) b.length c0 1,I (i:Nat),I ((b.length:Nat)-1-(i:Nat))]/\i<=b.length/\m=b.length-i/\a=Zm4 b i/\2*i<=b.length/\c.get e=some (.arr (row encU a) true)/\c.nx=h.nx) b.length ZA
  ⟨0,b,by rw[ZI om om,show((b.length:Nat):Int)-1-((0:Nat):Int)=((b.length:Nat):Int)-1 from om];rfl,om,om,rfl,om,t,rfl⟩ ?_⟩
 rintro m p c ⟨i,a,rfl,x,rfl,f,s,d,hnx⟩;have o:a.length=b.length:=by rw[f,Zgo]
 refine Zm eK_ ZHw rfl ?_;refine Zf (λn=> ?_) (λl=> ?_)
 .have n:((i:Nat):Int)<((b.length:Nat):Int)-1-(i:Nat):=by simpa[ltI]using n
  obtain⟨j,u⟩: ∃j:Nat,((b.length:Nat):Int)-1-(i:Nat)=(j:Nat):=⟨b.length-1-i,om⟩;rw[u];have k:j<a.length:=om;have g:i<a.length:=om;have w:Zi c e (0+((i:Nat):Int).toNat*1) [.i .u8 (a[j]:Nat)]=some (c.set e (some (.arr (row encU (a.set i a[j])) true))):=by
   rw[ZL d (by rw[Zkb];simp;omega)];rw[show 0+((i:Nat):Int).toNat*1=i from sm,Zpe _ _ _ g]
  have r:(c.set e (some (.arr (row encU (a.set i a[j])) true))).get e=some (.arr (row encU (a.set i a[j])) true):=by rw[qc,uF rfl]
  refine⟨⟨om,om⟩,rfl,(a[j]:Nat),?_,⟨om,om⟩,rfl,(a[i]:Nat),?_,⟨om,om⟩,rfl,_,w,⟨om,om⟩,rfl,_,ZL r (by rw[Zkb];simp;omega),?_⟩;rw[Zr d,show 0+((j:Nat):Int).toNat*1=j from sm];exact Zrx _ k;rw[Zr d,show 0+((i:Nat):Int).toNat*1=i from sm];exact Zrx _ g;rw[show 0+((j:Nat):Int).toNat*1=j from sm,Zpe _ _ _ (su k)];refine⟨rfl,b.length-(i+1),om,i+1,(a.set i a[j]).set j a[i],?_,om,rfl,?_,om,by rw[qc,uF rfl],by rw[Heap.nx_set,Heap.nx_set,hnx]⟩;rw[Ze om,ZI om om,show((j:Nat):Int)-1=((b.length:Nat):Int)-1-((i+1:Nat):Int) from om];rfl;have q:b.length-1-i=j:=om;rw[Zm4,<-f,q];simp only[qw,qo k,qo g,uq]
 .exact Xc (.inl rfl) rfl (AfterZ.now ⟨rfl,by rw[d,f,revN,show b.length / 2=i by(have l: ¬((i:Nat):Int)<((b.length:Nat):Int)-1-(i:Nat):=by(simpa[ltI]using l));omega],hnx⟩)
abbrev encQ(p:Nat×Nat×Int×Nat):List V:= [I (p.1:Nat),I (p.2.1:Nat),I p.2.2.1, .i .u8 (p.2.2.2:Nat)]
theorem Ze0(p:Nat×Nat×Int×Nat):(encQ p).length=4:=rfl
def ZH0(P:List (Nat×Nat×Int×Nat)):Prop:= ∀i (h:i<P.length),P[i].2.2.1<(i:Nat)
theorem appU{h}{a}{l:Nat}{c}{m:Nat}{b:List Nat}(x:Nat)(p:LX encU 1 h a l c m b)(o:b.length<2 ^ 29):
  ∃d n g k f,Zk eY_ h 138 138 (.sl a l c m) (.ts [.i .u8 (x:Nat)] 1 (some 1))=some (.sl d n g k,f)/\LX encU 1 f d n g k (b++ [x])/\Fr h a f/\ ∃j,d=some (j,0)/\h.nx<=j:=
 p.app (Y:=eY_) (e:=5) (te:=⟨1,1, .int .u8,[.i .u8 0]⟩) x rfl Zez kr kr rfl dc rfl dc o
theorem strU{σ:St}{o:Oper}{x:Operand}(m:o.op= .convert 138 9 x){a}{l:Nat}{c}{k:Nat}{bs}(p:ev σ.env x= .sl a l c k)(e:LX encU 1 σ.h a l c k bs):opQ eY_ σ o=some (.val (.s (strN bs))):=by
 have q:eY_.kd 138=some (.slice 5):=kr;have r:eY_.kd 9=some .str:=kr;have t:eY_.kd 5=some (.int .u8):=kr;have n:=ZD9 bs;have g:XS σ 1 (.sl a l c k)=some (l,row encU bs):=by
  by_cases d:bs= []
  .have f:=e.nil d;have b:=e.len;subst d f b
   rfl
  .obtain⟨j,rfl,rfl,_,i,_⟩:=e.cells d;have b:=e.len;simp only[XS,vG,Xt,i,ql];rw[ZC (by rw[Zkb,b];omega)];rfl
 unfold opQ;simp only[m,p,q,r,t,g,n,Option.bind_some,uw]
def Zkc(P:List (Nat×Nat×Int×Nat)):Nat->Nat->List Nat
 |0,_=> []
 |f+1,i=>if 0<=(P.getD i (0,0,-1,0)).2.2.1 then(P.getD i (0,0,-1,0)).2.2.2::Zkc P f (P.getD i (0,0,-1,0)).2.2.1.toNat else []
theorem Zik{P:List (Nat×Nat×Int×Nat)}(a:ZH0 P): ∀(f g i:Nat),i<P.length->i<f->i<g->Zkc P f i=Zkc P g i
 |0,_,_,_,h,_=>om
 |_+1,0,_,_,_,h=>om
 |f+1,g+1,i,b,c,d=>by
  have j:=a i b;have e:P.getD i (0,0,-1,0)=P[i]:=by rw[qw,qo b];rfl
  rw[Zkc,Zkc,e];split;rw[Zik a f g _ om om om];rfl
def ZH1(P:List (Nat×Nat×Int×Nat))(at_:Nat):List UInt8:=strN (revN (Zkc P (at_+1) at_))
theorem ZBz(a:List Nat):(revN a).length=a.length:=Zgo a _
theorem ZH2(P:List (Nat×Nat×Int×Nat))(K:ZH0 P)(hl:P.length<2 ^ 20){at_:Nat}(y:at_<P.length):PCon eY_ 128 [lst encQ P,I at_] (· = .s (ZH1 P at_)):=by
 refine ZF eK_ (fn:=Tryz.f128) rfl ?_;refine Zh eK_ 29 ZHs rfl ?_;refine⟨rfl,ZM [0,1,5] [0,1,5] (λm O h=> ∃(i:Nat) (d:List Nat) (a:Option (Nat×Nat)) (l:Nat) (c:Option Nat) (k:Nat),O= [lst encQ P,I (i:Nat), .sl a l c k]/\i<P.length/\m=i/\d.length+i<P.length/\d++Zkc P (i+1) i=Zkc P (at_+1) at_/\LX encU 1 h a l c k d) at_ ZA
  ⟨at_,[],_,_,_,_,rfl,y,rfl,su y,rfl,LX.start _ _ _ _ _⟩ ?_⟩
 rintro m O h ⟨i,d,a,l,c,k,rfl,u,hm,hb,g,w⟩;refine Zm eK_ ZHt rfl ?_;have b: ∀(j:Nat) (v:V),(encQ P[i])[j]? =some v->Zs 1 (List.drop j (List.drop (((i:Nat):Int).toNat*4) (row encQ P)))=some [v]:=λj v hv=>by
  have:=Xw (f:=encQ) (k:=4) Ze0 u;rw[qdq];exact ZBy (Zc1 this j v hv)
 have C:=K i u;have D:P.getD i (0,0,-1,0)=P[i]:=by rw[qw,qo u];rfl
 rw[Zkc,D]at g;refine⟨Zu u,P[i].2.2.1,b 2 _ rfl,Zf (λp=> ?_) (λn=> ?_)⟩
 .have p:0<=P[i].2.2.1:=by simpa[leI]using p
  rw[uF p]at g;obtain⟨G,N,H,L,t,q1,q2,q3,_⟩:=appU P[i].2.2.2 w om;refine⟨Zu u,(P[i].2.2.2:Nat),b 3 _ rfl,G,N,H,L,t,q1,Zu u,P[i].2.2.1,b 2 _ rfl,?_⟩;obtain⟨j,E⟩: ∃j:Nat,P[i].2.2.1=(j:Nat):=⟨P[i].2.2.1.toNat,om⟩;rw[E]at C g ⊢;refine⟨rfl,j,om,j,d++ [P[i].2.2.2],G,N,H,L,rfl,om,rfl,by simp;omega,?_,q2⟩;rw[<-g,uU,qdq,Zik K (j+1) i j om om om];rfl
 .have n: ¬0<=P[i].2.2.1:=by simpa[leI]using n
  rw[uE n,qi]at g;refine Zj [5] ?_;refine Zo eK_ ZHu rfl ?_;unfold ZH1;rw[<-g];by_cases q:d= []
  .have Y:=w.nil q;have r:=w.len;subst q Y r;refine(ZHz c k h).mono λv t ⟨A,z⟩=> ?_;have F:=strU (σ:=⟨((mk 29 ([5].zip [V.sl none 0 c k])).set 25 (.sl none 0 c k)).set 26 (.tup [])|>.set 27 (.sl none 0 c k),[],t⟩) (o:=⟨some 28,Op.convert 138 9 (Operand.tmp 27),9,"",#[],none⟩) (x:= .tmp 27) rfl (bs:= []) rfl (LX.start _ _ _ _ _)
   exact⟨A,_,F,ZB rr rfl (.s _) rfl⟩
  .obtain⟨j,rfl,rfl,E,hg,Z⟩:=w.cells q;have r:=w.len;subst r;refine(ZN8 d hg om).mono λv t ⟨A,W,X⟩=> ?_;have z:=ZBz d;have B:LX encU 1 t (some (j,0)) d.length c 1 (revN d):=⟨λe=>(by rw[e]at z;exact absurd (qg z.symm) q),λ_=>⟨j,rfl,rfl,by rw[X];exact E,W,Z⟩,z.symm⟩;have F:=strU (σ:=⟨((mk 29 ([5].zip [V.sl (some (j,0)) d.length c 1])).set 25 (.sl (some (j,0)) d.length c 1)).set 26 (.tup [])|>.set 27 (.sl (some (j,0)) d.length c 1),[],t⟩) (o:=⟨some 28,Op.convert 138 9 (Operand.tmp 27),9,"",#[],none⟩) (x:= .tmp 27) rfl rfl B
   exact⟨A,_,F,ZB rr rfl (.s _) rfl⟩
end Go.Y
