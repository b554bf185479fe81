/- A part of the proof. -/
import Derived.Test.YteennilbmmlikaaGreatDoorGOv4
import Derived.Test.YteennilbmmlikaaGreatDoorGSuA
import Derived.Test.YteennilbmmlikaaGreatDoorGTrF
import Derived.Test.YteennilbmmlikaaGreatDoorYLoop
namespace Go.Y
open Go.Proofs
set_option maxRecDepth 1000000
set_option maxHeartbeats 0
def WV(s:List UInt8)(idw:Nat)(r:Re):Prop:= ∀(i:Nat) (a:List Bool) (h:Heap),i<=s.length->a.length=s.length+1->WayK s idw h->(∃k,StD s true true r i k/\At a k)->
 ∃(k:Nat) (c:Heap),StD s true true r i k/\At a k/\WayK s idw c/\Con Tryv.Y 92 [.p (some (idw,0)), .agg (Zd r), .i .i64 (i:Nat),lst Zl a] h λv d=>v= .i .i64 (k:Nat)/\d=c
def decI(x:Int):Int:=if 0<x then x-1 else x
def Ww(s:List UInt8)(c:Re)(d:Int)(i:Nat)(a:List Bool):List Bool:=if d=0 then(ZX c s a).set i false else ZX c s a
theorem Zmn(s:List UInt8)(c)(d:Int)(i:Nat)(a):(Ww s c d i a).length=s.length+1:=by
 unfold Ww;split
 .rw[vI,XM]
 .rw[XM]
def hnx(s:List UInt8)(c:Re)(d:Int)(i:Nat)(a:List Bool)(h:Heap):Heap:=if d=0 then(rh c s a h).set h.nx (some (.arr (row Zl (Ww s c d i a)) true))else rh c s a h
def hnz(s:List UInt8)(c:Re)(lo:Int)(i:Nat)(a:List Bool)(h:Heap):Heap:=XO (hnx s c lo i a h) [h.nx]
inductive Ag (s:List UInt8) (idw:Nat) (set:Set4) (x:Re) (n:Int) (allow:List Bool):Nat->Int->Int->Nat->Heap->Nat->Heap->Prop
 |zero {lo:Int} {i:Nat} {h:Heap} :Ag s idw set x n allow 0 lo 0 i h i h
 |stop {m:Nat} {lo hi:Int} {i:Nat} {h:Heap} :hi≠0-> ¬At (ZX x s (Ww s (.mk 6 set [x] (decI lo) (decI hi) n) lo i allow)) i->
   Ag s idw set x n allow m lo hi i h i (rh x s (Ww s (.mk 6 set [x] (decI lo) (decI hi) n) lo i allow) (hnz s (.mk 6 set [x] (decI lo) (decI hi) n) lo i allow h))
 |step {m:Nat} {lo hi:Int} {i:Nat} {h:Heap} {k':Nat} {hB:Heap} {k:Nat} {h1:Heap} :hi≠0->At (ZX x s (Ww s (.mk 6 set [x] (decI lo) (decI hi) n) lo i allow)) i->
   Con Tryv.Y 92 [.p (some (idw,0)), .agg (Zd x),I i,lst Zl (Ww s (.mk 6 set [x] (decI lo) (decI hi) n) lo i allow)] (rh x s (Ww s (.mk 6 set [x] (decI lo) (decI hi) n) lo i allow) (hnz s (.mk 6 set [x] (decI lo) (decI hi) n) lo i allow h)) (fun v h'=>v= I k'∧h'=hB)->
   k'<=s.length->WayK s idw hB->Ag s idw set x n allow m (decI lo) (decI hi) k' hB k h1->Ag s idw set x n allow (m+1) lo hi i h k h1
def BndR(c a:Int):Prop:=0<=c/\c<=8/\(a= -1\/(c<=a/\a<=8))
theorem BndR.dec{lo a:Int}(b:BndR lo a)(d:a≠0):BndR (decI lo) (decI a):=by
 obtain⟨e,c,f⟩:=b;unfold BndR decI;split<;>split<;>omega
theorem ZDa{set}{x}{n lo c:Int}(a:WG x)(d:nnS set)(b:BndR lo c):WG (.mk 6 set [x] lo c n):=
 ⟨by rw[wfRe];exact⟨λ_=>⟨b.1,b.2.1,b.2.2,rfl⟩,λ_ _ h=>absurd rfl h,sm,a.wf,trivial⟩,by rw[nnRe];exact⟨d,a.nn,trivial⟩,by rw[gkRe];exact⟨λh=>om,a.gk,trivial⟩⟩
theorem Zbb{s}{set}{x}{n lo a:Int}{i j:Nat} :StD s true true (.mk 6 set [x] lo a n) i j↔ ∃m:Nat,lo<=(m:Int)/\(a<0\/(m:Int)<=a)/\powD (StD s true true x) m i j:=by
 rw[StD];exact Iff.rfl
theorem Zmo{s}{c}{lo:Int}{i:Nat}{a}{h:Heap}(F:FreshB h (rh c s a h) h.nx (ZX c s a)):FreshB h (hnx s c lo i a h) h.nx (Ww s c lo i a):=by
 unfold hnx;by_cases e:lo=0
 .rw[uF e];exact F.set _
 .rw[uE e,Ww,uE e];exact F
theorem Zxy{s}{idw:Nat}{c}{lo:Int}{i:Nat}{a}{h:Heap}(e:WayK s idw h)(F:FreshB h (rh c s a h) h.nx (ZX c s a)):WayK s idw (hnz s c lo i a h):=by
 have G:=Zmo (lo:=lo) (i:=i) F;have f:=G.keeps;exact e.keep (by unfold hnz;rw[Qt];exact f) λj d=>by unfold hnz;rw[Xw,uE (by simp;omega)];exact G.keep j d
theorem Zmp{P:Nat->Nat->Prop}{i:Nat} : ∀ {m j:Nat},powD P m i j->j≠i-> ∃a y,a<m/\y≠i/\P i y/\powD P a y j
 |0,j,h,c=>absurd (show i=j from h).symm c
 |m+1,j,⟨y,g,d⟩,c=>by
  by_cases e:y=i
  .subst e;obtain⟨a,z,n,f,k,l⟩:=Zmp d c;exact⟨a,z,om,f,k,l⟩
  .exact⟨m,y,om,e,g,d⟩
theorem ZBg{l:List Bool}{i k:Nat} :At (l.set i false) k↔At l k/\k≠i:=by
 unfold At;rw[qw,qw,List.getElem?_set];by_cases e:i=k
 .subst e;simp;split<;>simp
 .rw[uE e];exact⟨λh=>⟨h,λc=>e c.symm⟩,And.left⟩
theorem ZSa{s:List UInt8}{idw:Nat}{set}{x}{n:Int}{a:List Bool}(X:s.length<2 ^ 19)(P:a.length=s.length+1)(D:WG x)(hn:nnS set)(ih:WV s idw x):
  ∀(m:Nat) (d j:Int) (i:Nat) (h:Heap),d.toNat+(s.length-i)<=m->BndR d j->i<=s.length->WayK s idw h->(∃k,StD s true true (.mk 6 set [x] d j n) i k/\At a k)->
  ∃(k:Nat) (K:Heap) (W:Nat),Ag s idw set x n a W d j i h k K/\StD s true true (.mk 6 set [x] d j n) i k/\At a k/\WayK s idw K:=by
 intro m
 induction m using Nat.strongRecOn with
 |_ m rec=>
 intro d j i h hm b l L A;by_cases G:j=0
 .subst G;obtain⟨k,w,v⟩:=A;obtain⟨t,B,H,z⟩:=Zbb.1 w;have ht:t=0:=om;subst ht;have:i=k:=z;subst this;exact⟨i,h,0, .zero,Zbb.2 ⟨0,B,H,rfl⟩,v,L⟩
 .have bd:=b.dec G;have g:WG (.mk 6 set [x] (decI d) (decI j) n):=ZDa D hn bd;obtain⟨F,_,_⟩:=Zid g X P L;have N:=Zxy (lo:=d) (i:=i) L F;have o:=Zmn s (.mk 6 set [x] (decI d) (decI j) n) d i a;obtain⟨F2,C,_⟩:=Zid D X o N;have f: ∀y,At (Ww s (.mk 6 set [x] (decI d) (decI j) n) d i a) y↔At (ZX (.mk 6 set [x] (decI d) (decI j) n) s a) y/\(d=0->y≠i):=λy=>by
   unfold Ww;by_cases e:d=0
   .rw[uF e,ZBg];exact⟨λq=>⟨q.1,λ_=>q.2⟩,λq=>⟨q.1,q.2 e⟩⟩
   .rw[uE e];exact⟨λq=>⟨q,λc=>absurd c e⟩,And.left⟩
  by_cases hr:At (ZX x s (Ww s (.mk 6 set [x] (decI d) (decI j) n) d i a)) i
  .obtain⟨E,hB,w,v,B,H⟩:=ih i _ _ l o C ((Qi D o l).1 hr);have r:=Zgj x l w;obtain⟨z,q6⟩:=(f E).1 v;obtain⟨k,K,W,q7,q8,q9,O⟩:=rec ((decI d).toNat+(s.length-E)) (by
    unfold decI;by_cases e:d=0
    .have:=q6 e;subst e;simp at hm ⊢;omega
    .have:=b.1;rw[uF om];omega) (decI d) (decI j) E hB (qnq _) bd r.2 B ((Qi g P r.2).1 z)
   refine⟨k,K,W+1, .step G hr H r.2 B q7,?_,q9,O⟩;obtain⟨t,r1,r2,r3⟩:=Zbb.1 q8;refine Zbb.2 ⟨t+1,?_,?_,E,w,r3⟩
   .have:=b.1;unfold decI at r1;split at r1<;>omega
   .have:=b.2.2;unfold decI at r2;split at r2<;>omega
  .refine⟨i,_,0, .stop G hr,?_⟩;obtain⟨k,w,v⟩:=A;obtain⟨t,B,H,z⟩:=Zbb.1 w;have no: ∀(y u:Nat),StD s true true x i y->powD (StD s true true x) u y k->u<t->d<=u+1->(d=0->y≠i)->False:=λy u c1 c2 c3 c4 c5=>by
    refine hr ((Qi D o l).2 ⟨y,c1,(f y).2 ⟨(Qi g P (Zgj x l c1).2).2 ⟨k,Zbb.2 ⟨u,?_,?_,c2⟩,v⟩,c5⟩⟩)
    .unfold decI;split<;>omega
    .have:=b.2.2;unfold decI;split<;>omega
   by_cases e:d=0
   .by_cases Z:k=i
    .subst Z;exact⟨Zbb.2 ⟨0,om,by have:=b.2.2;omega,rfl⟩,v,C⟩
    .obtain⟨u,y,c1,c2,c3,c4⟩:=Zmp z Z;exact(no y u c3 c4 c1 om λ_=>c2).elim
   .have a0:=b.1
    cases t with
    |zero=>omega
    |succ t=>
     obtain⟨y,c1,c2⟩:=z;exact(no y t c1 c2 om om λc=>absurd c e).elim
theorem Zxz{Y}(r:YOK Y){loc:Nat->Bool}{fuel:Nat}(n k:Nat){a:List Nat}{g:St}{c j:List V}{h f:Heap}{l:List Code}{Q:Out->St->Prop}
  (d: ∀K:KT,K .normal n j f->Zc Y loc fuel (l.take k) ⟨c,[],h⟩ (VQ a K)) (e:g=⟨c,[],h⟩) (m:(l.drop k).isEmpty=false) (o:TriL Y (l.drop k) ⟨mk n (a.zip j),[],f⟩ Q):TriL Y l g Q:=
 JO r n k (T:=λK=>Zc Y loc fuel (l.take k) ⟨c,[],h⟩ (VQ a K)) (λK=>rfl) e m (d _ ⟨rfl,o⟩)
theorem ZN0(idw:Nat)(k j o l n:Int)(c:List V)(m:Nat){lo a:Int}(y:BndR lo a)(r u:Int)(f:List V)(t:Nat)(h:Heap)(K:KT)
  (d:K .normal 64 [.p (some (idw,0)),I u, .ts f t none, .lb [I k,U j,U o,U l,U n, .ts c m none,I lo,I a,I r], .lb [I k,U j,U o,U l,U n, .ts c m none,I (decI lo),I (decI a),I r]] h):
  Zc Tryw.Y (Tryw.Y.loc 129) 100 ((flat (ZL ((flat (Zx (post (flat (Za Tryz.f129))))).drop 2))).take 5) ⟨mk 64 (([0,2,3,5]:List Nat).zip [.p (some (idw,0)),I u, .ts f t none, .lb [I k,U j,U o,U l,U n, .ts c m none,I lo,I a,I r]]),[],h⟩ (VQ [0,2,3,5,9] K):=by
 rw[ZHf];obtain⟨z,v,A⟩:=y;have e: ∀x:Int,0<x->x<=8->decI x=wW (x-1):=λx w B=>by
  unfold decI;rw[uF w];exact(VF om om).symm
 have g: ∀x:Int,x<=0->decI x=x:=λx w=>by unfold decI;rw[uE om]
 refine Xr (λc1=>Xr (λc2=> ?_) (λc2=> ?_)) (λc1=>Xr (λc2=> ?_) (λc2=> ?_))
 .rw[<-e lo c1 v,<-e a c2 om];exact d
 .rw[g a c2]at d;rw[<-e lo c1 v];exact d
 .rw[g lo c1]at d;rw[<-e a c2 om];exact d
 .rw[g lo c1,g a c2]at d;exact d
theorem ZN1{s:List UInt8}{idw:Nat}{set}{x:Re}{n lo d:Int}{i:Nat}{a:List Bool}{h}(g:s.length<2 ^ 19)(k:a.length=s.length+1)(m:i<=s.length)(j:WayK s idw h)(hr:WG (.mk 6 set [x] (decI lo) (decI d) n))(K:KT)
  (f:K .normal 64 [.p (some (idw,0)),I i,lst Zl a, .lb [I 6,U set.1,U set.2.1,U set.2.2.1,U set.2.2.2,lst Zd [x],I lo,I d,I n], .lb [I 6,U set.1,U set.2.1,U set.2.2.1,U set.2.2.2,lst Zd [x],I (decI lo),I (decI d),I n],
   .sl (some (h.nx,0)) (s.length+1) (some (s.length+1)) 1] (hnx s (.mk 6 set [x] (decI lo) (decI d) n) lo i a h)):
  Zc Tryw.Y (Tryw.Y.loc 129) 100 (((flat (ZL ((flat (Zx (post (flat (Za Tryz.f129))))).drop 2))).drop 5).take 3) ⟨mk 64 (([0,2,3,5,9]:List Nat).zip [.p (some (idw,0)),I i,lst Zl a, .lb [I 6,U set.1,U set.2.1,U set.2.2.1,U set.2.2.2,lst Zd [x],I lo,I d,I n], .lb [I 6,U set.1,U set.2.1,U set.2.2.1,U set.2.2.2,lst Zd [x],I (decI lo),I (decI d),I n]]),[],h⟩ (VQ [0,2,3,5,9,10] K):=by
 rw[ZHg];obtain⟨F,_,C⟩:=Zid hr g k j;rw[Zm]at C;have l:=XM (.mk 6 set [x] (decI lo) (decI d) n) s a;refine C.mono ?_;rintro v _ ⟨o,rfl⟩;refine⟨_,_,_,_,o,Zf (λc=>slo ⟨⟨om,om⟩,rfl,_,ZM (off:=0+(i:Int).toNat*1) (new:= [V.b false]) F.get (by rw[XD,l];simp;omega),?_⟩) (λc=> ?_)⟩
 .have e:lo=0:=by simpa using c
  rw[hnx,uF e,Ww,uF e]at f;rw[show 0+(i:Int).toNat*1=i from sm,JC _ _ _ om];exact f
 .have e:lo≠0:=by simpa using c
  rw[hnx,uE e]at f;exact f
theorem ZBh{s:List UInt8}{idw:Nat}{set}{x}{n d e:Int}(A:s.length<2 ^ 19)(hx:WG x)(hn:nnS set)(ih:WV s idw x)(b:BndR d e){i:Nat}{a:List Bool}{h}(j:i<=s.length)(H:a.length=s.length+1)(w:WayK s idw h)
  (C: ∃k,StD s true true (.mk 6 set [x] d e n) i k/\At a k):
  ∃(k:Nat) (G:Heap),StD s true true (.mk 6 set [x] d e n) i k/\At a k/\WayK s idw G/\Con Tryv.Y 129 [.p (some (idw,0)), .agg (Zd (.mk 6 set [x] d e n)),I (i:Nat),lst Zl a] h λv h'=>v= I (k:Nat)/\h'=G:=by
 obtain⟨k,G,m',z,q1,q2,q3⟩:=ZSa A H hx hn ih _ d e i h (qnq _) b j w C;refine⟨k,G,q1,q2,q3,Con.wv ?_⟩;clear q1 q2 q3 C;rw[Zm];refine Zv Tryw.Yok (fn:=Tryz.f129) ?_;refine Zh Tryw.Yok 64 (λK=>ZHd idw 6 set.1 set.2.1 set.2.2.1 set.2.2.2 (row Zd [x]) 1 d e n (i:Nat) (row Zl a) a.length h K) rfl ⟨rfl,?_⟩;refine ZN [0,2,3,5] [0,2,3,5,8] (λm vs r=> ∃(d e:Int) (i:Nat),vs= [.p (some (idw,0)),I (i:Nat),lst Zl a, .lb [I 6,U set.1,U set.2.1,U set.2.2.1,U set.2.2.2,lst Zd [x],I d,I e,I n]]/\
  Ag s idw set x n a m d e i r k G/\BndR d e/\i<=s.length/\WayK s idw r) m' ZA ⟨d,e,i,rfl,z,b,j,w⟩ ?_
 clear z b j w;rintro m vs r ⟨d,e,i,rfl,z,b,j,w⟩;refine JO Tryw.Yok 64 2 (λK=>ZHe idw 6 set.1 set.2.1 set.2.2.1 set.2.2.2 (row Zd [x]) 1 d e n (i:Nat) (row Zl a) a.length r K) rfl kr ?_;refine Zf (λg=>⟨rfl,Zun kr ?_⟩) (λg=>Zuq λa1 ht=>Vk [2] ht kr rfl rfl rfl ?_)
 .have g:e≠0:=by simpa using g
  have bd:=b.dec g;have f:WG (.mk 6 set [x] (decI d) (decI e) n):=ZDa hx hn bd;refine Zxz Tryw.Yok 64 5 (λK hk=>ZN0 idw 6 set.1 set.2.1 set.2.2.1 set.2.2.2 (row Zd [x]) 1 b n (i:Nat) (row Zl a) a.length r K hk) rfl kr ?_;refine Zxz Tryw.Yok 64 3 (λK hk=>ZN1 A H j w f K hk) rfl kr ?_;have F:=Zmo (lo:=d) (i:=i) (Zid f A H w).1;have E:=Zmn s (.mk 6 set [x] (decI d) (decI e) n) d i a;refine Zcf [r.nx] [0,2,3,5,9,10] kr (.cons _ _ _ _ (.same _) (.cons _ _ _ _ (.same _) (.cons _ _ _ _ (.same _) (.cons _ _ _ _ (.same _) (.cons _ _ _ _ (.same _) (.cons _ _ _ _ (.frz _ _ (frzB (c:=some (s.length+1)) _ F.get E.symm sm)) .nil)))))) ?_;have Z:=Zxy (lo:=d) (i:=i) w (Zid f A H w).1;obtain⟨F2,a2,O⟩:=Zid hx A E Z;change TriL _ _ ⟨_,_,hnz s (.mk 6 set [x] (decI d) (decI e) n) d i a r⟩ _;have hrl:=XM x s (Ww s (.mk 6 set [x] (decI d) (decI e) n) d i a);refine Zn Tryw.Yok (λK=>ZHh idw 6 set.1 set.2.1 set.2.2.1 set.2.2.2 (row Zd [x]) 1 d e n (i:Nat) (row Zl a) a.length (decI d) (decI e) (row Zl (Ww s (.mk 6 set [x] (decI d) (decI e) n) d i a)) (Ww s (.mk 6 set [x] (decI d) (decI e) n) d i a).length (hnz s (.mk 6 set [x] (decI d) (decI e) n) d i a r) K) rfl ?_;have o:Zb (rh x s (Ww s (.mk 6 set [x] (decI d) (decI e) n) d i a) (hnz s (.mk 6 set [x] (decI d) (decI e) n) d i a r)) (hnz s (.mk 6 set [x] (decI d) (decI e) n) d i a r).nx (0+((i:Nat):Int).toNat*1) 1=some [.b (ZX x s (Ww s (.mk 6 set [x] (decI d) (decI e) n) d i a))[i]]:=by
   rw[Zs F2.get,show 0+((i:Nat):Int).toNat*1=i from sm,Zcg _ om]
  have D:=Zgi (l:=ZX x s (Ww s (.mk 6 set [x] (decI d) (decI e) n) d i a)) (i:=i) om
  cases z with
  |zero=>exact absurd rfl g
  |stop _ B=>
   rw[D]at B;obtain⟨P,N,W,t,u,L⟩:=x;rw[Zm]at O;refine⟨⟨om,om⟩,_,_,_,_,_,_,_,_,_,_,_,QO P N W t u L,O.mono ?_⟩;rintro v _ ⟨e1,rfl⟩;refine⟨_,_,_,_,e1,slo ⟨⟨om,om⟩,rfl,_,o,Zf (λc=>absurd c B) (λc=> ?_)⟩⟩;exact ZZ rr rfl (.now ⟨rfl,rfl⟩)
  | @step m _ _ _ _ k' hB _ _ _ y hC X a0 z=>
   rw[D]at y;obtain⟨P,N,W,t,u,L⟩:=x;rw[Zm]at O hC;refine⟨⟨om,om⟩,_,_,_,_,_,_,_,_,_,_,_,QO P N W t u L,O.mono ?_⟩;rintro v _ ⟨e1,rfl⟩;refine⟨_,_,_,_,e1,slo ⟨⟨om,om⟩,rfl,_,o,Zf (λc=> ?_) (λc=>absurd y (by rw[c];simp))⟩⟩;refine⟨⟨om,om⟩,_,_,_,_,_,_,_,_,_,_,_,QO P N W t u L,?_⟩;refine hC.vw.mono λv h' ⟨e3,e4⟩=>⟨_,e3,Xr (λc=>om) (λc=> ?_)⟩;exact⟨rfl,m,om,decI d,decI e,k',rfl,by rw[e4];exact z,bd,X,by rw[e4];exact a0⟩
 .have g:e=0:=by simpa using g
  subst g;refine Zo Tryw.Yok (λK=>ZHi (i:Nat) r K) rfl ?_
  cases z with
  |zero=>exact finC rr rfl (.now ⟨rfl,rfl⟩)
  |stop g=>exact absurd rfl g
  |step g=>exact absurd rfl g
theorem ZDb{a k0 p0 p1 p2 p3 c n0 d e m0 i2 f n3 h}(K):CP Tryv.Y 92 (pre (flat (Za Tryz.f92))) (.p (some (a,0))::.agg (R9 k0 p0 p1 p2 p3 c n0 none d e m0)::I i2::J f n3 none::Rp 114) h [0,2,3,5,15] K=(K .normal 118 [.p (some (a,0)),I i2,J f n3 none, .lb (R9 k0 p0 p1 p2 p3 c n0 none d e m0), .b (k0==(5:Int))] h):=kr
theorem ZN2{a k0 p0 p1 p2 p3 c n0 d e m0 i2 f n3 h}(K):CP Tryv.Y 92 (pre (flat (QU (post (flat (Za Tryz.f92)))))) (MZ 118 [0,2,3,5,15] [.p (some (a,0)),I i2,J f n3 none,.lb (R9 k0 p0 p1 p2 p3 c n0 none d e m0),.b true]) h [0,2,3,5,9] K=(K .normal 118 [.p (some (a,0)),I i2,J f n3 none, .lb (R9 k0 p0 p1 p2 p3 c n0 none d e m0),I 0] h):=kr
theorem ZN3{a k0 p0 p1 p2 p3 d n0 f g m0 i2 e n3 x9 h}(K):CP Tryv.Y 92 (flat (Zx (post (flat (QU (post (flat (Za Tryz.f92)))))))) (MZ 118 [0,2,3,5,9] [.p (some (a,0)),I i2,J e n3 none,.lb (R9 k0 p0 p1 p2 p3 d n0 none f g m0),I x9]) h [0,2,3,5,8,9] K=(If (ltI x9 n0) ((0<=x9/\x9<n0)/\ ∃b c i j l m n o q r s,Zr 9 (List.drop (x9.toNat*9) d)=some (R9 b c i j l m n o q r s)/\Con Tryv.Y 91 [.p (some (a,0)),.agg (R9 b c i j l m n o q r s),J e n3 none] h fun(v:V) (k:Heap)=> ∃t u w,v=J t u w/\(0<=i2/\i2<u)/\ ∃x,Zr 1 (List.drop (i2.toNat*1) t)=some [.b x]/\If x ((0<=x9/\x9<n0)/\ ∃y z A H C N L E D F G,Zr 9 (List.drop (x9.toNat*9) d)=some (R9 y z A H C N L E D F G)/\Con Tryv.Y 92 [.p (some (a,0)),.agg (R9 y z A H C N L E D F G),I i2,J e n3 none] k fun(v:V) (k:Heap)=> ∃B,v=I B/\K .ret 118 [.p (some (a,0)),I i2,J e n3 none, .lb (R9 k0 p0 p1 p2 p3 d n0 none f g m0),I B,I x9] k) (K .normal 118 [.p (some (a,0)),I i2,J e n3 none, .lb (R9 k0 p0 p1 p2 p3 d n0 none f g m0),Ud,I (wW (x9+(1:Int)))] k)) (K (.exit 0) 118 [.p (some (a,0)),I i2,J e n3 none, .lb (R9 k0 p0 p1 p2 p3 d n0 none f g m0),Ud,I x9] h)):=kr
theorem ZN4{a k0 p0 p1 p2 p3 c n0 d e m0 i2 f n3 h}(K):CP Tryv.Y 92 (flat (ZT (post (flat (Za Tryz.f92))))) (MZ 118 [0,2,3,5,15] [.p (some (a,0)),I i2,J f n3 none,.lb (R9 k0 p0 p1 p2 p3 c n0 none d e m0),.b false]) h [0,2,3,5] K=(K .normal 118 [.p (some (a,0)),I i2,J f n3 none, .lb (R9 k0 p0 p1 p2 p3 c n0 none d e m0)] h):=kr
theorem ZN5{a k0 p0 p1 p2 p3 d n0 e f m0 i2 g n3 h}(K):CP Tryv.Y 92 (pre ((post (flat (Za Tryz.f92))).drop 1)) (MZ 118 [0,2,3,5] [.p (some (a,0)),I i2,J g n3 none,.lb (R9 k0 p0 p1 p2 p3 d n0 none e f m0)]) h [0,2,3,5,8,58] K=(Con Tryv.Y 91 [.p (some (a,0)),.agg (R9 k0 p0 p1 p2 p3 d n0 none e f m0),J g n3 none] h fun(v:V) (k:Heap)=> ∃b c i,v=J b c i/\(0<=i2/\i2<c)/\ ∃j,Zr 1 (List.drop (i2.toNat*1) b)=some [.b j]/\If (!j) (K .ret 118 [.p (some (a,0)),I i2,J g n3 none, .lb (R9 k0 p0 p1 p2 p3 d n0 none e f m0),I (-1),Ud] k) (If (k0==(1:Int)) (K .ret 118 [.p (some (a,0)),I i2,J g n3 none, .lb (R9 k0 p0 p1 p2 p3 d n0 none e f m0),I (wW (i2+(1:Int))),Ud] k) (K .normal 118 [.p (some (a,0)),I i2,J g n3 none, .lb (R9 k0 p0 p1 p2 p3 d n0 none e f m0),Ud, .b (k0==(4:Int))] k))):=kr
theorem ZN6{a k0 p0 p1 p2 p3 c n0 d e m0 i2 f n3 h}(K):CP Tryv.Y 92 (pre (flat (QU (post ((post (flat (Za Tryz.f92))).drop 1))))) (MZ 118 [0,2,3,5,58] [.p (some (a,0)),I i2,J f n3 none,.lb (R9 k0 p0 p1 p2 p3 c n0 none d e m0),.b true]) h [0,2,3,5,10] K=(K .normal 118 [.p (some (a,0)),I i2,J f n3 none, .lb (R9 k0 p0 p1 p2 p3 c n0 none d e m0),I 0] h):=kr
theorem ZN7{b k0 p0 p1 p2 p3 d k f g m0 i2 e n3 a h}(K):CP Tryv.Y 92 (flat (Zx (post (flat (QU (post ((post (flat (Za Tryz.f92))).drop 1))))))) (MZ 118 [0,2,3,5,10] [.p (some (b,0)),I i2,J e n3 none,.lb (R9 k0 p0 p1 p2 p3 d k none f g m0),I a]) h [0,2,3,5,10] K=(If (ltI a k) (((0:Int)<=wW (a+(1:Int))/\wW (a+(1:Int))<=(k:Int))/\(0<=a/\a<k)/\ ∃c i j l m n o q r s t,Zr 9 (List.drop (a.toNat*9) d)=some (R9 c i j l m n o q r s t)/\ ∃u w x y,(Con Tryv.Y 91 [.p (some (b,0)),.agg [I 4,U 0,U 0,U 0,U 0,J (List.take ((k-(wW (a+(1:Int))).toNat)*(9:Nat)) (List.drop ((wW (a+(1:Int))).toNat*9) d)) (k-(wW (a+(1:Int))).toNat) none,I 0,I 0,I 0],J e n3 none] h fun(v:V) (A:Heap)=>v=J u w x/\A=y)/\ ∃z B,(Con Tryv.Y 92 [.p (some (b,0)),.agg (R9 c i j l m n o q r s t),I i2,J u w x] y fun(v:V) (A:Heap)=>v=I z/\A=B)/\K .normal 118 [.p (some (b,0)),I z,J e n3 none, .lb (R9 k0 p0 p1 p2 p3 d k none f g m0),I (wW (a+(1:Int)))] B) (K (.exit 2) 118 [.p (some (b,0)),I i2,J e n3 none, .lb (R9 k0 p0 p1 p2 p3 d k none f g m0),I a] h)):=kr
theorem ZN8{i2 h}(K):CP Tryv.Y 92 ((post (flat (QU (post ((post (flat (Za Tryz.f92))).drop 1))))).drop 1) (MZ 118 [2] [I i2]) h [0,2,3,5,8] K=(K .ret 118 [Ud,I i2,Ud,Ud,I i2] h):=kr
theorem ZN9{a k0 p0 p1 p2 p3 c n0 d e m0 i2 f n3 h}(K):CP Tryv.Y 92 (flat (ZT (post ((post (flat (Za Tryz.f92))).drop 1)))) (MZ 118 [0,2,3,5,58] [.p (some (a,0)),I i2,J f n3 none,.lb (R9 k0 p0 p1 p2 p3 c n0 none d e m0),.b false]) h [0,2,3,5] K=(K .normal 118 [.p (some (a,0)),I i2,J f n3 none, .lb (R9 k0 p0 p1 p2 p3 c n0 none d e m0)] h):=kr
theorem ZHj{a k0 p0 p1 p2 p3 b w e f m0 i2 d n3 h}(K):CP Tryv.Y 92 ((post ((post (flat (Za Tryz.f92))).drop 1)).drop 1) (MZ 118 [0,2,3,5] [.p (some (a,0)),I i2,J d n3 none,.lb (R9 k0 p0 p1 p2 p3 b w none e f m0)]) h [8] K=(If (k0==(6:Int)) (Con Tryv.Y 129 [.p (some (a,0)),.agg (R9 k0 p0 p1 p2 p3 b w none e f m0),I i2,J d n3 none] h fun(v:V) (k:Heap)=> ∃c,v=I c/\K .ret 118 [I c] k) (If (k0==(7:Int)) (((0:Int)<=(0:Int)/\(0:Int)<(w:Int))/\ ∃c g i j l m n o q r s,Zr 9 b=some (R9 c g i j l m n o q r s)/\Con Tryv.Y 92 [.p (some (a,0)),.agg (R9 c g i j l m n o q r s),I i2,J d n3 none] h fun(v:V) (k:Heap)=> ∃t,v=I t/\If (ltI 0 m0) (((0:Int)<=m0/\m0<(↑(10:Nat):Int))/\ ∃u,Zi k a ((0:Nat)+(1:Nat)+m0.toNat*2) [I i2,I t]=some u/\K .ret 118 [I t] u) (K .ret 118 [I t] k)) (K .ret 118 [I i2] h))):=kr
def grpRe:Re->Prop
 | .mk k _ a _ _ n=>(k=7->n<=9)/\grpRes a
where
 grpRes:List Re->Prop
  | []=>True
  |r::l=>grpRe r/\grpRes l
def catE(l:List Re):Re:= .mk 4 (0,0,0,0) l 0 0 0
structure WGs(l:List Re):Prop where
 wf:wfRe.wfRes 1000 l
 nn:nnRe.nnRes l
 gk:gkRe.gkRes l
theorem WGs.tl{x:Re}{l}(w:WGs (x::l)):WG x/\WGs l:=by
 obtain⟨a,d,c⟩:=w;rw[wfRe.wfRes]at a;rw[nnRe.nnRes]at d;rw[gkRe.gkRes]at c;exact⟨⟨a.1,d.1,c.1⟩,⟨a.2,d.2,c.2⟩⟩
theorem WGs.cat{l:List Re}(w:WGs l)(a:l.length<=1000):WG (catE l):=
 ⟨by unfold catE;rw[wfRe];exact⟨λh=>om,λh=>absurd rfl h,a,w.wf⟩,by unfold catE;rw[nnRe];exact⟨Zww,w.nn⟩,by unfold catE;rw[gkRe];exact⟨λh=>om,w.gk⟩⟩
theorem Zx0{s}{l}{i j:Nat} :StD s true true (catE l) i j↔StD.catD s true true l i j:=by
 unfold catE;rw[StD];exact Iff.rfl
inductive AltR (s:List UInt8) (idw:Nat) (allow:List Bool):List Re->Nat->Heap->Nat->Heap->Prop
 |hit {x:Re} {l:List Re} {i:Nat} {h:Heap} {k:Nat} {h1:Heap} :At (ZX x s allow) i->Con Tryv.Y 92 [.p (some (idw,0)), .agg (Zd x),I i,lst Zl allow] (hz x s allow h) (fun v h'=>v= I k∧h'=h1)->AltR s idw allow (x::l) i h k h1
 |miss {x:Re} {l:List Re} {i:Nat} {h:Heap} {k:Nat} {h1:Heap} : ¬At (ZX x s allow) i->AltR s idw allow l i (hz x s allow h) k h1->AltR s idw allow (x::l) i h k h1
theorem Zx1{s:List UInt8}{idw:Nat}{a:List Bool}(u:s.length<2 ^ 19)(g:a.length=s.length+1){i:Nat}(j:i<=s.length): ∀(l:List Re),WGs l->(∀x∈l,WV s idw x)-> ∀h,WayK s idw h->(∃k,StD.altD s true true l i k/\At a k)->
  ∃(k:Nat) (d:Heap),AltR s idw a l i h k d/\StD.altD s true true l i k/\At a k/\WayK s idw d
 | [],_,_,h,_,⟨k,c,_⟩=>by rw[StD.altD]at c;exact c.elim
 |x::l,w,v,h,A,⟨k,c,f⟩=>by
  obtain⟨o,B⟩:=w.tl;have e:=(Zie o u g A).1;by_cases hr:At (ZX x s a) i
  .obtain⟨k,d,n,m,r,t⟩:=v x sm i a _ j g e ((Qi o g j).1 hr);exact⟨k,d, .hit hr t,by rw[StD.altD];exact .inl n,m,r⟩
  .rw[StD.altD]at c;rcases c with c|c
   .exact absurd ((Qi o g j).2 ⟨k,c,f⟩) hr
   .obtain⟨k,d,n,m,r,t⟩:=Zx1 u g j l B (λy z=>v y (by simp[z])) _ e ⟨k,c,f⟩;exact⟨k,d, .miss hr n,by rw[StD.altD];exact .inr m,r,t⟩
inductive CatR (s:List UInt8) (idw:Nat) (allow:List Bool):List Re->Nat->Heap->Nat->Heap->Prop
 |nil {i:Nat} {h:Heap} :CatR s idw allow [] i h i h
 |cons {x:Re} {l:List Re} {i:Nat} {h:Heap} {k':Nat} {hB:Heap} {k:Nat} {h1:Heap} :Con Tryv.Y 92 [.p (some (idw,0)), .agg (Zd x),I i,lst Zl (ZX (catE l) s allow)] (hz (catE l) s allow h) (fun v h'=>v= I k'∧h'=hB)->
   k'<=s.length->WayK s idw hB->CatR s idw allow l k' hB k h1->CatR s idw allow (x::l) i h k h1
theorem Zx2{s:List UInt8}{idw:Nat}{a:List Bool}(z:s.length<2 ^ 19)(m:a.length=s.length+1): ∀(l:List Re),l.length<=1000->WGs l->(∀x∈l,WV s idw x)-> ∀(i:Nat) h,i<=s.length->WayK s idw h->(∃k,StD.catD s true true l i k/\At a k)->
  ∃(k:Nat) (n:Heap),CatR s idw a l i h k n/\StD.catD s true true l i k/\At a k/\WayK s idw n
 | [],_,_,_,i,h,_,w,⟨k,g,d⟩=>by
  rw[StD.catD]at g;subst g;exact⟨i,h, .nil,by rw[StD.catD],d,w⟩
 |x::l,f,G,E,i,h,u,w,⟨k,g,d⟩=>by
  obtain⟨hx,C⟩:=G.tl;have e:l.length<=1000:=by simp at f;omega
  have o:=C.cat e;have r:=(Zie o z m w).1;rw[StD.catD]at g;obtain⟨y,j,t⟩:=g;have v:=Zgj x u j;obtain⟨B,W,A,H,D,N⟩:=E x sm i (ZX (catE l) s a) _ u (XM _ _ _) r ⟨y,j,(Qi o m v.2).2 ⟨k,Zx0.2 t,d⟩⟩;have c:=Zgj x u A;obtain⟨L,K,F⟩:=(Qi o m c.2).1 H;obtain⟨O,n,r1,Z,X,P⟩:=Zx2 z m l e C (λy v=>E y (by simp[v])) B W c.2 D ⟨L,Zx0.1 K,F⟩;exact⟨O,n, .cons N c.2 D r1,by rw[StD.catD];exact⟨B,A,Z⟩,X,P⟩
theorem Zoz: ∀ {l:List Re},WGs l-> ∀x∈l,WG x
 | [],_,x,a=>by cases a
 |y::l,w,x,a=>by
  rcases qu.1 a with e|a
  .exact e▸w.tl.1
  .exact Zoz w.tl.2 x a
theorem Zq9: ∀ {l:List Re} (i:Nat),WGs l->WGs (l.drop i)
 |l,0,w=>by rw[ql];exact w
 | [],i+1,w=>by rw[List.drop_nil];exact w
 |y::l,i+1,w=>by rw[List.drop_succ_cons];exact Zq9 i w.tl.2
abbrev ARe(idw:Nat)(k:Int)(set:Set4)(c:List Re)(e d n:Int)(i:Int)(a:List Bool):List V:= [.p (some (idw,0)),I i,lst Zl a, .lb [I k,U set.1,U set.2.1,U set.2.2.1,U set.2.2.2,lst Zd c,I e,I d,I n]]
theorem Zmq{a:List Re}{i:Nat}(k:i<a.length): ∃(f:Int) (e:Set4) (g:List Re) (d c j:Int),a[i]= .mk f e g d c j/\Zr 9 (List.drop ((i:Int).toNat*9) (row Zd a))=some [I f,U e.1,U e.2.1,U e.2.2.1,U e.2.2.2,lst Zd g,I d,I c,I j]:=by
 have h:=Zp9 k;generalize a[i]=x at h;obtain⟨f,e,g,d,c,j⟩:=x;rw[Zm]at h;exact⟨f,e,g,d,c,j,rfl,h⟩
theorem Zs4(a:List Re){i:Nat}(d:i<a.length)(c:a.length<2 ^ 20):V.ts (List.take ((a.length-(wW ((i:Int)+1)).toNat)*9) (List.drop ((wW ((i:Int)+1)).toNat*9) (row Zd a))) (a.length-(wW ((i:Int)+1)).toNat) none=lst Zd (a.drop (i+1)):=by
 rw[Ze om,qdq,Zd4 ZW,qt (by rw[Xh ZW,vD];omega),<-vD]
theorem Zx3{s:List UInt8}{idw:Nat}{k:Nat}{set:Set4}{a:List Re}{X K n:Int}(Z:s.length<2 ^ 19)(hl:a.length<=1000)(hw:WGs a){i:Nat}{d:List Bool}{h D:Heap}(a0:i<=s.length)(ha:d.length=s.length+1)(y:WayK s idw h)
  (g:AltR s idw d a i h k D):Con Tryv.Y 92 [.p (some (idw,0)), .agg (Zd (.mk 5 set a X K n)),I i,lst Zl d] h λv h'=>v= I k/\h'=D:=by
 rw[Zm];refine Zv Tryv.Yok (fn:=Tryz.f92) ?_;refine Zh Tryv.Yok 118 ZDb rfl ⟨rfl,?_⟩;refine Xy 118 [0,2,3,5,8] (b:=true) kr kr kr ?_;refine Zh Tryv.Yok 118 ZN2 rfl ⟨rfl,?_⟩;refine ZN [0,2,3,5,9] [0,2,3,5,8,9] (λm W B=> ∃j:Nat,W=ARe idw 5 set a X K n (i:Nat) d++ [I (j:Nat)]/\AltR s idw d (a.drop j) i B k D/\WayK s idw B/\m=a.length-j) a.length ZA ⟨0,rfl,by rw[ql];exact g,y,rfl⟩ ?_;clear g y;rintro m W B ⟨j,rfl,g,y,rfl⟩;refine Zn Tryv.Yok ZN3 rfl ?_;refine Zq (λt=> ?_) (λt=>by rw[List.drop_eq_nil_of_le om]at g;cases g);obtain⟨O,N,P,w,x,L,G,e⟩:=Zmq t;have A:WG a[j]:=Zoz hw _ (qe t);rw[Zec t]at g;obtain⟨z,C⟩:=Zie A Z ha y;have hrl:=XM a[j] s d;have u:=Zgi (l:=ZX a[j] s d) (i:=i) om;have f:=QX (ZX a[j] s d) (i:=i) om;have H:(0:Int)<=(i:Int)/\(i:Int)<((ZX a[j] s d).length:Nat):=⟨om,om⟩
 cases g with
 |hit o F=>
  rw[u]at o;rw[o]at f;rw[show Zd a[j]=Zd (.mk O N P w x L) by rw[G],Zm]at C F;refine⟨Zu t,_,_,_,_,_,_,_,_,_,_,_,e,C.mono ?_⟩;rintro v _ ⟨E,rfl⟩;refine⟨_,_,_,E,H,_,f,Zf (λ_=>⟨Zu t,_,_,_,_,_,_,_,_,_,_,_,e,F.mono ?_⟩) (λc=>by cases c)⟩;rintro v _ ⟨e2,rfl⟩;exact⟨_,e2,ZU rfl (ZZ rr rfl (.now ⟨rfl,rfl⟩))⟩
 |miss r g=>
  rw[u]at r;rw[Bool.not_eq_true]at r;rw[r]at f;rw[show Zd a[j]=Zd (.mk O N P w x L) by rw[G],Zm]at C;refine⟨Zu t,_,_,_,_,_,_,_,_,_,_,_,e,C.mono ?_⟩;rintro v _ ⟨E,rfl⟩;refine⟨_,_,_,E,H,_,f,Zf (λc=>by cases c) (λ_=> ?_)⟩;exact⟨rfl,a.length-(j+1),om,j+1,by rw[Ze om];rfl,g,z,rfl⟩
theorem hcut{s:List UInt8}{l:List Int}(c:l.length=20){m:Nat}(B:m<=9)(a b:Int): ∃d:List Int,d.length=20/\splice (.s s::l.map (V.i .i64)) (0+1+m*2) [I a,I b]= .s s::d.map (V.i .i64):=by
 refine⟨(l.set (m*2) a).set (m*2+1) b,by simp[c],?_⟩
 match l,c with
 | [F,f,j,D,h,o,g,E,n,u,A,t,z,x,w,C,r,k,y,v],_=>
  have:m=0\/m=1\/m=2\/m=3\/m=4\/m=5\/m=6\/m=7\/m=8\/m=9:=om;rcases this with e|e|e|e|e|e|e|e|e|e<;>subst e<;>rfl
theorem Zs5{s:List UInt8}{idw:Nat}{k:Int}{set}{a:List Re}{z t n:Int}(hs:s.length<2 ^ 19)(k5:k≠5)(hw:WG (.mk k set a z t n))(hg:k=7->n<=9)(ih: ∀x∈a,WV s idw x):WV s idw (.mk k set a z t n):=by
 intro i f h u ha hW E;have N:=hw.wf;have a2:=hw.nn;have a0:=hw.gk;rw[wfRe]at N;rw[nnRe]at a2;rw[gkRe]at a0;have a4:WGs a:=⟨N.2.2.2,a2.2,a0.2⟩;have hl:a.length<=1000:=N.2.2.1;obtain⟨g,C⟩:=Zie hw hs ha hW;have hrl:=XM (.mk k set a z t n) s f;have a5:=(Zgi (l:=ZX (.mk k set a z t n) s f) (i:=i) om).1 ((Qi hw ha u).2 E);have A:=QX (ZX (.mk k set a z t n) s f) (i:=i) om;rw[a5]at A;have bi:(0:Int)<=((i:Nat):Int)/\((i:Nat):Int)<((ZX (.mk k set a z t n) s f).length:Nat):=⟨om,om⟩;generalize hz (.mk k set a z t n) s f h=L at g C;generalize ZX (.mk k set a z t n) s f=R at C A bi;clear hrl a5;rw[Zm]at C ⊢;have start: ∀ {Q:V->Heap->Prop},
   (k=1->AfterZ Q (I ((i+1:Nat):Int)) L)->
   (k≠1->TriL Tryv.Y (post ((post (flat (Za Tryz.f92))).drop 1)) ⟨mk 118 ([0,2,3,5,8,58].zip (ARe idw k set a z t n (i:Nat) f++ [.undef, .b (k==4)])),[],L⟩ (FinS Tryv.Y Tryz.f92 (AfterZ Q)))->
   Con Tryv.Y 92 [.p (some (idw,0)), .agg [I k,U set.1,U set.2.1,U set.2.2.1,U set.2.2.2,lst Zd a,I z,I t,I n],I (i:Nat),lst Zl f] h Q:=by
  intro Q K W;refine Zv Tryv.Yok (fn:=Tryz.f92) ?_;refine Zh Tryv.Yok 118 ZDb rfl ⟨rfl,?_⟩;rw[show(k==(5:Int))=false by simpa using k5];refine Xy 118 [0,2,3,5] (b:=false) kr kr kr ?_;refine Zn Tryv.Yok ZN4 rfl ⟨rfl,?_⟩;refine Zh Tryv.Yok 118 ZN5 rfl (C.mono ?_);rintro v _ ⟨e1,rfl⟩;refine⟨_,_,_,e1,bi,_,A,Zf (λc=>by cases c) (λ_=>Zf (λc=> ?_) (λc=>⟨rfl,W (by simpa using c)⟩))⟩;refine ZZ rr rfl ?_;rw[Ze om];exact K (by simpa using c)
 by_cases k1:k=1
 .refine⟨i+1,L,?_,?_,g,start (λ_=> .now ⟨rfl,rfl⟩) (λc=>absurd k1 c)⟩
  all_goals
   obtain⟨y,X,h3⟩:=E;have P:=X;rw[StD,uE om,uF k1]at X;obtain⟨c,_,_,rfl⟩:=X
   first|exact P|exact h3
 by_cases k4:k=4
 .subst k4;obtain⟨y,r,D⟩:=E;have F: ∀j,StD s true true (.mk 4 set a z t n) i j↔StD.catD s true true a i j:=λj=>by rw[StD];exact Iff.rfl
  obtain⟨G,h1,O,K,W,q3⟩:=Zx2 hs ha a hl a4 ih i L u g ⟨y,(F y).1 r,D⟩;refine⟨G,h1,(F G).2 K,W,q3,start (λc=>om) (λ_=> ?_)⟩;clear K W q3 r D start C A bi F;refine Xy 118 [0,2,3,5,8] (b:=true) kr kr kr ?_;refine Zh Tryv.Yok 118 ZN6 rfl ⟨rfl,?_⟩;refine ZN [0,2,3,5,10] [0,2,3,5,10] (λm vs hh=> ∃j i:Nat,vs=ARe idw 4 set a z t n (i:Nat) f++ [I (j:Nat)]/\CatR s idw f (a.drop j) i hh G h1/\i<=s.length/\j<=a.length/\WayK s idw hh/\m=a.length-j) a.length ZA ⟨0,i,rfl,by rw[ql];exact O,u,om,g,rfl⟩ ?_;clear O g u;rintro m vs hh ⟨j,i,rfl,O,u,b0,hW,rfl⟩;refine Zn Tryv.Yok ZN7 rfl ?_;refine Zq (λhj=> ?_) (λhj=> ?_)
  .obtain⟨xk,H,xl,o,w,xn,hx,a3⟩:=Zmq hj;rw[Zec hj]at O;have a9:WG (catE (a.drop (j+1))):=(Zq9 (j+1) a4).cat (by rw[vD];omega);obtain⟨_,C⟩:=Zie a9 hs ha hW
   cases O with
   | @cons _ _ _ _ k' hB _ _ hC a6 a8 O=>
   rw[show Zd a[j]=Zd (.mk xk H xl o w xn) by rw[hx],Zm]at hC;unfold catE at C;rw[Zm]at C;simp only[Zs4 a hj (show a.length<2 ^ 20 from om)];refine⟨?_,Zu hj,_,_,_,_,_,_,_,_,_,_,_,a3,_,_,_,_,C,_,_,hC,?_⟩
   .rw[Ze om];exact⟨om,om⟩
   .exact⟨rfl,a.length-(j+1),om,j+1,k',by rw[Ze om];rfl,O,a6,om,a8,rfl⟩
  .have he:j=a.length:=om;subst he;rw[List.drop_length]at O;cases O;refine Zj [2] ?_;refine Zn Tryv.Yok ZN8 rfl ?_;exact ZZ rr rfl (.now ⟨rfl,rfl⟩)
 have B: ∀ {Q:V->Heap->Prop},(k=6->Con Tryv.Y 129 [.p (some (idw,0)), .agg [I k,U set.1,U set.2.1,U set.2.2.1,U set.2.2.2,lst Zd a,I z,I t,I n],I (i:Nat),lst Zl f] L λv Z=> ∃j:Int,v= I j/\Q (I j) Z)->
   (k=7-> ∃(xk:Int) (H:Set4) (xl:List Re) (o w xn:Int),a= [.mk xk H xl o w xn]/\Con Tryv.Y 92 [.p (some (idw,0)), .agg [I xk,U H.1,U H.2.1,U H.2.2.1,U H.2.2.2,lst Zd xl,I o,I w,I xn],I (i:Nat),lst Zl f] L λv Z=> ∃j:Int,v= I j/\
    (0<n-> ∃X,Zi Z idw (0+1+n.toNat*2) [I (i:Nat),I j]=some X/\Q (I j) X)/\(¬0<n->Q (I j) Z))->
   (k≠6->k≠7->Q (I (i:Nat)) L)->Con Tryv.Y 92 [.p (some (idw,0)), .agg [I k,U set.1,U set.2.1,U set.2.2.1,U set.2.2.2,lst Zd a,I z,I t,I n],I (i:Nat),lst Zl f] h Q:=by
  intro Q c6 c7 c8;refine start (λc=>absurd c k1) (λ_=> ?_);rw[show(k==(4:Int))=false by simpa using k4];refine Xy 118 [0,2,3,5] (b:=false) kr kr kr ?_;refine Zn Tryv.Yok ZN9 rfl ⟨rfl,?_⟩;refine Zo Tryv.Yok ZHj rfl ?_;refine Zf (λc=> ?_) (λc=>Zf (λd=> ?_) (λd=> ?_))
  .exact(c6 (by simpa using c)).mono λv Z ⟨j,e,p1⟩=>⟨j,e,finC rr rfl (.now p1)⟩
  .have k7:k=7:=by simpa using d
   obtain⟨xk,H,xl,o,w,xn,rfl,hC⟩:=c7 k7;have a7:=hg k7;refine⟨⟨om,sm⟩,_,_,_,_,_,_,_,_,_,_,_,QO xk H xl o w xn,hC.mono λv Z ⟨j,e,p1,p2⟩=>⟨j,e,Xr (λhp=> ?_) (λhp=> ?_)⟩⟩
   .obtain⟨X,r1,r2⟩:=p1 hp;exact⟨⟨om,om⟩,X,r1,finC rr rfl (.now r2)⟩
   .exact finC rr rfl (.now (p2 om))
  .exact finC rr rfl (.now (c8 (by simpa using c) (by simpa using d)))
 by_cases k6:k=6
 .subst k6;obtain⟨b1,b2,b3,b4⟩:=N.1 rfl;obtain⟨x,rfl⟩:=List.length_eq_one_iff.1 b4;obtain⟨G,h1,K,W,q3,q4⟩:=ZBh (n:=n) hs (Zoz a4 x sm) a2.1 (ih x sm) ⟨b1,b2,b3⟩ u ha g E;rw[Zm]at q4;exact⟨G,h1,K,W,q3,B (λ_=>q4.mono λv Z ⟨e1,e2⟩=>⟨_,e1,rfl,e2⟩) (λc=>om) (λc=>absurd rfl c)⟩
 by_cases k7:k=7
 .subst k7;obtain⟨x,rfl⟩:=List.length_eq_one_iff.1 (a0.1 rfl);obtain⟨y,r,D⟩:=E;have a1: ∀j,StD s true true (.mk 7 set [x] z t n) i j↔StD s true true x i j:=λj=>by rw[StD];exact Iff.rfl
  obtain⟨G,h1,K,W,q3,q4⟩:=ih x sm i f L u ha g ⟨y,(a1 y).1 r,D⟩;obtain⟨w1,l,w2,w3⟩:=q3;obtain⟨xk,H,xl,o,w,xn⟩:=x;rw[Zm]at q4;by_cases hp:0<n
  .have a7:=hg rfl;obtain⟨l',e1,e2⟩:=hcut (s:=s) w2 (m:=n.toNat) om (i:Nat) (G:Nat);refine⟨G,h1.set idw (some (.arr (.s s::l'.map (V.i .i64)) true)),(a1 G).2 K,W,⟨by rw[Heap.nx_set];exact w1,l',e1,by rw[qc,uF rfl]⟩,B (λc=>om) (λ_=>⟨_,_,_,_,_,_,rfl,q4.mono ?_⟩) (λ_ c=>absurd rfl c)⟩;rintro v _ ⟨e3,rfl⟩;refine⟨_,e3,λ_=>⟨_,ZM w3 (by simp[w2];omega),?_⟩,λc=>absurd hp c⟩;rw[e2];exact⟨rfl,rfl⟩
  .refine⟨G,h1,(a1 G).2 K,W,⟨w1,l,w2,w3⟩,B (λc=>om) (λ_=>⟨_,_,_,_,_,_,rfl,q4.mono ?_⟩) (λ_ c=>absurd rfl c)⟩;rintro v _ ⟨e3,rfl⟩;exact⟨_,e3,λc=>absurd c hp,λ_=>⟨rfl,rfl⟩⟩
 obtain⟨y,r,D⟩:=E;have P:=r;rw[StD]at P;simp only[uE k1,uE k4,uE k5,uE k6,uE k7]at P;have hy:y=i:=by
  by_cases k0:k=0
  .simp only[uF k0]at P;exact P.symm
  .by_cases k2:k=2
   .simp only[uE k0,uF k2]at P;omega
   .by_cases k3:k=3
    .simp only[uE k0,uE k2,uF k3]at P;omega
    .simp only[uE k0,uE k2,uE k3]at P
 subst hy;exact⟨y,L,r,D,g,B (λc=>absurd c k6) (λc=>absurd c k7) (λ_ _=>⟨rfl,rfl⟩)⟩
theorem Zs6{s:List UInt8}{idw:Nat}{set}{a:List Re}{m w n:Int}(z:s.length<2 ^ 19)(o:WG (.mk 5 set a m w n))(C: ∀x∈a,WV s idw x):WV s idw (.mk 5 set a m w n):=by
 intro i u h l B A r;have c:=o.wf;have d:=o.nn;have e:=o.gk;rw[wfRe]at c;rw[nnRe]at d;rw[gkRe]at e;have f:WGs a:=⟨c.2.2.2,d.2,e.2⟩;have g: ∀j,StD s true true (.mk 5 set a m w n) i j↔StD.altD s true true a i j:=λj=>by rw[StD];exact Iff.rfl
 obtain⟨y,t,v⟩:=r;obtain⟨k,G,E,F,D,H⟩:=Zx1 z B l a f C h A ⟨y,(g y).1 t,v⟩;exact⟨k,G,(g k).2 F,D,H,Zx3 z c.2.2.1 f l B A E⟩
mutual
theorem Zx4{s:List UInt8}{idw:Nat}(g:s.length<2 ^ 19): ∀r:Re,WG r->grpRe r->WV s idw r
 | .mk k set c o m n,d,h=>by
  have f:=d.wf;have a:=d.nn;have e:=d.gk;rw[wfRe]at f;rw[nnRe]at a;rw[gkRe]at e;rw[grpRe]at h;have l:=Zra (idw:=idw) g c ⟨f.2.2.2,a.2,e.2⟩ h.2;by_cases j:k=5
  .subst j;exact Zs6 g d l
  .exact Zs5 g j d h.1 l
theorem Zra{s:List UInt8}{idw:Nat}(d:s.length<2 ^ 19): ∀l:List Re,WGs l->grpRe.grpRes l-> ∀x∈l,WV s idw x
 | [],_,_=>λx a=>by cases a
 |r::l,f,c=>λx a=>by
  rw[grpRe.grpRes]at c;have g:WV s idw r:=Zx4 d r f.tl.1 c.1;have h: ∀x∈l,WV s idw x:=Zra d l f.tl.2 c.2;rcases qu.1 a with e|a
  .exact e▸g
  .exact h x a
end
end Go.Y
