/- A part of the proof. -/
import Derived.Test.YteennilbmmlikaaGreatDoorGOv4
import Derived.Test.YteennilbmmlikaaGreatDoorGSuA
import Derived.Test.YteennilbmmlikaaGreatDoorYLoop
import Derived.Test.YteennilbmmlikaaGreatDoorGTrF
namespace Go.Y
open Go.Proofs
set_option maxRecDepth 1000000
set_option maxHeartbeats 0
def Va(s:List UInt8)(idw:Nat)(r:Re):Prop:= ∀(i:Nat) (a:List Bool) (h:Heap),i<=s.length->a.length=s.length+1->WayK s idw h->(∃k,StD s true true r i k/\At a k)->
 ∃(k:Nat) (b:Heap),StD s true true r i k/\At a k/\WayK s idw b/\Con vY_ 92 [p_P idw, .agg (Zd r), .i .i64 (i:Nat),lst Zl a] h λv c=>v= .i .i64 (k:Nat)/\c=b
def decI(x:Int):Int:=if 0<x then x-1 else x
def Wz(s:List UInt8)(b:Re)(c:Int)(i:Nat)(a:List Bool):List Bool:=if c=0 then(ZV b s a).set i false else ZV b s a
theorem Znf(s:List UInt8)(b)(c:Int)(i:Nat)(a):(Wz s b c i a).length=s.length+1:=by unfold Wz;split;rw[vJ,XN];rw[XN]
def hnx(s:List UInt8)(b:Re)(c:Int)(i:Nat)(a:List Bool)(h:Heap):Heap:=if c=0 then(rh b s a h).set h.nx (some (.arr (row Zl (Wz s b c i a)) true))else rh b s a h
def hnz(s:List UInt8)(b:Re)(lo:Int)(i:Nat)(a:List Bool)(h:Heap):Heap:=XP (hnx s b lo i a h) [h.nx]
inductive Ag (s:List UInt8) (idw:Nat) (set:Set4) (x:Re) (n:Int) (allow:List Bool):Nat->Int->Int->Nat->Heap->Nat->Heap->Prop
 |zero {lo:Int} {i:Nat} {h:Heap} :Ag s idw set x n allow 0 lo 0 i h i h
 |stop {m:Nat} {lo hi:Int} {i:Nat} {h:Heap} :hi≠0-> ¬At (ZV x s (Wz s (.mk 6 set [x] (decI lo) (decI hi) n) lo i allow)) i->
   Ag s idw set x n allow m lo hi i h i (rh x s (Wz s (.mk 6 set [x] (decI lo) (decI hi) n) lo i allow) (hnz s (.mk 6 set [x] (decI lo) (decI hi) n) lo i allow h))
 |step {m:Nat} {lo hi:Int} {i:Nat} {h:Heap} {k':Nat} {hB:Heap} {k:Nat} {h1:Heap} :hi≠0->At (ZV x s (Wz s (.mk 6 set [x] (decI lo) (decI hi) n) lo i allow)) i->
   Con vY_ 92 [p_P idw, .agg (Zd x),I i,lst Zl (Wz s (.mk 6 set [x] (decI lo) (decI hi) n) lo i allow)] (rh x s (Wz s (.mk 6 set [x] (decI lo) (decI hi) n) lo i allow) (hnz s (.mk 6 set [x] (decI lo) (decI hi) n) lo i allow h)) (fun v h'=>v= I k'∧h'=hB)->
   k'<=s.length->WayK s idw hB->Ag s idw set x n allow m (decI lo) (decI hi) k' hB k h1->Ag s idw set x n allow (m+1) lo hi i h k h1
def BndR(b a:Int):Prop:=0<=b/\b<=8/\(a= -1\/(b<=a/\a<=8))
theorem BndR.dec{lo a:Int}(b:BndR lo a)(f:a≠0):BndR (decI lo) (decI a):=by obtain⟨c,d,e⟩:=b;unfold BndR decI;split<;>split<;>omega
theorem ZEe{a}{x}{n lo d:Int}(c:WG x)(e:nnS a)(b:BndR lo d):WG (.mk 6 a [x] lo d n):=
 ⟨by rw[wfRe];exact⟨λ_=>⟨b.1,b.2.1,b.2.2,rfl⟩,λ_ _ h=>absurd rfl h,sm,c.wf,trivial⟩,by rw[nnRe];exact⟨e,c.nn,trivial⟩,by rw[gkRe];exact⟨λh=>om,c.gk,trivial⟩⟩
theorem Zbg{s}{b}{x}{n lo a:Int}{i j:Nat} :StD s true true (.mk 6 b [x] lo a n) i j↔ ∃m:Nat,lo<=(m:Int)/\(a<0\/(m:Int)<=a)/\powD (StD s true true x) m i j:=by rw[StD];exact Iff.rfl
theorem Zng{s}{b}{lo:Int}{i:Nat}{a}{h:Heap}(F:FreshB h (rh b s a h) h.nx (ZV b s a)):FreshB h (hnx s b lo i a h) h.nx (Wz s b lo i a):=by unfold hnx;by_cases e:lo=0;rw[uF e];exact F.set _;rw[uE e,Wz,uE e];exact F
theorem Zy0{s}{idw:Nat}{b}{lo:Int}{i:Nat}{a}{h:Heap}(e:WayK s idw h)(F:FreshB h (rh b s a h) h.nx (ZV b s a)):WayK s idw (hnz s b lo i a h):=by
 have G:=Zng (lo:=lo) (i:=i) F;have c:=G.keeps;exact e.keep (by unfold hnz;rw[Qs];exact c) λj d=>by unfold hnz;rw[Xv,uE (by simp;omega)];exact G.keep j d
theorem Znh{P:Nat->Nat->Prop}{i:Nat} : ∀ {m j:Nat},powD P m i j->j≠i-> ∃a y,a<m/\y≠i/\P i y/\powD P a y j
 |0,j,h,b=>absurd (show i=j from h).symm b
 |m+1,j,⟨y,d,c⟩,b=>by
  by_cases e:y=i;subst e;obtain⟨a,z,l,f,g,k⟩:=Znh c b;exact⟨a,z,om,f,g,k⟩;exact⟨m,y,om,e,d,c⟩
theorem ZCj{l:List Bool}{i k:Nat} :At (l.set i false) k↔At l k/\k≠i:=by
 unfold At;rw[qw,qw,vK];by_cases e:i=k
 .subst e;simp;split<;>simp
 .rw[uE e];exact⟨λh=>⟨h,λc=>e c.symm⟩,And.left⟩
theorem ZTb{s:List UInt8}{idw:Nat}{g}{x}{n:Int}{a:List Bool}(hs:s.length<2 ^ 19)(P:a.length=s.length+1)(L:WG x)(hn:nnS g)(ih:Va s idw x):
  ∀(m:Nat) (d l:Int) (i:Nat) (h:Heap),d.toNat+(s.length-i)<=m->BndR d l->i<=s.length->WayK s idw h->(∃k,StD s true true (.mk 6 g [x] d l n) i k/\At a k)->
  ∃(k:Nat) (H:Heap) (Y:Nat),Ag s idw g x n a Y d l i h k H/\StD s true true (.mk 6 g [x] d l n) i k/\At a k/\WayK s idw H:=by
 intro m
 induction m using Nat.strongRecOn with
 |_ m rec=>
 intro d l i h hm b o W C;by_cases G:l=0;subst G;obtain⟨k,w,z⟩:=C;obtain⟨t,E,O,A⟩:=Zbg.1 w;have ht:t=0:=om;subst ht;have:i=k:=A;subst this;exact⟨i,h,0, .zero,Zbg.2 ⟨0,E,O,rfl⟩,z,W⟩
 .have bd:=b.dec G;have j:WG (.mk 6 g [x] (decI d) (decI l) n):=ZEe L hn bd;obtain⟨F,_,_⟩:=Zir j hs P W;have X:=Zy0 (lo:=d) (i:=i) W F;have p:=Znf s (.mk 6 g [x] (decI d) (decI l) n) d i a;obtain⟨F2,D,_⟩:=Zir L hs p X;have f: ∀y,At (Wz s (.mk 6 g [x] (decI d) (decI l) n) d i a) y↔At (ZV (.mk 6 g [x] (decI d) (decI l) n) s a) y/\(d=0->y≠i):=λy=>by
   unfold Wz;by_cases e:d=0;rw[uF e,ZCj];exact⟨λq=>⟨q.1,λ_=>q.2⟩,λq=>⟨q.1,q.2 e⟩⟩;rw[uE e];exact⟨λq=>⟨q,λc=>absurd c e⟩,And.left⟩
  by_cases K:At (ZV x s (Wz s (.mk 6 g [x] (decI d) (decI l) n) d i a)) i
  .obtain⟨N,hB,w,z,E,O⟩:=ih i _ _ o p D ((Qi L p o).1 K);have r:=Zct x o w;obtain⟨A,q6⟩:=(f N).1 z;obtain⟨k,H,Y,q7,q8,q9,Z⟩:=rec ((decI d).toNat+(s.length-N)) (by
    unfold decI;by_cases e:d=0;have:=q6 e;subst e;simp at hm ⊢;omega
    .have:=b.1;rw[uF om];omega) (decI d) (decI l) N hB (qnq _) bd r.2 E ((Qi j P r.2).1 A)
   refine⟨k,H,Y+1, .step G K O r.2 E q7,?_,q9,Z⟩;obtain⟨t,r1,r2,r3⟩:=Zbg.1 q8;refine Zbg.2 ⟨t+1,?_,?_,N,w,r3⟩
   .have:=b.1;unfold decI at r1;split at r1<;>omega
   .have:=b.2.2;unfold decI at r2;split at r2<;>omega
  .refine⟨i,_,0, .stop G K,?_⟩;obtain⟨k,w,z⟩:=C;obtain⟨t,E,O,A⟩:=Zbg.1 w;have no: ∀(y u:Nat),StD s true true x i y->powD (StD s true true x) u y k->u<t->d<=u+1->(d=0->y≠i)->False:=λy u v B c3 c4 c5=>by
    refine K ((Qi L p o).2 ⟨y,v,(f y).2 ⟨(Qi j P (Zct x o v).2).2 ⟨k,Zbg.2 ⟨u,?_,?_,B⟩,z⟩,c5⟩⟩)
    .unfold decI;split<;>omega
    .have:=b.2.2;unfold decI;split<;>omega
   by_cases e:d=0;by_cases ek:k=i;subst ek;exact⟨Zbg.2 ⟨0,om,by have:=b.2.2;omega,rfl⟩,z,D⟩;obtain⟨u,y,v,B,c3,c4⟩:=Znh A ek;exact(no y u c3 c4 v om λ_=>B).elim
   .have a0:=b.1
    cases t with
    |zero=>omega
    |succ t=>
     obtain⟨y,v,B⟩:=A;exact(no y t v B om om λc=>absurd c e).elim
theorem Zy1{Y}(m:YOK Y){c:Nat->Bool}{fuel:Nat}(n k:Nat){a:List Nat}{i:St}{b g:List V}{h f:Heap}{l:List Code}{Q:Out->St->Prop}
  (d: ∀K:KT,K .normal n g f->Zc Y c fuel (l.take k) ⟨b,[],h⟩ (VQ a K)) (e:i=⟨b,[],h⟩) (o:(l.drop k).isEmpty=false) (j:TriL Y (l.drop k) ⟨mk n (a.zip g),[],f⟩ Q):TriL Y l i Q:=
 WR m n k (T:=λK=>Zc Y c fuel (l.take k) ⟨b,[],h⟩ (VQ a K)) (λK=>rfl) e o (d _ ⟨rfl,j⟩)
theorem ZO7(idw:Nat)(j m n o p:Int)(c:List V)(l:Nat){lo a:Int}(u:BndR lo a)(k s:Int)(g:List V)(t:Nat)(h:Heap)(K:KT)
  (d:K .normal 64 [p_P idw,I s, .ts g t none, .lb [I j,U m,U n,U o,U p, .ts c l none,I lo,I a,I k], .lb [I j,U m,U n,U o,U p, .ts c l none,I (decI lo),I (decI a),I k]] h):
  Zc wY_ (wY_.loc 129) 100 ((flat (ZK ((lp_ B_129).drop 2))).take 5) ⟨mk 64 (([0,2,3,5]:List Nat).zip [p_P idw,I s, .ts g t none, .lb [I j,U m,U n,U o,U p, .ts c l none,I lo,I a,I k]]),[],h⟩ (VQ [0,2,3,5,9] K):=by
 rw[ZIj];obtain⟨v,q,w⟩:=u;have e: ∀x:Int,0<x->x<=8->decI x=wW (x-1):=λx r y=>by
  unfold decI;rw[uF r];exact(VI om om).symm
 have i: ∀x:Int,x<=0->decI x=x:=λx r=>by unfold decI;rw[uE om]
 refine Xr (λf=>Xr (λb=> ?_) (λb=> ?_)) (λf=>Xr (λb=> ?_) (λb=> ?_));rw[<-e lo f q,<-e a b om];exact d;rw[i a b]at d;rw[<-e lo f q];exact d;rw[i lo f]at d;rw[<-e a b om];exact d;rw[i lo f,i a b]at d;exact d
theorem ZO8{s:List UInt8}{idw:Nat}{a}{x:Re}{n lo f:Int}{i:Nat}{d:List Bool}{h}(p:s.length<2 ^ 19)(k:d.length=s.length+1)(l:i<=s.length)(q:WayK s idw h)(o:WG (.mk 6 a [x] (decI lo) (decI f) n))(K:KT)
  (g:K .normal 64 [p_P idw,I i,lst Zl d, .lb [I 6,U a.1,U a.2.1,U a.2.2.1,U a.2.2.2,lst Zd [x],I lo,I f,I n], .lb [I 6,U a.1,U a.2.1,U a.2.2.1,U a.2.2.2,lst Zd [x],I (decI lo),I (decI f),I n],
   .sl (some (h.nx,0)) (s.length+1) (some (s.length+1)) 1] (hnx s (.mk 6 a [x] (decI lo) (decI f) n) lo i d h)):
  Zc wY_ (wY_.loc 129) 100 (((flat (ZK ((lp_ B_129).drop 2))).drop 5).take 3) ⟨mk 64 (([0,2,3,5,9]:List Nat).zip [p_P idw,I i,lst Zl d, .lb [I 6,U a.1,U a.2.1,U a.2.2.1,U a.2.2.2,lst Zd [x],I lo,I f,I n], .lb [I 6,U a.1,U a.2.1,U a.2.2.1,U a.2.2.2,lst Zd [x],I (decI lo),I (decI f),I n]]),[],h⟩ (VQ [0,2,3,5,9,10] K):=by
 rw[ZIk];obtain⟨F,_,C⟩:=Zir o p k q;rw[Zn]at C;have m:=XN (.mk 6 a [x] (decI lo) (decI f) n) s d;refine C.mono ?_;rintro v _ ⟨j,rfl⟩;refine⟨_,_,_,_,j,Zf (λc=>slo ⟨⟨om,om⟩,rfl,_,ZL (off:=0+(i:Int).toNat*1) (new:= [V.b false]) F.get (by rw[XE,m];simp;omega),?_⟩) (λc=> ?_)⟩;have e:lo=0:=su c;rw[hnx,uF e,Wz,uF e]at g;rw[show 0+(i:Int).toNat*1=i from sm,Jz _ _ _ om];exact g;have e:lo≠0:=su c;rw[hnx,uE e]at g;exact g
theorem ZCk{s:List UInt8}{idw:Nat}{d}{x}{n e f:Int}(E:s.length<2 ^ 19)(hx:WG x)(hn:nnS d)(ih:Va s idw x)(b:BndR e f){i:Nat}{a:List Bool}{h}(q:i<=s.length)(H:a.length=s.length+1)(u:WayK s idw h)
  (B: ∃k,StD s true true (.mk 6 d [x] e f n) i k/\At a k):
  ∃(k:Nat) (z:Heap),StD s true true (.mk 6 d [x] e f n) i k/\At a k/\WayK s idw z/\Con vY_ 129 [p_P idw, .agg (Zd (.mk 6 d [x] e f n)),I (i:Nat),lst Zl a] h λv h'=>v= I (k:Nat)/\h'=z:=by
 obtain⟨k,z,m',y,q1,q2,q3⟩:=ZTb E H hx hn ih _ e f i h (qnq _) b q u B;refine⟨k,z,q1,q2,q3,Con.wv ?_⟩;clear q1 q2 q3 B;rw[Zn];refine Zx wK_ (fn:=Tryz.f129) ?_;refine Zh wK_ 64 (λK=>ZIh idw 6 d.1 d.2.1 d.2.2.1 d.2.2.2 (row Zd [x]) 1 e f n (i:Nat) (row Zl a) a.length h K) rfl ⟨rfl,?_⟩;refine ZM [0,2,3,5] [0,2,3,5,8] (λm vs p=> ∃(e f:Int) (i:Nat),vs= [p_P idw,I (i:Nat),lst Zl a, .lb [I 6,U d.1,U d.2.1,U d.2.2.1,U d.2.2.2,lst Zd [x],I e,I f,I n]]/\
  Ag s idw d x n a m e f i p k z/\BndR e f/\i<=s.length/\WayK s idw p) m' ZA ⟨e,f,i,rfl,y,b,q,u⟩ ?_
 clear y b q u;rintro m vs p ⟨e,f,i,rfl,y,b,q,u⟩;refine WR wK_ 64 2 (λK=>ZIi idw 6 d.1 d.2.1 d.2.2.1 d.2.2.2 (row Zd [x]) 1 e f n (i:Nat) (row Zl a) a.length p K) rfl kr ?_;refine Zf (λj=>⟨rfl,Zvm kr ?_⟩) (λj=>Zvp λa2 ht=>Vo [2] ht kr rfl rfl rfl ?_)
 .have j:f≠0:=su j;have bd:=b.dec j;have g:WG (.mk 6 d [x] (decI e) (decI f) n):=ZEe hx hn bd;refine Zy1 wK_ 64 5 (λK X=>ZO7 idw 6 d.1 d.2.1 d.2.2.1 d.2.2.2 (row Zd [x]) 1 b n (i:Nat) (row Zl a) a.length p K X) rfl kr ?_;refine Zy1 wK_ 64 3 (λK X=>ZO8 E H q u g K X) rfl kr ?_;have F:=Zng (lo:=e) (i:=i) (Zir g E H u).1;have C:=Znf s (.mk 6 d [x] (decI e) (decI f) n) e i a;refine Zcn [p.nx] [0,2,3,5,9,10] kr (.cons _ _ _ _ (.same _) (.cons _ _ _ _ (.same _) (.cons _ _ _ _ (.same _) (.cons _ _ _ _ (.same _) (.cons _ _ _ _ (.same _) (.cons _ _ _ _ (.frz _ _ (frzB (c:=some (s.length+1)) _ F.get C.symm sm)) .nil)))))) ?_;have a0:=Zy0 (lo:=e) (i:=i) u (Zir g E H u).1;obtain⟨F2,a1,G⟩:=Zir hx E C a0;change TriL _ _ ⟨_,_,hnz s (.mk 6 d [x] (decI e) (decI f) n) e i a p⟩ _;have hrl:=XN x s (Wz s (.mk 6 d [x] (decI e) (decI f) n) e i a);refine Zm wK_ (λK=>ZIl idw 6 d.1 d.2.1 d.2.2.1 d.2.2.2 (row Zd [x]) 1 e f n (i:Nat) (row Zl a) a.length (decI e) (decI f) (row Zl (Wz s (.mk 6 d [x] (decI e) (decI f) n) e i a)) (Wz s (.mk 6 d [x] (decI e) (decI f) n) e i a).length (hnz s (.mk 6 d [x] (decI e) (decI f) n) e i a p) K) rfl ?_;have o:Zb (rh x s (Wz s (.mk 6 d [x] (decI e) (decI f) n) e i a) (hnz s (.mk 6 d [x] (decI e) (decI f) n) e i a p)) (hnz s (.mk 6 d [x] (decI e) (decI f) n) e i a p).nx (0+((i:Nat):Int).toNat*1) 1=some [.b (ZV x s (Wz s (.mk 6 d [x] (decI e) (decI f) n) e i a))[i]]:=by
   rw[Zr F2.get,show 0+((i:Nat):Int).toNat*1=i from sm,Zco _ om]
  have A:=Zgu (l:=ZV x s (Wz s (.mk 6 d [x] (decI e) (decI f) n) e i a)) (i:=i) om
  cases y with
  |zero=>exact absurd rfl j
  |stop _ D=>
   rw[A]at D;obtain⟨L,P,N,t,r,O⟩:=x;rw[Zn]at G;refine⟨⟨om,om⟩,_,_,_,_,_,_,_,_,_,_,_,QO L P N t r O,G.mono ?_⟩;rintro v _ ⟨W,rfl⟩;refine⟨_,_,_,_,W,slo ⟨⟨om,om⟩,rfl,_,o,Zf (λc=>absurd c D) (λc=> ?_)⟩⟩;exact Xc rr rfl (.now ⟨rfl,rfl⟩)
  | @step m _ _ _ _ k' hB _ _ _ w hC Y Z y=>
   rw[A]at w;obtain⟨L,P,N,t,r,O⟩:=x;rw[Zn]at G hC;refine⟨⟨om,om⟩,_,_,_,_,_,_,_,_,_,_,_,QO L P N t r O,G.mono ?_⟩;rintro v _ ⟨W,rfl⟩;refine⟨_,_,_,_,W,slo ⟨⟨om,om⟩,rfl,_,o,Zf (λc=> ?_) (λc=>absurd w (by rw[c];simp))⟩⟩;refine⟨⟨om,om⟩,_,_,_,_,_,_,_,_,_,_,_,QO L P N t r O,?_⟩;refine hC.vw.mono λv h' ⟨e3,e4⟩=>⟨_,e3,Xr (λc=>om) (λc=> ?_)⟩;exact⟨rfl,m,om,decI e,decI f,k',rfl,by rw[e4];exact y,bd,Y,by rw[e4];exact Z⟩
 .have j:f=0:=su j;subst j;refine Zo wK_ (λK=>ZIm (i:Nat) p K) rfl ?_
  cases y with
  |zero=>exact finC rr rfl (.now ⟨rfl,rfl⟩)
  |stop j=>exact absurd rfl j
  |step j=>exact absurd rfl j
theorem ZEf{a k0 p0 p1 p2 p3 c n0 d e m0 i2 f n3 h}(K):CP vY_ 92 (pre B_92) (p_P a::.agg (R9 k0 p0 p1 p2 p3 c n0 none d e m0)::I i2::J f n3 none::Rp 114) h [0,2,3,5,15] K=(K .normal 118 [p_P a,I i2,J f n3 none, .lb (R9 k0 p0 p1 p2 p3 c n0 none d e m0), .b (k0==(5:Int))] h):=kr
theorem ZO9{a k0 p0 p1 p2 p3 c n0 d e m0 i2 f n3 h}(K):CP vY_ 92 (pre (flat (QT (post B_92)))) (MZ 118 [0,2,3,5,15] [p_P a,I i2,J f n3 none,.lb (R9 k0 p0 p1 p2 p3 c n0 none d e m0),.b true]) h [0,2,3,5,9] K=(K .normal 118 [p_P a,I i2,J f n3 none, .lb (R9 k0 p0 p1 p2 p3 c n0 none d e m0),I 0] h):=kr
theorem ZPa{a k0 p0 p1 p2 p3 d n0 f g m0 i2 e n3 x9 h}(K):CP vY_ 92 (lp_ (flat (QT (post B_92)))) (MZ 118 [0,2,3,5,9] [p_P a,I i2,J e n3 none,.lb (R9 k0 p0 p1 p2 p3 d n0 none f g m0),I x9]) h [0,2,3,5,8,9] K=(If (ltI x9 n0) ((0<=x9/\x9<n0)/\ ∃b c i j l m n o q r s,Zs 9 (List.drop (x9.toNat*9) d)=some (R9 b c i j l m n o q r s)/\Con vY_ 91 [p_P a,.agg (R9 b c i j l m n o q r s),J e n3 none] h fun(v:V) (k:Heap)=> ∃t u w,v=J t u w/\(0<=i2/\i2<u)/\ ∃x,Zs 1 (List.drop (i2.toNat*1) t)=some [.b x]/\If x ((0<=x9/\x9<n0)/\ ∃y z p A B C D E F G H,Zs 9 (List.drop (x9.toNat*9) d)=some (R9 y z p A B C D E F G H)/\Con vY_ 92 [p_P a,.agg (R9 y z p A B C D E F G H),I i2,J e n3 none] k fun(v:V) (k:Heap)=> ∃L,v=I L/\K .ret 118 [p_P a,I i2,J e n3 none, .lb (R9 k0 p0 p1 p2 p3 d n0 none f g m0),I L,I x9] k) (K .normal 118 [p_P a,I i2,J e n3 none, .lb (R9 k0 p0 p1 p2 p3 d n0 none f g m0),Ud,I (wW (x9+(1:Int)))] k)) (K (.exit 0) 118 [p_P a,I i2,J e n3 none, .lb (R9 k0 p0 p1 p2 p3 d n0 none f g m0),Ud,I x9] h)):=kr
theorem ZPb{a k0 p0 p1 p2 p3 c n0 d e m0 i2 f n3 h}(K):CP vY_ 92 (flat (ZP (post B_92))) (MZ 118 [0,2,3,5,15] [p_P a,I i2,J f n3 none,.lb (R9 k0 p0 p1 p2 p3 c n0 none d e m0),.b false]) h [0,2,3,5] K=(K .normal 118 [p_P a,I i2,J f n3 none, .lb (R9 k0 p0 p1 p2 p3 c n0 none d e m0)] h):=kr
theorem ZPc{a k0 p0 p1 p2 p3 d n0 e f m0 i2 g n3 h}(K):CP vY_ 92 (pre ((post B_92).drop 1)) (MZ 118 [0,2,3,5] [p_P a,I i2,J g n3 none,.lb (R9 k0 p0 p1 p2 p3 d n0 none e f m0)]) h [0,2,3,5,8,58] K=(Con vY_ 91 [p_P a,.agg (R9 k0 p0 p1 p2 p3 d n0 none e f m0),J g n3 none] h fun(v:V) (k:Heap)=> ∃b c i,v=J b c i/\(0<=i2/\i2<c)/\ ∃j,Zs 1 (List.drop (i2.toNat*1) b)=some [.b j]/\If (!j) (K .ret 118 [p_P a,I i2,J g n3 none, .lb (R9 k0 p0 p1 p2 p3 d n0 none e f m0),I (-1),Ud] k) (If (k0==(1:Int)) (K .ret 118 [p_P a,I i2,J g n3 none, .lb (R9 k0 p0 p1 p2 p3 d n0 none e f m0),I (wW (i2+(1:Int))),Ud] k) (K .normal 118 [p_P a,I i2,J g n3 none, .lb (R9 k0 p0 p1 p2 p3 d n0 none e f m0),Ud, .b (k0==(4:Int))] k))):=kr
theorem ZPd{a k0 p0 p1 p2 p3 c n0 d e m0 i2 f n3 h}(K):CP vY_ 92 (pre (flat (QT (post ((post B_92).drop 1))))) (MZ 118 [0,2,3,5,58] [p_P a,I i2,J f n3 none,.lb (R9 k0 p0 p1 p2 p3 c n0 none d e m0),.b true]) h [0,2,3,5,10] K=(K .normal 118 [p_P a,I i2,J f n3 none, .lb (R9 k0 p0 p1 p2 p3 c n0 none d e m0),I 0] h):=kr
theorem ZPe{b k0 p0 p1 p2 p3 d k f g m0 i2 e n3 a h}(K):CP vY_ 92 (lp_ (flat (QT (post ((post B_92).drop 1))))) (MZ 118 [0,2,3,5,10] [p_P b,I i2,J e n3 none,.lb (R9 k0 p0 p1 p2 p3 d k none f g m0),I a]) h [0,2,3,5,10] K=(If (ltI a k) (((0:Int)<=wW (a+(1:Int))/\wW (a+(1:Int))<=(k:Int))/\(0<=a/\a<k)/\ ∃c i j l m n o q r s t,Zs 9 (List.drop (a.toNat*9) d)=some (R9 c i j l m n o q r s t)/\ ∃u w x y,(Con vY_ 91 [p_P b,.agg [I 4,U 0,U 0,U 0,U 0,J (List.take ((k-(wW (a+(1:Int))).toNat)*(9:Nat)) (List.drop ((wW (a+(1:Int))).toNat*9) d)) (k-(wW (a+(1:Int))).toNat) none,I 0,I 0,I 0],J e n3 none] h fun(v:V) (p:Heap)=>v=J u w x/\p=y)/\ ∃z A,(Con vY_ 92 [p_P b,.agg (R9 c i j l m n o q r s t),I i2,J u w x] y fun(v:V) (p:Heap)=>v=I z/\p=A)/\K .normal 118 [p_P b,I z,J e n3 none, .lb (R9 k0 p0 p1 p2 p3 d k none f g m0),I (wW (a+(1:Int)))] A) (K (.exit 2) 118 [p_P b,I i2,J e n3 none, .lb (R9 k0 p0 p1 p2 p3 d k none f g m0),I a] h)):=kr
theorem ZPf{i2 h}(K):CP vY_ 92 ((post (flat (QT (post ((post B_92).drop 1))))).drop 1) (MZ 118 [2] [I i2]) h [0,2,3,5,8] K=(K .ret 118 [Ud,I i2,Ud,Ud,I i2] h):=kr
theorem ZPg{a k0 p0 p1 p2 p3 c n0 d e m0 i2 f n3 h}(K):CP vY_ 92 (flat (ZP (post ((post B_92).drop 1)))) (MZ 118 [0,2,3,5,58] [p_P a,I i2,J f n3 none,.lb (R9 k0 p0 p1 p2 p3 c n0 none d e m0),.b false]) h [0,2,3,5] K=(K .normal 118 [p_P a,I i2,J f n3 none, .lb (R9 k0 p0 p1 p2 p3 c n0 none d e m0)] h):=kr
theorem ZIn{a k0 p0 p1 p2 p3 b p e f m0 i2 d n3 h}(K):CP vY_ 92 ((post ((post B_92).drop 1)).drop 1) (MZ 118 [0,2,3,5] [p_P a,I i2,J d n3 none,.lb (R9 k0 p0 p1 p2 p3 b p none e f m0)]) h [8] K=(If (k0==(6:Int)) (Con vY_ 129 [p_P a,.agg (R9 k0 p0 p1 p2 p3 b p none e f m0),I i2,J d n3 none] h fun(v:V) (k:Heap)=> ∃c,v=I c/\K .ret 118 [I c] k) (If (k0==(7:Int)) (((0:Int)<=(0:Int)/\(0:Int)<(p:Int))/\ ∃c g i j l m n o q r s,Zs 9 b=some (R9 c g i j l m n o q r s)/\Con vY_ 92 [p_P a,.agg (R9 c g i j l m n o q r s),I i2,J d n3 none] h fun(v:V) (k:Heap)=> ∃t,v=I t/\If (ltI 0 m0) (((0:Int)<=m0/\m0<(↑(10:Nat):Int))/\ ∃u,Zi k a ((0:Nat)+(1:Nat)+m0.toNat*2) [I i2,I t]=some u/\K .ret 118 [I t] u) (K .ret 118 [I t] k)) (K .ret 118 [I i2] h))):=kr
def grpRe:Re->Prop
 | .mk k _ a _ _ n=>(k=7->n<=9)/\grpRes a
where
 grpRes:List Re->Prop
  | []=>True
  |r::l=>grpRe r/\grpRes l
def catE(l:List Re):Re:= .mk 4 (0,0,0,0) l 0 0 0
structure WGs(l:List Re):Prop where
 wf:wfRe.wfRes 1000 l
 nn:nnRe.nnRes l
 gk:gkRe.gkRes l
theorem WGs.tl{x:Re}{l}(w:WGs (x::l)):WG x/\WGs l:=by obtain⟨a,b,c⟩:=w;rw[wfRe.wfRes]at a;rw[nnRe.nnRes]at b;rw[gkRe.gkRes]at c;exact⟨⟨a.1,b.1,c.1⟩,⟨a.2,b.2,c.2⟩⟩
theorem WGs.cat{l:List Re}(w:WGs l)(a:l.length<=1000):WG (catE l):=
 ⟨by unfold catE;rw[wfRe];exact⟨λh=>om,λh=>absurd rfl h,a,w.wf⟩,by unfold catE;rw[nnRe];exact⟨Zxy,w.nn⟩,by unfold catE;rw[gkRe];exact⟨λh=>om,w.gk⟩⟩
theorem Zy2{s}{l}{i j:Nat} :StD s true true (catE l) i j↔StD.catD s true true l i j:=by
 unfold catE;rw[StD];exact Iff.rfl
inductive AltR (s:List UInt8) (idw:Nat) (allow:List Bool):List Re->Nat->Heap->Nat->Heap->Prop
 |hit {x:Re} {l:List Re} {i:Nat} {h:Heap} {k:Nat} {h1:Heap} :At (ZV x s allow) i->Con vY_ 92 [p_P idw, .agg (Zd x),I i,lst Zl allow] (hz x s allow h) (fun v h'=>v= I k∧h'=h1)->AltR s idw allow (x::l) i h k h1
 |miss {x:Re} {l:List Re} {i:Nat} {h:Heap} {k:Nat} {h1:Heap} : ¬At (ZV x s allow) i->AltR s idw allow l i (hz x s allow h) k h1->AltR s idw allow (x::l) i h k h1
theorem Zy3{s:List UInt8}{idw:Nat}{a:List Bool}(r:s.length<2 ^ 19)(d:a.length=s.length+1){i:Nat}(g:i<=s.length): ∀(l:List Re),WGs l->(∀x∈l,Va s idw x)-> ∀h,WayK s idw h->(∃k,StD.altD s true true l i k/\At a k)->
  ∃(k:Nat) (c:Heap),AltR s idw a l i h k c/\StD.altD s true true l i k/\At a k/\WayK s idw c
 | [],_,_,h,_,⟨k,b,_⟩=>by rw[StD.altD]at b;exact b.elim
 |x::l,w,t,h,u,⟨k,b,e⟩=>by
  obtain⟨m,v⟩:=w.tl;have f:=(Zis m r d u).1;by_cases j:At (ZV x s a) i;obtain⟨k,c,n,o,p,q⟩:=t x sm i a _ g d f ((Qi m d g).1 j);exact⟨k,c, .hit j q,by rw[StD.altD];exact .inl n,o,p⟩;rw[StD.altD]at b;rcases b with b|b;exact absurd ((Qi m d g).2 ⟨k,b,e⟩) j;obtain⟨k,c,n,o,p,q⟩:=Zy3 r d g l v (λy z=>t y (by simp[z])) _ f ⟨k,b,e⟩;exact⟨k,c, .miss j n,by rw[StD.altD];exact .inr o,p,q⟩
inductive CatR (s:List UInt8) (idw:Nat) (allow:List Bool):List Re->Nat->Heap->Nat->Heap->Prop
 |nil {i:Nat} {h:Heap} :CatR s idw allow [] i h i h
 |cons {x:Re} {l:List Re} {i:Nat} {h:Heap} {k':Nat} {hB:Heap} {k:Nat} {h1:Heap} :Con vY_ 92 [p_P idw, .agg (Zd x),I i,lst Zl (ZV (catE l) s allow)] (hz (catE l) s allow h) (fun v h'=>v= I k'∧h'=hB)->
   k'<=s.length->WayK s idw hB->CatR s idw allow l k' hB k h1->CatR s idw allow (x::l) i h k h1
theorem Zy4{s:List UInt8}{idw:Nat}{a:List Bool}(v:s.length<2 ^ 19)(m:a.length=s.length+1): ∀(l:List Re),l.length<=1000->WGs l->(∀x∈l,Va s idw x)-> ∀(i:Nat) h,i<=s.length->WayK s idw h->(∃k,StD.catD s true true l i k/\At a k)->
  ∃(k:Nat) (j:Heap),CatR s idw a l i h k j/\StD.catD s true true l i k/\At a k/\WayK s idw j
 | [],_,_,_,i,h,_,n,⟨k,d,b⟩=>by
  rw[StD.catD]at d;subst d;exact⟨i,h, .nil,by rw[StD.catD],b,n⟩
 |x::l,g,D,w,i,h,p,n,⟨k,d,b⟩=>by
  obtain⟨W,u⟩:=D.tl;have f:l.length<=1000:=by simp at g;omega
  have o:=u.cat f;have t:=(Zis o v m n).1;rw[StD.catD]at d;obtain⟨y,e,q⟩:=d;have r:=Zct x p e;obtain⟨z,C,A,G,B,H⟩:=w x sm i (ZV (catE l) s a) _ p (XN _ _ _) t ⟨y,e,(Qi o m r.2).2 ⟨k,Zy2.2 q,b⟩⟩;have c:=Zct x p A;obtain⟨E,K,L⟩:=(Qi o m c.2).1 G;obtain⟨F,j,r1,N,O,P⟩:=Zy4 v m l f u (λy r=>w y (by simp[r])) z C c.2 B ⟨E,Zy2.1 K,L⟩;exact⟨F,j, .cons H c.2 B r1,by rw[StD.catD];exact⟨z,A,N⟩,O,P⟩
theorem Zpl: ∀ {l:List Re},WGs l-> ∀x∈l,WG x
 | [],_,x,a=>by cases a
 |y::l,w,x,a=>by
  rcases qu.1 a with e|a;exact e▸w.tl.1;exact Zpl w.tl.2 x a
theorem Zr5: ∀ {l:List Re} (i:Nat),WGs l->WGs (l.drop i)
 |l,0,w=>by rw[ql];exact w
 | [],i+1,w=>by rw[List.drop_nil];exact w
 |y::l,i+1,w=>by rw[List.drop_succ_cons];exact Zr5 i w.tl.2
abbrev ARe(idw:Nat)(k:Int)(a:Set4)(c:List Re)(e d n:Int)(i:Int)(b:List Bool):List V:= [p_P idw,I i,lst Zl b, .lb [I k,U a.1,U a.2.1,U a.2.2.1,U a.2.2.2,lst Zd c,I e,I d,I n]]
theorem Zni{a:List Re}{i:Nat}(j:i<a.length): ∃(e:Int) (d:Set4) (f:List Re) (c b g:Int),a[i]= .mk e d f c b g/\Zs 9 (List.drop ((i:Int).toNat*9) (row Zd a))=some [I e,U d.1,U d.2.1,U d.2.2.1,U d.2.2.2,lst Zd f,I c,I b,I g]:=by have h:=Zqz j;generalize a[i]=x at h;obtain⟨e,d,f,c,b,g⟩:=x;rw[Zn]at h;exact⟨e,d,f,c,b,g,rfl,h⟩
theorem Zt1(a:List Re){i:Nat}(c:i<a.length)(b:a.length<2 ^ 20):V.ts (List.take ((a.length-(wW ((i:Int)+1)).toNat)*9) (List.drop ((wW ((i:Int)+1)).toNat*9) (row Zd a))) (a.length-(wW ((i:Int)+1)).toNat) none=lst Zd (a.drop (i+1)):=by
 rw[Ze om,qdq,Zeh ZT,qt (by rw[Xf ZT,vD];omega),<-vD]
theorem Zy5{s:List UInt8}{idw:Nat}{k:Nat}{t:Set4}{a:List Re}{K G n:Int}(hs:s.length<2 ^ 19)(hl:a.length<=1000)(hw:WGs a){i:Nat}{d:List Bool}{h z:Heap}(a0:i<=s.length)(Z:d.length=s.length+1)(x:WayK s idw h)
  (g:AltR s idw d a i h k z):Con vY_ 92 [p_P idw, .agg (Zd (.mk 5 t a K G n)),I i,lst Zl d] h λv Y=>v= I k/\Y=z:=by
 rw[Zn];refine Zx vK_ (fn:=Tryz.f92) ?_;refine Zh vK_ 118 ZEf rfl ⟨rfl,?_⟩;refine Xy 118 [0,2,3,5,8] (b:=true) kr kr kr ?_;refine Zh vK_ 118 ZO9 rfl ⟨rfl,?_⟩;refine ZM [0,2,3,5,9] [0,2,3,5,8,9] (λm L A=> ∃j:Nat,L=ARe idw 5 t a K G n (i:Nat) d++ [I (j:Nat)]/\AltR s idw d (a.drop j) i A k z/\WayK s idw A/\m=a.length-j) a.length ZA ⟨0,rfl,by rw[ql];exact g,x,rfl⟩ ?_;clear g x;rintro m L A ⟨j,rfl,g,x,rfl⟩;refine Zm vK_ ZPa rfl ?_;refine Zq (λp=> ?_) (λp=>by rw[List.drop_eq_nil_of_le om]at g;cases g);obtain⟨N,W,O,w,u,P,H,e⟩:=Zni p;have B:WG a[j]:=Zpl hw _ (qe p);rw[Zes p]at g;obtain⟨D,C⟩:=Zis B hs Z x;have hrl:=XN a[j] s d;have r:=Zgu (l:=ZV a[j] s d) (i:=i) om;have f:=Jy (ZV a[j] s d) (i:=i) om;have E:(0:Int)<=(i:Int)/\(i:Int)<((ZV a[j] s d).length:Nat):=⟨om,om⟩
 cases g with
 |hit o F=>
  rw[r]at o;rw[o]at f;rw[show Zd a[j]=Zd (.mk N W O w u P) by rw[H],Zn]at C F;refine⟨Zu p,_,_,_,_,_,_,_,_,_,_,_,e,C.mono ?_⟩;rintro v _ ⟨y,rfl⟩;refine⟨_,_,_,y,E,_,f,Zf (λ_=>⟨Zu p,_,_,_,_,_,_,_,_,_,_,_,e,F.mono ?_⟩) (λc=>by cases c)⟩;rintro v _ ⟨X,rfl⟩;exact⟨_,X,ZR rfl (Xc rr rfl (.now ⟨rfl,rfl⟩))⟩
 |miss q g=>
  rw[r]at q;rw[Bool.not_eq_true]at q;rw[q]at f;rw[show Zd a[j]=Zd (.mk N W O w u P) by rw[H],Zn]at C;refine⟨Zu p,_,_,_,_,_,_,_,_,_,_,_,e,C.mono ?_⟩;rintro v _ ⟨y,rfl⟩;refine⟨_,_,_,y,E,_,f,Zf (λc=>by cases c) (λ_=> ?_)⟩;exact⟨rfl,a.length-(j+1),om,j+1,by rw[Ze om];rfl,g,D,rfl⟩
theorem hcut{s:List UInt8}{l:List Int}(c:l.length=20){m:Nat}(f:m<=9)(a b:Int): ∃d:List Int,d.length=20/\splice (.s s::l.map (V.i .i64)) (0+1+m*2) [I a,I b]= .s s::d.map (V.i .i64):=by
 refine⟨(l.set (m*2) a).set (m*2+1) b,by simp[c],?_⟩
 match l,c with
 | [g,h,j,k,n,o,p,q,r,t,u,v,w,x,y,z,A,B,C,D],_=>
  have:m=0\/m=1\/m=2\/m=3\/m=4\/m=5\/m=6\/m=7\/m=8\/m=9:=om;rcases this with e|e|e|e|e|e|e|e|e|e<;>subst e<;>rfl
theorem Zt2{s:List UInt8}{idw:Nat}{k:Int}{g}{a:List Re}{t p n:Int}(hs:s.length<2 ^ 19)(k5:k≠5)(hw:WG (.mk k g a t p n))(hg:k=7->n<=9)(ih: ∀x∈a,Va s idw x):Va s idw (.mk k g a t p n):=by
 intro i f h q ha hW B;have N:=hw.wf;have a2:=hw.nn;have a0:=hw.gk;rw[wfRe]at N;rw[nnRe]at a2;rw[gkRe]at a0;have a1:WGs a:=⟨N.2.2.2,a2.2,a0.2⟩;have hl:a.length<=1000:=N.2.2.1;obtain⟨o,C⟩:=Zis hw hs ha hW;have hrl:=XN (.mk k g a t p n) s f;have a4:=(Zgu (l:=ZV (.mk k g a t p n) s f) (i:=i) om).1 ((Qi hw ha q).2 B);have z:=Jy (ZV (.mk k g a t p n) s f) (i:=i) om;rw[a4]at z;have bi:(0:Int)<=((i:Nat):Int)/\((i:Nat):Int)<((ZV (.mk k g a t p n) s f).length:Nat):=⟨om,om⟩;generalize hz (.mk k g a t p n) s f h=H at o C;generalize ZV (.mk k g a t p n) s f=R at C z bi;clear hrl a4;rw[Zn]at C ⊢;have start: ∀ {Q:V->Heap->Prop},
   (k=1->AfterZ Q (I ((i+1:Nat):Int)) H)->
   (k≠1->TriL vY_ (post ((post B_92).drop 1)) ⟨mk 118 ([0,2,3,5,8,58].zip (ARe idw k g a t p n (i:Nat) f++ [.undef, .b (k==4)])),[],H⟩ (FinS vY_ Tryz.f92 (AfterZ Q)))->
   Con vY_ 92 [p_P idw, .agg [I k,U g.1,U g.2.1,U g.2.2.1,U g.2.2.2,lst Zd a,I t,I p,I n],I (i:Nat),lst Zl f] h Q:=by
  intro Q O P;refine Zx vK_ (fn:=Tryz.f92) ?_;refine Zh vK_ 118 ZEf rfl ⟨rfl,?_⟩;rw[show(k==(5:Int))=false by simpa using k5];refine Xy 118 [0,2,3,5] (b:=false) kr kr kr ?_;refine Zm vK_ ZPb rfl ⟨rfl,?_⟩;refine Zh vK_ 118 ZPc rfl (C.mono ?_);rintro v _ ⟨e1,rfl⟩;refine⟨_,_,_,e1,bi,_,z,Zf (λc=>by cases c) (λ_=>Zf (λc=> ?_) (λc=>⟨rfl,P (su c)⟩))⟩;refine Xc rr rfl ?_;rw[Ze om];exact O (su c)
 by_cases k1:k=1
 .refine⟨i+1,H,?_,?_,o,start (λ_=> .now ⟨rfl,rfl⟩) (λc=>absurd k1 c)⟩
  all_goals
   obtain⟨y,W,h3⟩:=B;have K:=W;rw[StD,uE om,uF k1]at W;obtain⟨c,_,_,rfl⟩:=W
   first|exact K|exact h3
 by_cases k4:k=4
 .subst k4;obtain⟨y,r,D⟩:=B;have E: ∀j,StD s true true (.mk 4 g a t p n) i j↔StD.catD s true true a i j:=λj=>by rw[StD];exact Iff.rfl
  obtain⟨F,Y,L,O,P,q3⟩:=Zy4 hs ha a hl a1 ih i H q o ⟨y,(E y).1 r,D⟩;refine⟨F,Y,(E F).2 O,P,q3,start (λc=>om) (λ_=> ?_)⟩;clear O P q3 r D start C z bi E;refine Xy 118 [0,2,3,5,8] (b:=true) kr kr kr ?_;refine Zh vK_ 118 ZPd rfl ⟨rfl,?_⟩;refine ZM [0,2,3,5,10] [0,2,3,5,10] (λm vs hh=> ∃j i:Nat,vs=ARe idw 4 g a t p n (i:Nat) f++ [I (j:Nat)]/\CatR s idw f (a.drop j) i hh F Y/\i<=s.length/\j<=a.length/\WayK s idw hh/\m=a.length-j) a.length ZA ⟨0,i,rfl,by rw[ql];exact L,q,om,o,rfl⟩ ?_;clear L o q;rintro m vs hh ⟨j,i,rfl,L,q,a9,hW,rfl⟩;refine Zm vK_ ZPe rfl ?_;refine Zq (λhj=> ?_) (λhj=> ?_)
  .obtain⟨xk,G,xl,w,u,xn,hx,Z⟩:=Zni hj;rw[Zes hj]at L;have a5:WG (catE (a.drop (j+1))):=(Zr5 (j+1) a1).cat (by rw[vD];omega);obtain⟨_,C⟩:=Zis a5 hs ha hW
   cases L with
   | @cons _ _ _ _ k' hB _ _ hC a6 a8 L=>
   rw[show Zd a[j]=Zd (.mk xk G xl w u xn) by rw[hx],Zn]at hC;unfold catE at C;rw[Zn]at C;simp only[Zt1 a hj (show a.length<2 ^ 20 from om)];refine⟨?_,Zu hj,_,_,_,_,_,_,_,_,_,_,_,Z,_,_,_,_,C,_,_,hC,?_⟩;rw[Ze om];exact⟨om,om⟩;exact⟨rfl,a.length-(j+1),om,j+1,k',by rw[Ze om];rfl,L,a6,om,a8,rfl⟩
  .have he:j=a.length:=om;subst he;rw[List.drop_length]at L;cases L;refine Zj [2] ?_;refine Zm vK_ ZPf rfl ?_;exact Xc rr rfl (.now ⟨rfl,rfl⟩)
 have A: ∀ {Q:V->Heap->Prop},(k=6->Con vY_ 129 [p_P idw, .agg [I k,U g.1,U g.2.1,U g.2.2.1,U g.2.2.2,lst Zd a,I t,I p,I n],I (i:Nat),lst Zl f] H λv X=> ∃j:Int,v= I j/\Q (I j) X)->
   (k=7-> ∃(xk:Int) (G:Set4) (xl:List Re) (w u xn:Int),a= [.mk xk G xl w u xn]/\Con vY_ 92 [p_P idw, .agg [I xk,U G.1,U G.2.1,U G.2.2.1,U G.2.2.2,lst Zd xl,I w,I u,I xn],I (i:Nat),lst Zl f] H λv X=> ∃j:Int,v= I j/\
    (0<n-> ∃W,Zi X idw (0+1+n.toNat*2) [I (i:Nat),I j]=some W/\Q (I j) W)/\(¬0<n->Q (I j) X))->
   (k≠6->k≠7->Q (I (i:Nat)) H)->Con vY_ 92 [p_P idw, .agg [I k,U g.1,U g.2.1,U g.2.2.1,U g.2.2.2,lst Zd a,I t,I p,I n],I (i:Nat),lst Zl f] h Q:=by
  intro Q c6 c7 c8;refine start (λc=>absurd c k1) (λ_=> ?_);rw[show(k==(4:Int))=false by simpa using k4];refine Xy 118 [0,2,3,5] (b:=false) kr kr kr ?_;refine Zm vK_ ZPg rfl ⟨rfl,?_⟩;refine Zo vK_ ZIn rfl ?_;refine Zf (λc=> ?_) (λc=>Zf (λd=> ?_) (λd=> ?_));exact(c6 (su c)).mono λv X ⟨j,e,p1⟩=>⟨j,e,finC rr rfl (.now p1)⟩;have k7:k=7:=su d;obtain⟨xk,G,xl,w,u,xn,rfl,hC⟩:=c7 k7;have a7:=hg k7;refine⟨⟨om,sm⟩,_,_,_,_,_,_,_,_,_,_,_,QO xk G xl w u xn,hC.mono λv X ⟨j,e,p1,p2⟩=>⟨j,e,Xr (λhp=> ?_) (λhp=> ?_)⟩⟩;obtain⟨W,r1,r2⟩:=p1 hp;exact⟨⟨om,om⟩,W,r1,finC rr rfl (.now r2)⟩;exact finC rr rfl (.now (p2 om));exact finC rr rfl (.now (c8 (su c) (su d)))
 by_cases k6:k=6;subst k6;obtain⟨b1,b2,b3,b4⟩:=N.1 rfl;obtain⟨x,rfl⟩:=List.length_eq_one_iff.1 b4;obtain⟨F,Y,O,P,q3,q4⟩:=ZCk (n:=n) hs (Zpl a1 x sm) a2.1 (ih x sm) ⟨b1,b2,b3⟩ q ha o B;rw[Zn]at q4;exact⟨F,Y,O,P,q3,A (λ_=>q4.mono λv X ⟨e1,e2⟩=>⟨_,e1,rfl,e2⟩) (λc=>om) (λc=>absurd rfl c)⟩;by_cases k7:k=7
 .subst k7;obtain⟨x,rfl⟩:=List.length_eq_one_iff.1 (a0.1 rfl);obtain⟨y,r,D⟩:=B;have a3: ∀j,StD s true true (.mk 7 g [x] t p n) i j↔StD s true true x i j:=λj=>by rw[StD];exact Iff.rfl
  obtain⟨F,Y,O,P,q3,q4⟩:=ih x sm i f H q ha o ⟨y,(a3 y).1 r,D⟩;obtain⟨w1,l,w2,w3⟩:=q3;obtain⟨xk,G,xl,w,u,xn⟩:=x;rw[Zn]at q4;by_cases hp:0<n;have a7:=hg rfl;obtain⟨l',e1,e2⟩:=hcut (s:=s) w2 (m:=n.toNat) om (i:Nat) (F:Nat);refine⟨F,Y.set idw (some (.arr (.s s::l'.map (V.i .i64)) true)),(a3 F).2 O,P,⟨by rw[Heap.nx_set];exact w1,l',e1,by rw[qc,uF rfl]⟩,A (λc=>om) (λ_=>⟨_,_,_,_,_,_,rfl,q4.mono ?_⟩) (λ_ c=>absurd rfl c)⟩;rintro v _ ⟨e3,rfl⟩;refine⟨_,e3,λ_=>⟨_,ZL w3 (by simp[w2];omega),?_⟩,λc=>absurd hp c⟩;rw[e2];exact⟨rfl,rfl⟩;refine⟨F,Y,(a3 F).2 O,P,⟨w1,l,w2,w3⟩,A (λc=>om) (λ_=>⟨_,_,_,_,_,_,rfl,q4.mono ?_⟩) (λ_ c=>absurd rfl c)⟩;rintro v _ ⟨e3,rfl⟩;exact⟨_,e3,λc=>absurd c hp,λ_=>⟨rfl,rfl⟩⟩
 obtain⟨y,r,D⟩:=B;have K:=r;rw[StD]at K;simp only[uE k1,uE k4,uE k5,uE k6,uE k7]at K;have hy:y=i:=by
  by_cases k0:k=0;simp only[uF k0]at K;exact K.symm;by_cases k2:k=2;simp only[uE k0,uF k2]at K;omega;by_cases k3:k=3;simp only[uE k0,uE k2,uF k3]at K;omega;simp only[uE k0,uE k2,uE k3]at K
 subst hy;exact⟨y,H,r,D,o,A (λc=>absurd c k6) (λc=>absurd c k7) (λ_ _=>⟨rfl,rfl⟩)⟩
theorem Zt3{s:List UInt8}{idw:Nat}{c}{a:List Re}{u p n:Int}(z:s.length<2 ^ 19)(q:WG (.mk 5 c a u p n))(C: ∀x∈a,Va s idw x):Va s idw (.mk 5 c a u p n):=by
 intro i m h e w v o;have b:=q.wf;have g:=q.nn;have d:=q.gk;rw[wfRe]at b;rw[nnRe]at g;rw[gkRe]at d;have f:WGs a:=⟨b.2.2.2,g.2,d.2⟩;have l: ∀j,StD s true true (.mk 5 c a u p n) i j↔StD.altD s true true a i j:=λj=>by rw[StD];exact Iff.rfl
 obtain⟨y,r,t⟩:=o;obtain⟨k,A,B,D,E,F⟩:=Zy3 z w e a f C h v ⟨y,(l y).1 r,t⟩;exact⟨k,A,(l k).2 D,E,F,Zy5 z b.2.2.1 f e w v B⟩
mutual
theorem Zy6{s:List UInt8}{idw:Nat}(g:s.length<2 ^ 19): ∀r:Re,WG r->grpRe r->Va s idw r
 | .mk k j e m l n,c,f=>by
  have d:=c.wf;have b:=c.nn;have a:=c.gk;rw[wfRe]at d;rw[nnRe]at b;rw[gkRe]at a;rw[grpRe]at f;have h:=Zr6 (idw:=idw) g e ⟨d.2.2.2,b.2,a.2⟩ f.2;by_cases i:k=5;subst i;exact Zt3 g c h;exact Zt2 g i c f.1 h
theorem Zr6{s:List UInt8}{idw:Nat}(c:s.length<2 ^ 19): ∀l:List Re,WGs l->grpRe.grpRes l-> ∀x∈l,Va s idw x
 | [],_,_=>λx a=>by cases a
 |r::l,d,b=>λx a=>by
  rw[grpRe.grpRes]at b;have f:Va s idw r:=Zy6 c r d.tl.1 b.1;have g: ∀x∈l,Va s idw x:=Zr6 c l d.tl.2 b.2;rcases qu.1 a with e|a;exact e▸f;exact g x a
end
end Go.Y
