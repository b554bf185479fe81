/- A part of the proof. -/
import Derived.Test.YteennilbmmlikaaGreatDoorGSuA
import Derived.Test.YteennilbmmlikaaGreatDoorYLoop
import Derived.Test.YteennilbmmlikaaGreatDoorEG7
import Derived.Test.YteennilbmmlikaaGreatDoorGTrL
import Derived.Test.YteennilbmmlikaaGreatDoorGRise
import Derived.Test.YteennilbmmlikaaGreatDoorGReD
import Derived.Test.YteennilbmmlikaaGreatDoorEF7
import Derived.Test.YteennilbmmlikaaGreatDoorYAny3
import Derived.Shelf.Sort.Plain
import Derived.Shelf.Slices.CompactI
import Derived.Shelf.Slices.In.SortNone
import Derived.Test.YteennilbmmlikaaGreatDoorRows
import Derived.ProofKit
import Derived.LaidMore
import Derived.OpenShut
import Derived.Stop.Joined
namespace Go.Y
open Go.Proofs
set_option maxRecDepth 1000000
set_option maxHeartbeats 0
def Tryx.modes:List Nat:=Tryv.modes
def Tryx.locs:List (List Nat):=Tryz.locs.set 14 [3,6,11]
noncomputable def xY_:YP:=⟨Go.Proofs.Tryz.prog,Tryz.tys,Tryx.locs,Tryx.modes,[182,5],[(185,1),(197,2)],[26,27,28]⟩
theorem xK_:YOK xY_:=Vk kr Tryz.extok
theorem PCon.vx{f}{a}{Q:V->Prop}(c:PCon vY_ f a Q):PCon xY_ f a Q:=⟨c.body,c.tr⟩
theorem PCon.xv{f}{a}{Q:V->Prop}(c:PCon xY_ f a Q):PCon vY_ f a Q:=⟨c.body,c.tr⟩
theorem ZEh{k0 t0 s1 i2 h}(K):CP xY_ 14 (pre B_14) (.agg [I k0, .s t0]::.s s1::I i2::Rp 82) h [1,3,6,7,8] K=(∃a,(λc=>(PCon xY_ 15 [.agg [I k0,.s t0]] λv=>v=.b a)/\If (!a) c (If (ltI i2 0) c (If (ltI (↑s1.length:Int) i2) c (K .normal 85 [.s s1, .lb [I k0, .s t0], .lb I20, .b false,I i2] h)))) (K .ret 85 [.s s1, .lb [I k0, .s t0], .lb I20, .b false,Ud] h)):=kr
theorem ZPp{k0 t0 s1 x8 h}(K):CP xY_ 14 (pre (lp_ B_14)) (MZ 85 [1,3,6,7,8] [.s s1,.lb [I k0, .s t0],.lb I20,.b false,I x8]) h [1,3,6,7,8] K=(If (leI x8 (↑s1.length:Int)) (K .normal 85 [.s s1, .lb [I k0, .s t0], .lb I20, .b false,I x8] h) (K (.exit 0) 85 [.s s1, .lb [I k0, .s t0], .lb I20, .b false,I x8] h)):=kr
theorem ZPq{k0 t0 s1 x8 h}(K):CP xY_ 14 (pre (bk_ (lp_ B_14))) (MZ 85 [1,3,6,7,8] [.s s1,.lb [I k0, .s t0],.lb I20,.b false,I x8]) h [1,3,6,7,8,9,10] K=(∃a c d,(PCon xY_ 40 [.agg [I k0,.s t0],.s s1,I x8] fun(v:V)=>v=J a c d)/\K .normal 85 [.s s1, .lb [I k0, .s t0], .lb I20, .b false,I x8,J a c d,I (↑s1.length:Int)] h):=kr
theorem ZPr{k0 t0 s1 x8 c n9 a h}(K):CP xY_ 14 (pre (lp_ (bk_ (lp_ B_14)))) (MZ 85 [1,3,6,7,8,9,10] [.s s1,.lb [I k0, .s t0],.lb I20,.b false,I x8,J c n9 none,I a]) h [1,3,6,7,8,9,10] K=(If (leI x8 a) (K .normal 85 [.s s1, .lb [I k0, .s t0], .lb I20, .b false,I x8,J c n9 none,I a] h) (K (.exit 2) 85 [.s s1, .lb [I k0, .s t0], .lb I20, .b false,I x8,J c n9 none,I a] h)):=kr
theorem ZPs{k0 t0 s1 x8 d n9 a h}(K):CP xY_ 14 (pre (bk_ (lp_ (bk_ (lp_ B_14))))) (MZ 85 [1,3,6,7,8,9,10] [.s s1,.lb [I k0, .s t0],.lb I20,.b false,I x8,J d n9 none,I a]) h [1,3,6,7,8,9,10,14,15] K=((0<=a/\a<n9)/\ ∃c,Zs 1 (List.drop (a.toNat*1) d)=some [.b c]/\If (!c) (K (.exit 3) 85 [.s s1, .lb [I k0, .s t0], .lb I20, .b false,I x8,J d n9 none,I a,Ud,Ud] h) (If (k0==(2:Int)) (∃e f g i j l m n o q r t u,(PCon xY_ 8 [.s t0] fun(v:V)=>v=.tup [.agg (R9 e f g i j l m n o q r),I t,I u])/\ ∃w x y z k p A B C D E F G H L N O P W X Y,(PCon xY_ 41 [.agg (R9 e f g i j l m n o q r),.s s1,I x8,I a] fun(v:V)=>v=.tup [.agg [I w,I x,I y,I z,I k,I p,I A,I B,I C,I D,I E,I F,I G,I H,I L,I N,I O,I P,I W,I X],.b Y])/\K .ret 85 [.s s1, .lb [I k0, .s t0], .lb [I w,I x,I y,I z,I k,I p,I A,I B,I C,I D,I E,I F,I G,I H,I L,I N,I O,I P,I W,I X], .b Y,I x8,J d n9 none,I a,Ud,Ud] h) (K .normal 85 [.s s1, .lb [I k0, .s t0], .lb I20, .b false,I x8,J d n9 none,I a, p_P h.nx,I 0] (h.pushT (xY_.tag (51:Nat)) (YObj.arr (List.replicate (20:Nat) (I 0)) true))))):=kr
theorem ZPt{k0 t0 s1 x8 d n9 e c a h}(K):CP xY_ 14 (lp_ (bk_ (lp_ (bk_ (lp_ B_14))))) (MZ 85 [1,3,6,7,8,9,10,14,15] [.s s1,.lb [I k0, .s t0],.lb I20,.b false,I x8,J d n9 none,I e,p_P c,I a]) h [1,3,6,7,8,9,10,14,15] K=(If (ltI a 10) (((0:Int)<=a/\a<(↑(10:Nat):Int))/\ ∃f,Zi h c ((0:Nat)+(0:Nat)+a.toNat*2) [I (-1),I (-1)]=some f/\K .normal 85 [.s s1, .lb [I k0, .s t0], .lb I20, .b false,I x8,J d n9 none,I e, p_P c,I (wW (a+(1:Int)))] f) (K (.exit 4) 85 [.s s1, .lb [I k0, .s t0], .lb I20, .b false,I x8,J d n9 none,I e, p_P c,I a] h)):=kr
theorem ZPu{k0 t0 s1 x8 d n9 a c h}(K):CP xY_ 14 ((post (bk_ (lp_ (bk_ (lp_ B_14))))).drop 1) (MZ 85 [1,3,6,7,8,9,10,14] [.s s1,.lb [I k0, .s t0],.lb I20,.b false,I x8,J d n9 none,I a,p_P c]) h [1,3,6,7,8,9,10] K=(((0:Int)<=(0:Int)/\(0:Int)<(↑(10:Nat):Int))/\ ∃e,Zi h c 0 [I x8,I a]=some e/\ ∃f g i j l m n o q r t u v w x y z k p A,Zb e c 0 20=some [I f,I g,I i,I j,I l,I m,I n,I o,I q,I r,I t,I u,I v,I w,I x,I y,I z,I k,I p,I A]/\K .ret 85 [.s s1, .lb [I k0, .s t0], .lb [I f,I g,I i,I j,I l,I m,I n,I o,I q,I r,I t,I u,I v,I w,I x,I y,I z,I k,I p,I A], .b true,I x8,J d n9 none,I a] e):=kr
theorem ZPv{k0 t0 s1 x8 a n9 c h}(K):CP xY_ 14 ((post (lp_ (bk_ (lp_ B_14)))).drop 1) (MZ 85 [1,3,6,7,8,9,10] [.s s1,.lb [I k0, .s t0],.lb I20,.b false,I x8,J a n9 none,I c]) h [1,3,6,7,8,9,10] K=(K .normal 85 [.s s1, .lb [I k0, .s t0], .lb I20, .b false,I x8,J a n9 none,I (wW (c-(1:Int)))] h):=kr
theorem ZPw{k0 t0 s1 x8 h}(K):CP xY_ 14 ((post (lp_ B_14)).drop 1) (MZ 85 [1,3,6,7,8] [.s s1,.lb [I k0, .s t0],.lb I20,.b false,I x8]) h [1,3,6,7,8] K=(K .normal 85 [.s s1, .lb [I k0, .s t0], .lb I20, .b false,I (wW (x8+(1:Int)))] h):=kr
theorem ZPx{k0 t0 s1 x8 h}(K):CP xY_ 14 ((post B_14).drop 1) (MZ 85 [1,3,6,7,8] [.s s1,.lb [I k0, .s t0],.lb I20,.b false,I x8]) h [6,7] K=(K .ret 85 [.lb I20, .b false] h):=kr
def Hit(k:Int)(t s:List UInt8)(i j:Nat):Prop:=i<=j/\j<=s.length/\At (Xg k t s i) j
structure FirstHit(k:Int)(t s:List UInt8)(i j:Nat):Prop where
 hit:Hit k t s i j
 pre: ∀i',i'<i-> ∀j',¬Hit k t s i' j'
 far: ∀j',j<j'-> ¬Hit k t s i j'
theorem Zr9{Q:Nat->Prop} : ∀ {n:Nat},Q n-> ∃m,Q m/\ ∀a,a<m-> ¬Q a:=by
 intro n
 induction n using Nat.strongRecOn with
 |_ n e=>
 intro h;by_cases c: ∃a,a<n/\Q a;obtain⟨a,b,d⟩:=c;exact e a b d;exact⟨n,h,λa b d=>c ⟨a,b,d⟩⟩
theorem Zzd{k:Int}{t s}{i j:Nat}(h:Hit k t s i j): ∃i j,FirstHit k t s i j:=by obtain⟨e,⟨f,c⟩,g⟩:=Zr9 (Q:=λi=> ∃j,Hit k t s i j) ⟨j,h⟩;obtain⟨d,⟨q,r,l⟩,m⟩:=Zr9 (Q:=λd=> ∃j,d+j=s.length/\Hit k t s e j) (n:=s.length-f) ⟨f,by have:=c.2.1;omega,c⟩;refine⟨e,q,l,λp o b a=>g p o ⟨b,a⟩,λb u a=>m (s.length-b) (by have:=a.2.1;omega) ⟨b,by have:=a.2.1;omega,a⟩⟩
theorem FirstHit.uniq{k:Int}{t s}{i j c d:Nat}(a:FirstHit k t s i j)(b:FirstHit k t s c d):i=c/\j=d:=by
 have e:i=c:=by
  rcases Nat.lt_trichotomy i c with h|h|h;exact absurd a.hit (b.pre i h j);exact h;exact absurd b.hit (a.pre c h d)
 subst e;refine⟨rfl,?_⟩;rcases Nat.lt_trichotomy j d with h|h|h;exact absurd b.hit (a.far d h);exact h;exact absurd a.hit (b.far j h)
noncomputable abbrev H14:Heap:=Heap.empty.pushT (xY_.tag 51) (.arr ((List.replicate 20 (0:Int)).map (V.i .i64)) true)
theorem ZIr{k:Int}{t s:List UInt8}(hs:s.length<2 ^ 19)(F:mayP k t=true)(hO:k=2->OvOk (ereL t)){l:List Int}(hl:l.length=20){b:Bool}
  (miss:(∀i j,¬Hit k t s i j)->l=List.replicate 20 (0:Int)/\b=false)
  (r: ∀i j,FirstHit k t s i j->k=2->PCon xY_ 41 [.agg (Zd (ereL t)), .s s,I (i:Nat),I (j:Nat)] (· = .tup [.agg (l.map (V.i .i64)), .b b]))
  (p: ∀i j,FirstHit k t s i j->k≠2->b=true/\ ∃h1 B,CutR [] Heap.empty.nx 0 H14 h1/\Zi h1 Heap.empty.nx 0 [I (i:Nat),I (j:Nat)]=some B/\B.get Heap.empty.nx=some (.arr (l.map (V.i .i64)) true)):
  PCon xY_ 14 [.agg [I k, .s t], .s s,I 0] (· = .tup [.agg (l.map (V.i .i64)), .b b]):=by
 have hm:=PCon.vx (PCon.zv (Zck k t));rw[F]at hm;have hS:=λ{i:Nat} (hi:i<=s.length)=>PCon.vx (ZCm (k:=k) (t:=t) hO hs hi);have D:=PCon.vx (PCon.zv (Zdn t));rw[Wu]at D;refine ZF xK_ (fn:=Tryz.f14) rfl ?_;refine Zh xK_ 85 ZEh rfl ?_;refine⟨true,hm,Zf (λc=>by cases c) (λ_=>Xr (λc=>om) (λ_=>Xr (λc=>om) (λ_=>⟨rfl,?_⟩)))⟩;refine ZM [1,3,6,7,8] [1,3,6,7,8] (λm w a=> ∃i:Nat,w= [.s s, .lb [I k, .s t],Z20, .b false,I (i:Nat)]/\a= .empty/\i<=s.length+1/\(∀v,v<i-> ∀d,¬Hit k t s v d)/\m=s.length+1-i) (s.length+1) ZA ⟨0,rfl,rfl,om,λv h=>absurd h om,rfl⟩ ?_;rintro m w a ⟨i,rfl,rfl,hi,g,rfl⟩;refine Zh xK_ 85 ZPp rfl ?_;refine JU (λE=>⟨rfl,QX (n:=85) [1,3,6,7,8,9,10] kr ?_⟩) (λa6=> ?_)
 .have E:i<=s.length:=om;refine Zh xK_ 85 ZPq rfl ?_;refine⟨_,_,_,hS E,rfl,?_⟩;have a5:=Zpp k t s i;have y:=λ{j:Nat} (A:j<(Xg k t s i).length)=>Zgu (l:=Xg k t s i) A;have u:=λ{j:Nat} (A:j<(Xg k t s i).length)=>Jy (Xg k t s i) A;have a1:=λj (A:j<=s.length) (z:i<=j)=>(show Hit k t s i j↔(Xg k t s i).getD j false=true from⟨λh=>h.2.2,λh=>⟨z,A,h⟩⟩);refine Zfo [1,3,6,7,8,9,10] [1,3,6,7,8,9,10] (λm w a=> ∃x:Int,w= [.s s, .lb [I k, .s t],Z20, .b false,I (i:Nat),lst Zl (Xg k t s i),I x]/\a= .empty/\ -1<=x/\x<=s.length/\(∀d:Nat,x<d-> ¬Hit k t s i d)/\m=(x+1).toNat) (s.length+1) ZA ⟨(s.length:Nat),rfl,rfl,om,om,λd h a=>by have:=a.2.1;omega,om⟩ ?_;rintro m w a ⟨x,rfl,rfl,a7,a8,f,rfl⟩;refine Zh xK_ 85 ZPr rfl ?_;refine JU (λa4=>⟨rfl,QX (n:=85) [1,3,6,7,8,9,10] kr ?_⟩) (λa4=> ?_)
  .obtain⟨j,rfl⟩: ∃j:Nat,x=(j:Nat):=⟨x.toNat,om⟩;have z:i<=j:=om;have A:j<=s.length:=om;have o:j<(Xg k t s i).length:=om;refine Zh xK_ 85 ZPs rfl ?_;refine⟨Zu o,_,u o,Zf (λc=> ?_) (λc=> ?_)⟩
   .have a2: ¬Hit k t s i j:=λa=>by
     have:=(y o).1 a.2.2;rw[this]at c;cases c
    refine ZR rfl (Zsy [1,3,6,7,8,9,10] kr rfl rfl ?_);refine Zm xK_ ZPv rfl ?_;refine⟨rfl,(((j:Nat):Int)-1+1).toNat,om,((j:Nat):Int)-1,?_,rfl,om,om,λd h=> ?_,rfl⟩;rw[ZI om om];rfl;by_cases e:d=j;rw[e];exact a2;exact f d om
   .have hH:Hit k t s i j:=⟨z,A,(y o).2 (su c)⟩;have hF:FirstHit k t s i j:=⟨hH,g,λd h=>f d om⟩;refine Zf (λc2=> ?_) (λc2=>⟨rfl,?_⟩)
    .have B:k=2:=su c2;have hC:=r i j hF B
     match l,hl with
     | [G,H,K,L,N,O,P,W,X,Y,Z,y1,y2,y3,y4,y5,y6,y7,y8,y9],_=>
      revert D hC;generalize ereL t=x;intro D hC;obtain⟨xk,xs,xl,b0,a9,xn⟩:=x;rw[ZJ]at D hC;exact⟨_,_,_,_,_,_,_,_,_,_,_,_,_,D,G,H,K,L,N,O,P,W,X,Y,Z,y1,y2,y3,y4,y5,y6,y7,y8,y9,b,hC,
       ZR rfl (ZR rfl (ZR rfl (ZR rfl (Xc rr rfl ⟨_, .tup _ _ (.cons _ _ _ _ (.agg _ _ (Zae _ [G,H,K,L,N,O,P,W,X,Y,Z,y1,y2,y3,y4,y5,y6,y7,y8,y9])) (.cons _ _ _ _ (.b _) .nil)),rfl⟩))))⟩
    .have B:k≠2:=su c2;obtain⟨hb,h1,h3,C,a0,hg⟩:=p i j hF B;subst hb;clear p r miss D hS hm hH f g a1 y u hO;refine ZM [1,3,6,7,8,9,10,14,15] [1,3,6,7,8,9,10,14,15] (λm w a=> ∃q:Nat,w= [.s s, .lb [I k, .s t],Z20, .b false,I (i:Nat),lst Zl (Xg k t s i),I (j:Nat), p_P Heap.empty.nx,I (q:Nat)]/\CutR [] Heap.empty.nx q a h1/\m=10-q) 10 ZA ⟨0,rfl,C,rfl⟩ ?_;clear C;rintro m w a ⟨q,rfl,C,rfl⟩;refine Zm xK_ ZPt rfl ?_
     cases C with
     |step hq a3 C=>
      refine Xr (λ_=> ?_) (λc=>om);exact⟨⟨om,om⟩,_,a3,rfl,10-(q+1),om,q+1,by rw[Ze om];rfl,C,rfl⟩
     |stop hq=>
      refine Xr (λc=>om) (λ_=> ?_);refine Zj [1,3,6,7,8,9,10,14] ?_
      match l,hl,hg with
      | [G,H,K,L,N,O,P,W,X,Y,Z,y1,y2,y3,y4,y5,y6,y7,y8,y9],_,hg=>
       refine Zm xK_ ZPu rfl ?_;refine⟨⟨om,om⟩,_,a0,G,H,K,L,N,O,P,W,X,Y,Z,y1,y2,y3,y4,y5,y6,y7,y8,y9,by rw[Zr hg];rfl,?_⟩;exact ZR rfl (ZR rfl (ZR rfl (Xc rr rfl ⟨_, .tup _ _ (.cons _ _ _ _ (.agg _ _ (Zae _ [G,H,K,L,N,O,P,W,X,Y,Z,y1,y2,y3,y4,y5,y6,y7,y8,y9])) (.cons _ _ _ _ (.b _) .nil)),rfl⟩)))
  .refine ZR rfl ?_;simp only[Zhn];rw[uF kr];refine ZR rfl ⟨rfl,[1,3,6,7,8],rfl,?_⟩;refine Zm xK_ ZPw rfl ?_;refine⟨rfl,s.length+1-(i+1),om,i+1,by rw[Ze om];rfl,rfl,om,λv h d a=> ?_,rfl⟩;by_cases e:v=i;subst e;exact f d (by have:=a.1;omega) a;exact g v om d a
 .have e:i=s.length+1:=om;refine ZR rfl (Zj [1,3,6,7,8] ?_);refine Zo xK_ ZPx rfl ?_;obtain⟨rfl,rfl⟩:=miss λv d a=>g v (by have:=a.1;have:=a.2.1;omega) d a;exact⟨.inr rfl,_,rfl,_, .tup _ _ (.cons _ _ _ _ (.agg _ _ (Zae _ (List.replicate 20 (0:Int)))) (.cons _ _ _ _ (.b _) .nil)),rfl⟩
theorem Zze{r:Re}(b:OvOk r)(f:mayE r=true){s:List UInt8}{i j:Nat}(g:i<=s.length)(bg en:Bool):At (atF r s i bg en) j↔StD s bg en r i j:=by
 have d:(oneF (s.length+1) i).length=s.length+1:=by simp[oneF]
 obtain⟨_,c⟩:=VD (s:=s) (bg:=bg) (en:=en) r b.wg.wf b.wg.gk _ d;unfold atF;rw[uF f];constructor;intro h;obtain⟨k,a,e⟩:=(c j).1 h;rw[Ziq om]at a;exact a▸e;intro h;exact(c j).2 ⟨i,(Ziq om _).2 rfl,h⟩
theorem Zpq{t:List UInt8}(h:mayP 2 t=true):ereE t=0/\mayE (ereL t)=true:=by unfold mayP at h;rw[uE dc,uE dc,uF dc]at h;split at h;rename_i c;exact⟨su c,h⟩;cases h
theorem ZPy{k:Int}{t s:List UInt8}(p:s.length<2 ^ 19)(w:k=2->mayP k t=true->OvOk (ereL t)/\grpRe (ereL t)): ∃(l:List Int) (b:Bool),l.length=20/\(b=true↔mayP k t=true/\ ∃i j,Hit k t s i j)/\PCon xY_ 14 [.agg [I k, .s t], .s s,I 0] (· = .tup [.agg (l.map (V.i .i64)), .b b]):=by
 by_cases a:mayP k t=true
 .by_cases o: ∃i j,Hit k t s i j
  .obtain⟨q,r,g⟩:=o;obtain⟨i,j,d⟩:=Zzd g;have A:=d.hit.1;have B:=d.hit.2.1;by_cases u:k=2;subst u;obtain⟨v,F⟩:=w rfl a;have h:=(Zpq a).2;have f:=d.hit.2.2;unfold Xg at f;rw[uF rfl]at f;obtain⟨m,⟨l,n,rfl⟩,z⟩:=ZPl v F h p A B ((Zze v h om true true).1 f);refine⟨l,true,n,⟨λ_=>⟨a,q,r,g⟩,λ_=>rfl⟩,ZIr p a (λ_=>v) n (λc=>absurd g (c q r)) (λD E e _=> ?_) (λ_ _ _ c=>absurd rfl c)⟩;obtain⟨rfl,rfl⟩:=d.uniq e;exact z.vx
   .have C:CutK [] Heap.empty.nx H14:=by
     refine⟨by simp[H14,Heap.pushT],List.replicate 20 (0:Int),rfl,?_⟩;simp[H14,Heap.pushT]
    obtain⟨x,G,H⟩:=Zpm 10 0 rfl C;obtain⟨y,K,_,l,n,L⟩:=Zgw H (m:=0) om (i:Nat) (j:Nat);refine⟨l,true,n,⟨λ_=>⟨a,q,r,g⟩,λ_=>rfl⟩,ZIr p a (λc=>absurd c u) n (λc=>absurd g (c q r)) (λ_ _ _ c=>absurd c u) (λD E e _=> ?_)⟩;obtain⟨rfl,rfl⟩:=d.uniq e;exact⟨rfl,x,y,G,K,L⟩
  .exact⟨List.replicate 20 0,false,rfl,⟨λc=>(by cases c),λc=>absurd c.2 o⟩,ZIr p a (λc=>(w c a).1) rfl (λ_=>⟨rfl,rfl⟩) (λi j d=>absurd ⟨i,j,d.hit⟩ o) (λi j d=>absurd ⟨i,j,d.hit⟩ o)⟩
 .refine⟨List.replicate 20 0,false,rfl,⟨λc=>(by cases c),λc=>absurd c.1 a⟩,?_⟩;have h:=PCon.vx (PCon.zv (Zck k t));rw[Bool.not_eq_true]at a;rw[a]at h;refine ZF xK_ (fn:=Tryz.f14) rfl ?_;refine Zh xK_ 85 ZEh rfl ?_;exact⟨false,h,Zf (λ_=>Xc rr rfl ⟨_, .tup _ _ (.cons _ _ _ _ (.agg _ _ (Zae _ (List.replicate 20 (0:Int)))) (.cons _ _ _ _ (.b _) .nil)),rfl⟩) (λc=>by cases c)⟩
/-! ### What was read is valid -/
def Znp(x:Span):Prop:=x.lo<=x.hi
theorem Zpr{s}{i j:Nat}{x:Span}(h:XU s i= .ok (x,j)):Znp x:=by unfold XU at h;unfold Znp;split at h;cases h;split at h;split at h;cases h;split at h;cases h;rename_i c;cases h;exact Int.not_lt.1 c;cases h;exact Int.le_refl _
theorem Ziv{s} : ∀ {n i:Nat} {a l:List Span} {j:Nat},setS n s i a= .ok (l,j)->(∀x∈a,Znp x)->l≠ []/\ ∀x∈l,Znp x
 |0,_,_,_,_,h,_=>by cases h
 |n+1,i,a,l,j,h,d=>by
  simp only[setS]at h;split at h;rename_i c;cases h;exact⟨c.1,d⟩;split at h;cases h;rename_i x k e;refine Ziv h λy b=> ?_;rcases qA.1 b with b|b;exact d y b;rw[vE]at b;subst b;exact Zpr e
theorem Zt7{s}{i j:Nat}{g:Glob}(h:Xx s i= .ok (g,j)):oneS g=true:=by
 unfold Xx at h;split at h;cases h
 .split at h;cases h;rfl
  .split at h;cases h;rfl
   .split at h
    .split at h;cases h
     .rename_i l k f;obtain⟨c,d⟩:=Ziv f (λx b=>by cases b);cases h;unfold oneS;rw[uE (show¬(3:Int)=0 from dc),uE (show¬((3:Int)=1\/(3:Int)=2) from dc),uF rfl];have e:(l.any λx=>ltI x.hi x.lo)=false:=by
       rw[List.any_eq_false];intro x b;have:=d x b;unfold Znp at this;simp[ltI];omega
      show((0:Int)==0&& !l.isEmpty&& !(l.any λx=>ltI x.hi x.lo))=true;rw[e]
      cases l with
      |nil=>exact absurd rfl c
      |cons a l=>rfl
    .split at h;split at h;cases h;cases h;rfl;cases h;rfl
theorem Ziw{s} : ∀ {m i:Nat} {a l:List Glob},Qm m s i a= .ok l->mayS a=true->mayS l=true
 |0,_,_,_,h,_=>by cases h
 |m+1,i,a,l,h,b=>by
  simp only[Qm]at h;split at h;split at h;cases h;rename_i x j c;refine Ziw h ?_;unfold mayS at b ⊢;rw[List.all_append,b];simp[Zt7 c];cases h;exact b
theorem ZCn{t:List UInt8}(h:Ztm t=0):mayS (JE t)=true:=by
 unfold Ztm at h;unfold JE;split at h;cases h
 .rename_i c;rw[uE c]
  cases a:Qm (t.length+1) t 0 [] with
  |error e=>rw[a]at h;cases h
  |ok l=>exact Ziw a rfl
/-! ### A short text's expression may be -/
/-! ### The laws -/
theorem Znq{r:Re}(b:FineR r)(a:mayE r=true){s:List UInt8}(bg en:Bool):ZEb r s bg en=true↔StD s bg en r 0 s.length:=Zze (Zy9 b a).1 a om bg en
theorem Zzf{k:Int}{t s:List UInt8}(b:mayP k t=true)(n:k=2->anchB (ereL t)=false){i j:Nat}(a:i<=j)(f:j<=s.length):Hit k t s i j↔StD.catD s false false (JO k t) i j:=by
 have e:Hit k t s i j↔At (Xg k t s i) j:=⟨λh=>h.2.2,λh=>⟨a,f,h⟩⟩;rw[e];unfold Xg JO;by_cases d:k=2;subst d;obtain⟨_,m⟩:=Zpq b;rw[uF rfl,uE dc,uE dc,uF dc,Zkl,Zzc,Zze (Zy9 (Zj5 t) m).1 m om];exact Ze1 (ereL t) (n rfl) i j
 .rw[uE d,Zgu (by rw[Qn];omega),Zag,uN (show i<=j/\j<s.length+1 from om),uT];unfold fitP;by_cases c:k=0;rw[uF c,uF (su c),Zg0 t a f];simp
  .rw[uE c,uE (su c)];by_cases g:k=1
   .subst g;have o:Ztm t=0:=by
     unfold mayP at b;rw[uE dc,uF dc]at b;simpa using b
    have l:=ZCn o;rw[uF dc,Znl _ l a f,l,uT]
   .exfalso;unfold mayP at b;rw[uE (su c),uE (su g),uE (su d)]at b;cases b
theorem Zt8{k:Int}{t s:List UInt8}(a:mayP k t=true)(b:k=2->anchB (ereL t)=false)(f:mayE (sevS 4 (ZU::(JO k t++ [ZU])))=true):ZEb (sevS 4 (ZU::(JO k t++ [ZU]))) s false false=true↔ ∃i j,Hit k t s i j:=by rw[Znq (Zro (Zcj a) (Zri k t)) f,ZIq,Zt6];constructor;rintro⟨i,j,c,d,e⟩;exact⟨i,j,(Zzf a b c d).2 e⟩;rintro⟨i,j,h⟩;exact⟨i,j,h.1,h.2.1,(Zzf a b h.1 h.2.1).1 h⟩
end Go.Y
namespace Go.Y
open Gl
set_option maxHeartbeats 1000000
def kdRe:Re->Prop
 | .mk k _ a _ _ _=>(0<=k/\k<=7)/\kdRes a
where
 kdRes:List Re->Prop
  | []=>True
  |r::l=>kdRe r/\kdRes l
mutual
theorem Zix: ∀(r:Re) (lv e g f:Int),rightF r lv e g=some f->kdRe r
 | .mk k s b w v n,lv,e,g,f,h=>by
  rw[rightF]at h;rw[kdRe];have d:((b.length:Nat):Int)=0->kdRe.kdRes b:=λh=>by
   have:b= []:=by cases b with
    |nil=>rfl
    |cons a l=>simp at h;omega
   subst this;rw[kdRe.kdRes];trivial
  by_cases i:Zea k s w v n=false;rw[uF i]at h;cases h;rw[uE i]at h;by_cases j:k=0;rw[uF j]at h;split at h;rename_i c;exact⟨om,d (by simp at c;simp[c.2])⟩;cases h;rw[uE j]at h;by_cases m:k=1;rw[uF m]at h;split at h;rename_i c;exact⟨om,d (su c)⟩;cases h;rw[uE m]at h;by_cases o:k=2\/k=3;rw[uF o]at h;split at h;rename_i c;exact⟨om,d (by simp at c;simp[c.2])⟩;cases h;rw[uE o]at h;by_cases p:k=4;rw[uF p]at h;split at h;exact⟨om,JD _ _ _ _ _ h⟩;cases h;rw[uE p]at h;by_cases q:k=5;rw[uF q]at h;split at h;exact⟨om,JD _ _ _ _ _ h⟩;cases h;rw[uE q]at h;by_cases t:k=6;rw[uF t]at h;split at h;exact⟨om,JD _ _ _ _ _ h⟩;cases h;rw[uE t]at h;by_cases u:k=7;rw[uF u]at h;by_cases c:((n==if ltI 9 (XR (g+1))then 0 else XR (g+1))&&ltI e 64&&((b.length:Nat):Int)==1)=true;rw[uF c]at h;exact⟨om,JD _ _ _ _ _ h⟩;rw[uE c]at h;cases h;rw[uE u]at h;cases h
theorem JD: ∀(l:List Re) (lv a g b:Int),rightF.kidsF l lv a g=some b->kdRe.kdRes l
 | [],_,_,_,_,_=>by rw[kdRe.kdRes];trivial
 |r::l,lv,a,g,b,h=>by
  rw[rightF.kidsF]at h;rw[kdRe.kdRes]
  cases c:rightF r lv a g with
  |none=>rw[c]at h;cases h
  |some d=>
   rw[c]at h;exact⟨Zix r lv a g d c,JD l lv a d b h⟩
end
theorem ZCo{r:Re}(h:mayE r=true):kdRe r:=by
 unfold mayE at h;simp only[qrq]at h;obtain⟨g,a⟩:=Option.isSome_iff_exists.1 h.1;exact Zix r _ _ _ _ a
theorem Znr{s}{i x j:Nat}(b:i<=x)(c:x<=j):segS s i j=segS s i x++segS s x j:=by unfold segS;have a:j-i=(x-i)+(j-x):=om;rw[a,List.take_add,vI,show i+(x-i)=x from om]
theorem Zzg{s:List UInt8}{i j:Nat}(l:j<=s.length){a d:List UInt8}(h:segS s i j=a++d)(k:i<=j):i+a.length<=j/\a=segS s i (i+a.length)/\d=segS s (i+a.length) j:=by have m:=WX (s:=s) (i:=i) l;rw[h,qf]at m;have c:i+a.length<=j:=om;have e:=Znr (s:=s) (i:=i) (x:=i+a.length) (j:=j) om c;rw[h]at e;have b:=WX (s:=s) (i:=i) (j:=i+a.length) om;obtain⟨f,g⟩:=List.append_inj e (by rw[b];omega);exact⟨c,f,g⟩
theorem Zzh{s:List UInt8}{P Q:Nat->Nat->Prop}{L M:List UInt8->Prop}(n: ∀i j,i<=j->j<=s.length->(P i j↔L (segS s i j)))(o: ∀i j,i<=j->j<=s.length->(Q i j↔M (segS s i j)))
  (r: ∀i j,i<=s.length->P i j->i<=j/\j<=s.length) (t: ∀i j,i<=s.length->Q i j->i<=j/\j<=s.length) {i j:Nat} (e:i<=j) (f:j<=s.length):
  (∃x,P i x/\Q x j)↔ ∃d g,segS s i j=d++g/\L d/\M g:=by
 constructor;rintro⟨x,b,c⟩;obtain⟨k,l⟩:=r i x om b;obtain⟨m,_⟩:=t x j l c;exact⟨_,_,Znr k m,(n i x k l).1 b,(o x j m f).1 c⟩;rintro⟨d,g,h,b,c⟩;obtain⟨a,p,q⟩:=Zzg f h e;refine⟨i+d.length,(n _ _ om om).2 (by rw[<-p];exact b),(o _ _ a f).2 (by rw[<-q];exact c)⟩
theorem Zps{s:List UInt8}{i j:Nat}(a:i<=j)(b:j<=s.length):i=j↔segS s i j= []:=by constructor;intro h;subst h;exact Zbh s i;intro h;have:=WX (s:=s) (i:=i) b;rw[h]at this;simp at this;omega
theorem Zzi{s:List UInt8}{P:Nat->Nat->Prop}{L:List UInt8->Prop}(f: ∀i j,i<=j->j<=s.length->(P i j↔L (segS s i j)))(e: ∀i j,i<=s.length->P i j->i<=j/\j<=s.length):
  ∀(m:Nat) (i j:Nat),i<=j->j<=s.length->(powD P m i j↔Pow L m (segS s i j))
 |0,i,j,c,d=>Zps c d
 |m+1,i,j,c,d=>Zzh f (λi j g k=>Zzi f e m i j g k) e (λi j o h=>Zyy (λa b l n=>e a b l n) m o h) c d
mutual
theorem Zkn{s:List UInt8}{bg en:Bool} : ∀(r:Re),kdRe r->okRe r->gkRe r->wfRe 1000 r-> ∀i j,i<=j->j<=s.length->(StD s bg en r i j↔ReL hasC r (segS s i j))
 | .mk k W g Z Y n,q,y,o,p,i,j,d,f=>by
  rw[kdRe]at q;rw[okRe]at y;rw[gkRe]at o;rw[wfRe]at p;obtain⟨O,P,o6,ok⟩:=y;rw[StD,ReL];by_cases A:k=0;simp only[uF A];exact Zps d f;simp only[uE A];by_cases B:k=1;simp only[uF B];constructor;rintro⟨c,l,t,rfl⟩;obtain⟨X,G⟩:=qb.1 l;refine⟨c,?_,t⟩;rw[Zah om f,Zbh,G];rintro⟨c,l,t⟩;have w:=WX (s:=s) (i:=i) f;rw[l]at w;simp at w;have e:j=i+1:=om;subst e;rw[Zah om f,Zbh]at l;have F:s[i]=c:=su l;exact⟨c,by rw[qo om,F],t,rfl⟩;simp only[uE B,uE O,uE P];by_cases C:k=4;subst C;simp only[uF,true_or];exact Zko g q.2 ok o.2 p.2.2.2 i j d f;simp only[uE C];by_cases D:k=5;subst D;simp only[uF,show¬((5:Int)=4\/(5:Int)=7) from dc,vF];exact Zsa g q.2 ok o.2 p.2.2.2 i j d f;simp only[uE D];by_cases E:k=6
  .subst E;simp only[uF,show¬((6:Int)=4\/(6:Int)=7) from dc,vF];obtain⟨x,rfl⟩:=List.length_eq_one_iff.1 (p.1 rfl).2.2.2;have L:=Zzj (s:=s) (bg:=bg) (en:=en) [x] q.2 ok o.2 p.2.2.2 x rfl;have l:(λa b=>StD.headD s bg en [x] a b)=λa b=>StD s bg en x a b:=funext λa=>funext λb=>by rw[StD.headD]
   rw[l];have z:=Zzi (s:=s) L (λa b H K=>Zct x H K);constructor;rintro⟨m,u,v,h⟩;exact⟨m,u,v,by rw[ReL.powL];exact(z m i j d f).1 h⟩;rintro⟨m,u,v,h⟩;rw[ReL.powL]at h;exact⟨m,u,v,(z m i j d f).2 h⟩
  simp only[uE E];have N:k=7:=om;subst N;simp only[uF,or_true];obtain⟨x,rfl⟩:=List.length_eq_one_iff.1 (o.1 rfl);rw[StD.headD,<-Zkl];exact Zko [x] q.2 ok o.2 p.2.2.2 i j d f
theorem Zko{s:List UInt8}{bg en:Bool} : ∀(l:List Re),kdRe.kdRes l->okRe.okRes l->gkRe.gkRes l->wfRe.wfRes 1000 l-> ∀i j,i<=j->j<=s.length->(StD.catD s bg en l i j↔ReL.catL hasC l (segS s i j))
 | [],_,_,_,_,i,j,c,g=>by rw[StD.catD,ReL.catL];exact Zps c g
 |r::l,h,k,f,m,i,j,c,g=>by
  rw[kdRe.kdRes]at h;rw[okRe.okRes]at k;rw[gkRe.gkRes]at f;rw[wfRe.wfRes]at m;rw[StD.catD,ReL.catL];have n:=Zkn (s:=s) (bg:=bg) (en:=en) r h.1 k.1 f.1 m.1;have o:=Zko (s:=s) (bg:=bg) (en:=en) l h.2 k.2 f.2 m.2;exact Zzh n o (λa b d e=>Zct r d e) (λa b d e=>Zgv l d e) c g
theorem Zsa{s:List UInt8}{bg en:Bool} : ∀(l:List Re),kdRe.kdRes l->okRe.okRes l->gkRe.gkRes l->wfRe.wfRes 1000 l-> ∀i j,i<=j->j<=s.length->(StD.altD s bg en l i j↔ReL.altL hasC l (segS s i j))
 | [],_,_,_,_,i,j,a,c=>by rw[StD.altD,ReL.altL]
 |r::l,d,e,b,f,i,j,a,c=>by
  rw[kdRe.kdRes]at d;rw[okRe.okRes]at e;rw[gkRe.gkRes]at b;rw[wfRe.wfRes]at f;rw[StD.altD,ReL.altL];exact or_congr (Zkn r d.1 e.1 b.1 f.1 i j a c) (Zsa l d.2 e.2 b.2 f.2 i j a c)
theorem Zzj{s:List UInt8}{bg en:Bool} : ∀(l:List Re),kdRe.kdRes l->okRe.okRes l->gkRe.gkRes l->wfRe.wfRes 1000 l-> ∀x,l.head? =some x-> ∀i j,i<=j->j<=s.length->(StD s bg en x i j↔ReL hasC x (segS s i j))
 | [],_,_,_,_,x,a=>by cases a
 |r::l,c,d,b,e,x,a=>by
  rw[kdRe.kdRes]at c;rw[okRe.okRes]at d;rw[gkRe.gkRes]at b;rw[wfRe.wfRes]at e;cases a;exact Zkn r c.1 d.1 b.1 e.1
end
end Go.Y
namespace Go.Y
set_option maxRecDepth 1000000
set_option maxHeartbeats 0
theorem Zsb(a:List Set4): ∀c,∀b,b<c->keyN a b=keyN a ((srtS a c).2.getD ((srtS a c).1.getD b 0) 0)/\(srtS a c).1.getD b 0<(srtS a c).2.length
 |0,b,h=>om
 |c+1,b,h=>by
  have l:=(JQ a c).1;have m:=Zsb a c;rw[srtS]
  cases i:(srtS a c).2.findIdx? λd=>keyN a c==keyN a d with
  |some k=>
   simp only;rw[List.findIdx?_eq_some_iff_getElem]at i;obtain⟨j,g,_⟩:=i;by_cases e:b=c
   .subst e;have f:((srtS a b).1++ [k]).getD b 0=k:=by
     rw[qw,vB om,l];simp
    rw[f];refine⟨?_,j⟩;rw[qw,qo j];simpa using g
   .have f:((srtS a c).1++ [k]).getD b 0=(srtS a c).1.getD b 0:=by
     rw[qw,vC om,qw]
    rw[f];exact m b om
  |none=>
   simp only;by_cases e:b=c
   .subst e;have f:((srtS a b).1++ [(srtS a b).2.length]).getD b 0=(srtS a b).2.length:=by
     rw[qw,vB om,l];simp
    rw[f];refine⟨?_,sm⟩;rw[qw,vB (qnq _)];simp
   .have f:((srtS a c).1++ [(srtS a c).2.length]).getD b 0=(srtS a c).1.getD b 0:=by
     rw[qw,vC om,qw]
    rw[f];obtain⟨o,n⟩:=m b om;refine⟨?_,by rw[qf];omega⟩;rw[o];generalize (srtS a c).1.getD b 0=k at n
    congr 1
    rw[qw,qw,vC n]
theorem Zns(c:Nat):hasN set0 c=false:=by
 have h: ∀k,Zd9 set0 k=0:=λk=>by
  unfold Zd9 set0
  match k with
  |0=>rfl
  |1=>rfl
  |2=>rfl
  |k+3=>rfl
 unfold hasN;rw[h];simp
theorem ZIs{a:List Set4}{c d:Nat}(h:keyN a c=keyN a d)(p:Nat):hasN (a.getD p set0) c=hasN (a.getD p set0) d:=by
 by_cases e:p<a.length
 .have b:(keyN a c)[p]? =(keyN a d)[p]? :=by rw[h]
  unfold keyN at b;rw[vH,vH,qo e]at b;rw[qw,qo e];simp only[uw,uB]at b;show hasN a[p] c=hasN a[p] d;cases f:hasN a[p] c<;>cases g:hasN a[p] d<;>rw[f,g]at b<;>first|rfl|cases b
 .rw[qw,qq om];show hasN set0 c=hasN set0 d;rw[Zns,Zns]
theorem Zsc{a:List Set4}{c d:Nat}(h:keyN a c=keyN a d)(l):havL a l c=havL a l d:=by unfold havL;exact List.filter_congr λp _=>ZIs h _
theorem Zzk{a:Au}{c d:Nat}(h:keyN a.sets c=keyN a.sets d)(b):WN a b c=WN a b d:=by
 unfold WN;have e:catL a b c=catL a b d:=by
  unfold catL
  congr 1
  funext p;unfold Zb2;rw[Zsc h]
 rw[e]
theorem ZIt{a:Au}{c d:Nat}(h:keyN a.sets c=keyN a.sets d)(at_:Nat)(T:List (List Int)):stD a at_ T c=stD a at_ T d:=by
 unfold stD;rw[Zzk h,Zsc h]
def RowIs(a:Au)(at_:Nat)(T:List (List Int))(b:List Nat)(r:List Int):Prop:=r.length=b.length/\ ∀k,k<b.length-> ∃i,i<T.length/\r.getD k 0=((i+1:Nat):Int)/\T.getD i []=stD a at_ T (b.getD k 0)
theorem RowIs.ext{a}{at_:Nat}{T X:List (List Int)}{b}{r}(h:RowIs a at_ T b r)(f:at_<T.length+1):RowIs a at_ (T++X) b r:=by refine⟨h.1,λk g=> ?_⟩;obtain⟨i,c,d,e⟩:=h.2 k g;exact⟨i,by rw[qf];omega,d,by rw[Zka c,e,Zx8 a f]⟩
theorem RowIs.snoc{a}{at_:Nat}{T:List (List Int)}{b:List Nat}{r:List Int}(h:RowIs a at_ T b r){c i:Nat}(m:i<T.length)(n:T.getD i []=stD a at_ T c):RowIs a at_ T (b++ [c]) (r++ [((i+1:Nat):Int)]):=by refine⟨by simp[h.1],λk d=> ?_⟩;rw[qf]at d;simp only[qh,qp]at d;by_cases e:k=b.length;subst e;refine⟨i,m,?_,?_⟩;rw[qw,vB (by rw[h.1];omega),h.1];simp;rw[n,qw,vB (qnq _)];simp;obtain⟨j,f,g,l⟩:=h.2 k om;refine⟨j,f,?_,?_⟩;rw[<-g,qw,qw,vC (by rw[h.1];omega)];rw[l,qw,qw,vC om]
theorem Zt9{T:List (List Int)}{l:List Int}{i:Nat}(h:Zal T l=some i):i<T.length/\T.getD i []=l:=by unfold Zal at h;rw[List.findIdx?_eq_some_iff_getElem]at h;obtain⟨a,b,_⟩:=h;refine⟨a,?_⟩;rw[qw,qo a];simpa using b
theorem Zpt{a}{most at_:Nat} : ∀(d:List Nat) {done:List Nat} {T:List (List Int)} {r:List Int} {b:List (List Int)} {g:List Int},at_<T.length+1->RowIs a at_ T done r->rowD a most at_ d T r=some (b,g)->
  RowIs a at_ b (done++d) g/\ ∃X,b=T++X
 | [],done,T,r,b,g,e,f,h=>by
  rw[rowD]at h;cases h;exact⟨by rw[qi];exact f,[],sm⟩
 |c::d,done,T,r,b,g,e,f,h=>by
  rw[rowD]at h;split at h
  .rename_i i n;obtain⟨l,m⟩:=Zt9 n;have:=Zpt d (done:=done++ [c]) e (f.snoc l m) h
   rwa [uU,List.singleton_append]at this
  .split at h;cases h
   .have j:=(f.ext (X:= [stD a at_ T c]) e).snoc (c:=c) (i:=T.length) sm (by
     rw[Zx8 a e,qw,vB (qnq _)];simp)
    obtain⟨k,X,o⟩:=Zpt d (done:=done++ [c]) (by simp;omega) j h;rw[uU,List.singleton_append]at k;exact⟨k,_,by rw[o,uU]⟩
structure LoopIs(a:Au)(le:List Nat)(T N:List (List Int))(G:List Bool):Prop where
 gl:G.length=N.length
 nl:N.length<=T.length+1
 row: ∀x,x<N.length->RowIs a x T le (N.getD x [])
 good: ∀x,x<N.length->G.getD x false=Zec a x T
theorem Zzl{a}{x:Nat}{T X:List (List Int)}(h:x<T.length+1):Zec a x (T++X)=Zec a x T:=by unfold Zec;split;rfl;rw[Zka om]
theorem Zsd{a}{most:Nat}{le}(p:OkA a): ∀(f:Nat) {T N:List (List Int)} {G:List Bool} {c:List (List Int)} {g:List Bool},TOk most T->f+N.length=most+1->LoopIs a le T N G->Jd a most le f N.length T N G=some (c,g)->
  ∃o,LoopIs a le o c g/\c.length=o.length+1
 |0,T,N,G,c,g,l,s,b,h=>by
  have:=l.len;have:=b.nl;omega
 |f+1,T,N,G,c,g,l,s,b,h=>by
  rw[Jd]at h;split at h
  .rename_i n
   cases i:rowD a most N.length le T [] with
   |none=>rw[i]at h;cases h
   |some y=>
    obtain⟨w,r⟩:=y;rw[i]at h;obtain⟨q,X,v⟩:=Zpt le (done:= []) n ⟨rfl,λk u=>by simp at u⟩ i;rw[qy]at q;obtain⟨m,_,_,_⟩:=Zj9 p l i;subst v;have e:N.length+1=(N++ [r]).length:=sm;simp only[e]at h;refine Zsd p f m (by simp;omega) ⟨by simp[b.gl],by simp;omega,λx d=> ?_,λx d=> ?_⟩ h;rw[qf]at d;simp only[qh,qp]at d;by_cases j:x=N.length;subst j;rw[qw,vB (qnq _)];simpa using q;rw[qw,vC om,<-qw];exact(b.row x om).ext om;rw[qf]at d;simp only[qh,qp]at d;by_cases j:x=N.length;subst j;rw[qw,vB (by rw[b.gl];exact qnq _),b.gl];simp;rw[qw,vC (by rw[b.gl];omega),<-qw,b.good x om,Zzl om]
  .rename_i t;cases h;exact⟨T,b,by have:=b.nl;omega⟩
theorem Zzm{a}(s:OkA a){most:Nat}(r:1<=most){d:Dn}(h:tabD a most=some d)(w:List UInt8):d.G.getD ((w.map λc=>c.toNat).foldl (nxt d.cl d.N) 0) false=runA a w:=by
 have l:=Zsb a.sets 256;unfold tabD tabW at h;revert h l;generalize srtS a.sets 256=p;intro h l
 cases m:Jd a most p.2 (most+1) 0 [] [] [] with
 |none=>rw[m]at h;cases h
 |some x=>
  obtain⟨N,G⟩:=x;rw[m]at h;cases h;obtain⟨T,k,z⟩:=Zsd s (most+1) (T:= []) (N:= []) (G:= []) ⟨su r,λx b=>by cases b⟩ sm ⟨rfl,sm,λx b=>by simp at b,λx b=>by simp at b⟩ m;show G.getD ((w.map λc=>c.toNat).foldl (nxt p.1 N) 0) false=runA a w;have step: ∀(x:Nat) (c:UInt8),x<N.length-> ∃i,i<T.length/\nxt p.1 N x c.toNat=i+1/\T.getD i []=stD a x T c.toNat:=λx c b=>by
   obtain⟨u,v⟩:=l c.toNat c.toNat_lt;obtain⟨i,n,e,f⟩:=(k.row x b).2 _ v;refine⟨i,n,?_,by rw[f,ZIt u]⟩;unfold nxt;rw[e];omega
  have g: ∀(w:List UInt8) (x:Nat),0<x->x<N.length->0<(w.map λc=>c.toNat).foldl (nxt p.1 N) x/\(w.map λc=>c.toNat).foldl (nxt p.1 N) x<N.length/\T.getD ((w.map λc=>c.toNat).foldl (nxt p.1 N) x-1) []=w.foldl (λy c=>WN a y c.toNat) (T.getD (x-1) []):=by
   intro w
   induction w with
   |nil=>exact λx j b=>⟨j,b,rfl⟩
   |cons c w t=>
    intro x j b;obtain⟨i,n,e,f⟩:=step x c b;rw[qz,uR,uR,e];obtain⟨r1,o,q⟩:=t (i+1) om om;refine⟨r1,o,?_⟩;rw[q,Nat.add_sub_cancel,f];unfold stD;rw[uF j]
  cases w with
  |nil=>
   show G.getD 0 false=runA a [];rw[k.good 0 om]
   rfl
  |cons c w=>
   obtain⟨i,n,e,f⟩:=step 0 c om;rw[qz,uR,e];obtain⟨r1,o,q⟩:=g w (i+1) om om;rw[k.good _ o];unfold Zec;rw[uE om,q,Nat.add_sub_cancel,f]
   rfl
end Go.Y
namespace Go.Y
open Go.Proofs Gl
set_option maxHeartbeats 1000000
abbrev Zzn(k:Int)(t:List UInt8):Re:=sevS 4 (ZU::(JO k t++ [ZU]))
theorem Zg1{k:Int}{t:List UInt8}(h:(Xz k t).2=0):mayP k t=true/\(k=2->anchB (ereL t)=false)/\mayE (Zzn k t)=true/\(Xz k t).1=Zzn k t:=by
 unfold Xz at h ⊢;by_cases d:mayP k t=false;rw[uF d]at h;cases h;rw[uE d]at h ⊢;by_cases b:(k==2)=true/\anchB (ereL t)=true;rw[uF b]at h;cases h;rw[uE b]at h ⊢;have a:mayE (Zzn k t)=true:=by
  cases a:mayE (Zzn k t) with
  |true=>rfl
  |false=>
   unfold fitE at h;rw[uE (by rw[a];decide)]at h;cases h
 refine⟨su d,λc=> ?_,a,?_⟩
 .cases e:anchB (ereL t) with
  |false=>rfl
  |true=>exact absurd ⟨su c,e⟩ b
 .unfold Zj2;rw[uF a]
theorem Zse{k:Int}{t}(h:(Xz k t).2=0)(f:(JF (Xz k t).1).2=0)(s:List UInt8):runA (JF (Xz k t).1).1 s=true↔ ∃i j,Hit k t s i j:=by
 obtain⟨d,g,b,e⟩:=Zg1 h;have a:=Ww k t;obtain⟨l,m,c,n⟩:=Zry a f;rw[l,Zs3 Zv3 (Zjq _ a.wf c)];rw[e]at a c ⊢;rw[<-Zt8 d g b,Znq (Zro (Zcj d) (Zri k t)) b];have:=Zkn (s:=s) (bg:=false) (en:=false) (Zzn k t) (ZCo b) (Zjq _ a.wf c) (Zgz b).1 a.wf 0 s.length (qx _) (qnq _);rw[ZIo]at this;exact this.symm
theorem Zdv(d e:Dn): ∀(w:List Nat) (p:Nat×Nat),w.foldl (Zdt d e) p=(w.foldl (nxt d.cl d.N) p.1,w.foldl (nxt e.cl e.N) p.2)
 | [],p=>rfl
 |c::w,p=>by
  rw[uR,Zdv d e w];rfl
theorem Zua{d:Dn}{w:Nat}(b:DOk d.cl d.N d.G w):Qy d d=false:=by
 cases h:Qy d d with
 |false=>rfl
 |true=>
  obtain⟨v,_,a⟩:=(Zig b b).1 h;unfold wayQ at a;rw[Zdv]at a;unfold soQ at a;simp at a
theorem ZCp{d e:Dn}{j k:Nat}(f:DOk d.cl d.N d.G j)(g:DOk e.cl e.N e.G k)(h:Qy d e=false)(s:List UInt8)(i:d.G.getD ((s.map λc=>c.toNat).foldl (nxt d.cl d.N) 0) false=true):e.G.getD ((s.map λc=>c.toNat).foldl (nxt e.cl e.N) 0) false=true:=by
 have a:=(Zig f g).2 h (s.map λc=>c.toNat) (λc b=>by
  obtain⟨x,_,rfl⟩:=uW.1 b;exact x.toNat_lt)
 unfold wayQ at a;rw[Zdv]at a;unfold soQ at a;rw[i]at a;simpa using a
theorem ZCq{k1:Int}{t1:List UInt8}{k2:Int}{t2:List UInt8}{most:Nat}(f:1<=most)(o:most<=300):
  ((Zbf k1 t1 k2 t2 most).2≠0->(Zbf k1 t1 k2 t2 most).1=false)/\
  ((Zbf k1 t1 k2 t2 most).2=0->mayP k1 t1=true/\mayP k2 t2=true/\Zbf k1 t1 k1 t1 most=(true,0)/\((Zbf k1 t1 k2 t2 most).1=true-> ∀s,(∃i j,Hit k1 t1 s i j)-> ∃i j,Hit k2 t2 s i j)):=by
 unfold Zbf Zm6;by_cases a: ¬(Xz k1 t1).2=0;rw[uE a];exact⟨λ_=>rfl,λc=>absurd c a⟩;have a:=Classical.not_not.1 a;rw[uF a,uF a];by_cases g: ¬(Xz k2 t2).2=0;rw[uE g];exact⟨λ_=>rfl,λc=>absurd c g⟩;have g:=Classical.not_not.1 g;rw[uF g];unfold Zm5;by_cases b: ¬(JF (Xz k1 t1).1).2=0;rw[uE b];exact⟨λ_=>rfl,λc=>absurd c b⟩;have b:=Classical.not_not.1 b;rw[uF b,uF b];by_cases h: ¬(JF (Xz k2 t2).1).2=0;rw[uE h];exact⟨λ_=>rfl,λc=>absurd c h⟩;have h:=Classical.not_not.1 h;rw[uF h,uF b];have p:=Zcm (Ww k1 t1) b;have q:=Zcm (Ww k2 t2) h;have r1:=Zse a b;have w:=Zse g h
 cases l:tabD (JF (Xz k1 t1).1).1 most with
 |none=>exact⟨λ_=>rfl,λc=>by cases c⟩
 |some d=>
  cases m:tabD (JF (Xz k2 t2).1).1 most with
  |none=>exact⟨λ_=>rfl,λc=>by cases c⟩
  |some e=>
   obtain⟨x,n⟩:=Zbe p f o l;obtain⟨y,r⟩:=Zbe q f o m;refine⟨λc=>absurd rfl c,λ_=>⟨(Zg1 a).1,(Zg1 g).1,?_,λk s t=> ?_⟩⟩;rw[uF a];show(!Qy d d,(0:Int))=(true,0);rw[Zua n];rfl
   .have k:Qy d e=false:=by
     have:(!Qy d e)=true:=k;simpa using this
    have u:=Zzm p f l s;have v:=Zzm q f m s;have:=ZCp n r k s (by rw[u];exact(r1 s).2 t);rw[v]at this;exact(w s).1 this
end Go.Y
namespace Go.Y
open Go.Proofs
set_option maxRecDepth 1000000
set_option maxHeartbeats 0
theorem ZTk{k0 t0 k1 t1 s2 h}(K):CP xY_ 4 ((flat (Za Tryz.f4)).take 10) (.agg [I k0, .s t0]::.agg [I k1, .s t1]::.s s2::Rp 81) h [3,4,6,7,10,12] K=(∃a,(PCon xY_ 12 [] λv=>v=.b a)/\If (!a) (K .ret 84 [.lb [I k0, .s t0], .lb [I k1, .s t1], .b false,Ud,Ud,Ud] h) ((λk=>If (ltI 30 (↑t0.length:Int)) k (If (ltI 30 (↑t1.length:Int)) k (If (ltI 20 (↑s2.length:Int)) k (∃b c,(PCon xY_ 13 [.agg [I k0,.s t0],.agg [I k1,.s t1],I 60] λv=>v=.tup [.b b,I c])/\ ∃d e f g i j l m n o p q r t u w x y z C A,(PCon xY_ 14 [.agg [I k0,.s t0],.s s2,I 0] fun(v:V)=>v=.tup [.agg [I d,I e,I f,I g,I i,I j,I l,I m,I n,I o,I p,I q,I r,I t,I u,I w,I x,I y,I z,I C],.b A])/\ ∃D E F G H L N O P W X Y Z b5 b6 b7 b8 b9 c0 c1 B,(PCon xY_ (14:Nat) [.agg [I k1,.s t1],.s s2,I (0:Int)] fun(v:V)=>v=.tup [.agg [I D,I E,I F,I G,I H,I L,I N,I O,I P,I W,I X,I Y,I Z,I b5,I b6,I b7,I b8,I b9,I c0,I c1],.b B])/\If (c !=(0:Int)) (K Out.ret 84 [.lb [I k0,.s t0],.lb [I k1,.s t1],.b !b,.b b,.b A,.b B] h) (K Out.normal 84 [.lb [I k0,.s t0],.lb [I k1,.s t1],.b false,.b b,.b A,.b B] h))))) (K .ret 84 [.lb [I k0, .s t0], .lb [I k1, .s t1], .b true,Ud,Ud,Ud] h))):=kr
theorem ZTl{k0 t0 k1 t1 b7 a c h}(K):CP xY_ 4 ((flat (Za Tryz.f4)).drop 10) (MZ 84 [3,4,6,7,10,12] [.lb [I k0, .s t0],.lb [I k1, .s t1],.b false,.b b7,.b a,.b c]) h [6] K=(∃d e,(λi=>(PCon xY_ 13 [.agg [I k0,.s t0],.agg [I k0,.s t0],I 60] λv=>v=.tup [.b d,I e])/\If (!b7) i (If (!a) i (If c i (K .ret 84 [.b false] h)))) (If d (If (e==(0:Int)) (∃f,(PCon xY_ 15 [.agg [I k0,.s t0]] λv=>v=.b f)/\If f (∃g,(PCon xY_ 15 [.agg [I k1,.s t1]] λv=>v=.b g)/\K .ret 84 [.b g] h) (K .ret 84 [.b false] h)) (K .ret 84 [.b false] h)) (K .ret 84 [.b false] h))):=kr
theorem Zzo{k:Int}{t s:List UInt8}(H:s.length<2 ^ 19): ∃(a d e f g h m n o p q r u w x y z A B C:Int) (b:Bool),(b=true↔mayP k t=true/\ ∃i j,Hit k t s i j)/\
  PCon xY_ 14 [.agg [I k, .s t], .s s,I 0] (λv=>v= .tup [.agg [I a,I d,I e,I f,I g,I h,I m,I n,I o,I p,I q,I r,I u,I w,I x,I y,I z,I A,I B,I C], .b b]):=by
 obtain⟨l,b,F,E,D⟩:=ZPy (k:=k) (t:=t) H (λc G=>by subst c;exact Zy9 (Zj5 t) (Zpq G).2)
 match l,F with
 | [a,d,e,f,g,h,m,n,o,p,q,r,u,w,x,y,z,A,B,C],_=>exact⟨a,d,e,f,g,h,m,n,o,p,q,r,u,w,x,y,z,A,B,C,b,E,D⟩
theorem law4(j:PCon UY 12 [] (· = .b true))(o:ZQ UY.P 75)(n:ZE UY.P 76)(a:Int)(t1:List UInt8)(e:Int)(t2:List UInt8)(s:List UInt8):
  PCon xY_ 4 [.agg [I a, .s t1], .agg [I e, .s t2], .s s] (· = .b true):=by
 have j:=PCon.vx (PCon.zv j);have m:PCon xY_ 13 [.agg [I a, .s t1], .agg [I e, .s t2],I 60] (· =resB (Zbf a t1 e t2 60)):=PCon.vx (PCon.zv (Zrz o n a t1 e t2 (most:=60) dc dc));have i:PCon xY_ 13 [.agg [I a, .s t1], .agg [I a, .s t1],I 60] (· =resB (Zbf a t1 a t1 60)):=PCon.vx (PCon.zv (Zrz o n a t1 a t1 (most:=60) dc dc));have c:=PCon.vx (PCon.zv (Zck a t1));have d:=PCon.vx (PCon.zv (Zck e t2));obtain⟨L,N⟩:=ZCq (k1:=a) (t1:=t1) (k2:=e) (t2:=t2) (most:=60) dc dc;unfold resB at m i;refine ZF xK_ (fn:=Tryz.f4) rfl ?_;refine WR xK_ 84 10 ZTk rfl kr ?_;refine⟨true,j,ifF rfl (Xr (λp=>fin1 rr rfl (.b _) rfl) (λp=>Xr (λq=>fin1 rr rfl (.b _) rfl) (λq=>Xr (λG=>fin1 rr rfl (.b _) rfl) (λG=> ?_))))⟩;have A:s.length<2 ^ 19:=om;obtain⟨x0,x1,x2,x3,x4,x5,x6,x7,x8,x9,y0,y1,y2,y3,y4,y5,y6,y7,y8,y9,y,u,C⟩:=Zzo (k:=a) (t:=t1) A;obtain⟨z0,z1,z2,z3,z4,z5,z6,z7,z8,z9,w0,O,W,X,Y,Z,w6,w7,w8,w9,z,w,D⟩:=Zzo (k:=e) (t:=t2) A;refine⟨_,_,m,x0,x1,x2,x3,x4,x5,x6,x7,x8,x9,y0,y1,y2,y3,y4,y5,y6,y7,y8,y9,y,C,z0,z1,z2,z3,z4,z5,z6,z7,z8,z9,w0,O,W,X,Y,Z,w6,w7,w8,w9,z,D,Zf (λx=> ?_) (λx=> ?_)⟩;exact fin1 rr rfl (.b _) (by rw[L (su x)];rfl);obtain⟨K,B,l,f⟩:=N (su x);rw[l]at i;rw[K]at c;rw[B]at d;refine⟨rfl,?_⟩;generalize (Zbf a t1 e t2 60).1=b at f;refine Zo xK_ ZTl rfl ?_;have g:Fin xY_ Tryz.f4 [6] (λv h=> ∃r,Frz h v r/\r= .b true) .ret 84 [V.b true] .empty:=ZB rr rfl (.b _) rfl;refine⟨_,_,i,Zf (λ_=>ifT rfl (ifT rfl ⟨_,c,ifT rfl ⟨_,d,g⟩⟩)) (λE=>Zf (λ_=>ifT rfl (ifT rfl ⟨_,c,ifT rfl ⟨_,d,g⟩⟩)) (λF=> ?_))⟩;have H:b=true:=su E;have p:y=true:=su F;have q:z=true:=w.2 ⟨B,f H s (u.1 p).2⟩;subst q;exact ifT rfl (ifT rfl (ifT rfl ⟨_,c,ifT rfl ⟨_,d,g⟩⟩))
end Go.Y
namespace Go.Proofs
open Go.Shelf
def Tryz.lays189_ren:Go.Shelf.Ren:=⟨fun|189=>75|125=>121|257=>120|128=>159|129=>160|294=>150|295=>151|296=>152|297=>153|298=>154|299=>155|216=>156|300=>157|301=>158|328=>179|329=>180|330=>181|331=>182|332=>183|215=>184|343=>192|n=>n,fun|28=>32|3=>3|46=>132|0=>0|51=>235|53=>23|4=>4|183=>228|182=>227|131=>199|5=>5|9=>9|218=>248|222=>252|228=>257|229=>217|n=>n,fun|n=>n⟩
theorem Tryz.lays189:Go.Proofs.Lays.n189 Tryz.prog Tryz.lays189_ren:= {
 mixed:=by kernel_rfl
 f125:=Tryz.func121.trans (congrArg some (by kernel_rfl))
 f128:=Tryz.func159.trans (congrArg some (by kernel_rfl))
 f129:=Tryz.func160.trans (congrArg some (by kernel_rfl))
 f189:=Tryz.func75.trans (congrArg some (by kernel_rfl))
 f215:=Tryz.func184.trans (congrArg some (by kernel_rfl))
 f216:=Tryz.func156.trans (congrArg some (by kernel_rfl))
 f257:=Tryz.func120.trans (congrArg some (by kernel_rfl))
 f294:=Tryz.func150.trans (congrArg some (by kernel_rfl))
 f295:=Tryz.func151.trans (congrArg some (by kernel_rfl))
 f296:=Tryz.func152.trans (congrArg some (by kernel_rfl))
 f297:=Tryz.func153.trans (congrArg some (by kernel_rfl))
 f298:=Tryz.func154.trans (congrArg some (by kernel_rfl))
 f299:=Tryz.func155.trans (congrArg some (by kernel_rfl))
 f300:=Tryz.func157.trans (congrArg some (by kernel_rfl))
 f301:=Tryz.func158.trans (congrArg some (by kernel_rfl))
 f328:=Tryz.func179.trans (congrArg some (by kernel_rfl))
 f329:=Tryz.func180.trans (congrArg some (by kernel_rfl))
 f330:=Tryz.func181.trans (congrArg some (by kernel_rfl))
 f331:=Tryz.func182.trans (congrArg some (by kernel_rfl))
 f332:=Tryz.func183.trans (congrArg some (by kernel_rfl))
 f343:=Tryz.func192.trans (congrArg some (by kernel_rfl))
 t0:=Tryz.underlying0
 a0:=Tryz.isAgg0
 z0:=Tryz.sizeOf0
 v0:=Tryz.zeroValue0
 t3:=Tryz.underlying3
 a3:=Tryz.isAgg3
 z3:=Tryz.sizeOf3
 v3:=Tryz.zeroValue3
 t4:=Tryz.underlying4
 a4:=Tryz.isAgg4
 z4:=Tryz.sizeOf4
 v4:=Tryz.zeroValue4
 t5:=Tryz.underlying5
 a5:=Tryz.isAgg5
 z5:=Tryz.sizeOf5
 v5:=Tryz.zeroValue5
 t9:=Tryz.underlying9
 a9:=Tryz.isAgg9
 z9:=Tryz.sizeOf9
 v9:=Tryz.zeroValue9
 t28:=Tryz.underlying32
 a28:=Tryz.isAgg32
 z28:=Tryz.sizeOf32
 v28:=Tryz.zeroValue32
 t46:=Tryz.underlying132
 a46:=Tryz.isAgg132
 z46:=Tryz.sizeOf132
 v46:=Tryz.zeroValue132
 t51:=Tryz.underlying235
 a51:=Tryz.isAgg235
 z51:=Tryz.sizeOf235
 v51:=Tryz.zeroValue235
 t53:=Tryz.underlying23
 a53:=Tryz.isAgg23
 z53:=Tryz.sizeOf23
 v53:=Tryz.zeroValue23
 t131:=Tryz.underlying199
 a131:=Tryz.isAgg199
 z131:=Tryz.sizeOf199
 v131:=Tryz.zeroValue199
 t182:=Tryz.underlying227
 a182:=Tryz.isAgg227
 z182:=Tryz.sizeOf227
 v182:=Tryz.zeroValue227
 t183:=Tryz.underlying228
 a183:=Tryz.isAgg228
 z183:=Tryz.sizeOf228
 v183:=Tryz.zeroValue228
 t218:=Tryz.underlying248
 a218:=Tryz.isAgg248
 z218:=Tryz.sizeOf248
 v218:=Tryz.zeroValue248
 t222:=Tryz.underlying252
 a222:=Tryz.isAgg252
 z222:=Tryz.sizeOf252
 v222:=Tryz.zeroValue252
 t228:=Tryz.underlying257
 a228:=Tryz.isAgg257
 z228:=Tryz.sizeOf257
 v228:=Tryz.zeroValue257
 t229:=Tryz.underlying217
 a229:=Tryz.isAgg217
 z229:=Tryz.sizeOf217
 v229:=Tryz.zeroValue217}
def Tryz.laysNm220_ren:Go.Shelf.Ren:=⟨fun|20=>76|n=>n,fun|22=>32|3=>3|4=>4|0=>0|n=>n,fun|n=>n⟩
theorem Tryz.laysNm220:Go.Proofs.Lays2.n20 Tryz.prog Tryz.laysNm220_ren:= {
 mixed:=by kernel_rfl
 f20:=Tryz.func76.trans (congrArg some (by kernel_rfl))
 t0:=Tryz.underlying0
 a0:=Tryz.isAgg0
 z0:=Tryz.sizeOf0
 v0:=Tryz.zeroValue0
 t3:=Tryz.underlying3
 a3:=Tryz.isAgg3
 z3:=Tryz.sizeOf3
 v3:=Tryz.zeroValue3
 t4:=Tryz.underlying4
 a4:=Tryz.isAgg4
 z4:=Tryz.sizeOf4
 v4:=Tryz.zeroValue4
 t22:=Tryz.underlying32
 a22:=Tryz.isAgg32
 z22:=Tryz.sizeOf32
 v22:=Tryz.zeroValue32
 i3:=by kernel_rfl}
end Go.Proofs
namespace Go.Y
open Go.Proofs
theorem Zzp:ZQ UY.P 75:=⟨λa b cap f w c d e=>Any.slices_Sort_int Tryz.lays189 a b cap f w c d e,λw=>Any.slices_Sort_int_none Tryz.lays189 none 0 w⟩
theorem Ziy:ZE UY.P 76:=⟨λa b cap f w c d e=>Any.slices_Compact_int Tryz.laysNm220 a b cap f w c d e,λw=>Any.slices_Compact_int_empty Tryz.laysNm220 none 0 w⟩
end Go.Y
namespace Go.Proofs.YteennilbmmlikaaGreatDoor
open Go.ChangeShapes Go.WideShapes Go.ChangeAt Go.RowKit Go.Y
open Go.Proofs
set_option linter.unusedVariables false
set_option maxRecDepth 100000
theorem ZIu(a:Int)(t1)(c:Int)(t2 s):PCon UY 4 [.agg [I a, .s t1], .agg [I c, .s t2], .s s] (· = .b true):=((law4 (ZH4 Zzp Ziy) Zzp Ziy a t1 c t2 s).xv).vz
theorem ZCr(os:Os)(a:Array Value):laidMetH Tryz.prog Rows.transSuresRow.laid ((World.doorLaid Tryz.prog 400 os).forCall (λ_ _=>0) ⟨#[],a,[]⟩).memory:=
 laidMetH_of_parts3 (fuel:=8) (laidMet_of_run' 8 kr kr) kr kr
theorem ZIv(os:Os)(d:os.Started)(H:Type)(enc:TypeId×Value->H):
  ReturnsInHanded {} Tryz.checked os 4 .any (λw a=>(Rows.transSuresSpec.pre enc Tryz.prog Tryz.f4 [] false w a/\laidMetH Tryz.prog Rows.transSuresRow.laid w)/\sizedMet enc Tryz.prog Tryz.f4 (OpenSpec.ofChange Rows.transSuresSpec) false w a)
   (Rows.transSuresSpec.post enc Tryz.prog Tryz.f4 false true false false):=by
 refine returnsInHanded_of_change_and (C:=Tryz.checked) (X:=λw _=>laidMetH Tryz.prog Rows.transSuresRow.laid w) (λ_ _ _ hh h=>h.of_heap hh) own d kr Tryz.func4
  (ChangeSpec.witness_shaped (enc:=enc) (C:=Tryz.checked) (os:=os) (X:=λw _=>laidMetH Tryz.prog Rows.transSuresRow.laid w) false (World.doorLaid Tryz.prog 400 os) #[.agg #[.int .i64 0, .string ⟨#[]⟩], .agg #[.int .i64 0, .string ⟨#[]⟩], .string ⟨#[]⟩] 8 rfl (World.shaped_of_RefB kr kr) kr kr kr (ZCr os _)) ?_
 intro W k a ds gs r c N O _ D _;have b: ∀(j:Nat) t v,Tryz.f4.params[j]? =some t->a[j]? =some v->Value.okWide Tryz.prog W .any k t v:=c;have u:=N;obtain⟨p,q,l,hV,rfl,a3,a4⟩:=N;have L:DataW.TrodAll enc Tryz.prog W 0 (λ_=>true) true Tryz.f4.params.toList a.toList ds p:=l;rw[Tryz.params4]at L b;obtain⟨v0,a5,d0,a0,p0,q0,y,rfl,rfl,K,r0⟩:=trodAll_cons L;obtain⟨v1,a6,d1,a1,p1,q1,rfl,rfl,rfl,g,r1⟩:=trodAll_cons r0;obtain⟨v2,a7,d2,a2,p2,q2,rfl,rfl,rfl,i,r2⟩:=trodAll_cons r1;obtain⟨rfl,rfl,rfl⟩:=trodAll_nil r2;obtain rfl:a= #[v0,v1,v2]:=by cases a;simp_all
 obtain⟨rfl,rfl⟩:=trodVars_none hV;obtain⟨z0,rfl,-⟩:=okWide_struct Tryz.underlying44 (b 0 44 v0 rfl rfl);obtain⟨z1,rfl,-⟩:=okWide_struct Tryz.underlying44 (b 1 44 v1 rfl rfl);obtain⟨z2,rfl⟩:=okWide_string Tryz.underlying9 (b 2 9 v2 rfl rfl);have P:=K;have E: ∀x∈p0,x.block<W.heap.size:=by obtain⟨m,o⟩:=P;exact DataW.trod_lt m _ _ _ o
 have Y:=g;have F: ∀x∈p1,x.block<W.heap.size:=by obtain⟨m,o⟩:=Y;exact DataW.trod_lt m _ _ _ o
 have Z:=i;have G: ∀x∈p2,x.block<W.heap.size:=by obtain⟨m,o⟩:=Z;exact DataW.trod_lt m _ _ _ o
 obtain⟨x0,z⟩: ∃x:Int×List UInt8,VR (inW W) (V.agg [I x.1, .s x.2]) (.agg z0):=by
  obtain⟨fuel,n⟩:=K;obtain⟨vs,g,i⟩:=Zdb UK fuel 44 _ _ (Zrp fuel) n;obtain⟨x,rfl⟩:=ZM8 i;exact⟨x,by have:=VR.agg _ _ g;simpa[Value.cells]using this⟩
 obtain⟨x1,A⟩: ∃x:Int×List UInt8,VR (inW W) (V.agg [I x.1, .s x.2]) (.agg z1):=by
  obtain⟨fuel,n⟩:=g;obtain⟨vs,g,i⟩:=Zdb UK fuel 44 _ _ (Zrp fuel) n;obtain⟨x,rfl⟩:=ZM8 i;exact⟨x,by have:=VR.agg _ _ g;simpa[Value.cells]using this⟩
 obtain⟨x2,B⟩: ∃x:List UInt8,VR (inW W) (V.s x) (.string z2):=by
  obtain⟨fuel,n⟩:=i;obtain⟨vs,g,i⟩:=Zdb UK fuel 9 _ _ (ZG4 fuel) n;obtain⟨x,rfl⟩:=shp9 i
  cases g with|cons _ _ _ _ h3 h4=>exact⟨x,h3⟩
 clear l c;refine((ZIu x0.1 x0.2 x1.1 x1.2 x2).calls (λp hp=>by cases hp) (.cons _ _ _ _ z (.cons _ _ _ _ A (.cons _ _ _ _ B .nil)))).mono λe W' ⟨he,f⟩=> ?_;subst he;exact⟨_,rfl,_,_,_,[],_,[],u,trodAll_mk1 (shut_bool Tryz.underlying4 _),(trodAll_cons_mk (Below.trod Zpa kr (of_decide_eq_true kr) P f E) (trodAll_cons_mk (Below.trod Zpa kr (of_decide_eq_true kr) Y f F) (trodAll_cons_mk (Below.trod Zpa kr (of_decide_eq_true kr) Z f G) trodAll_mk0))),rfl,f.frame _,λh=>by cases h⟩
theorem Zam:Rows.TransSuresSaid:=
 OpenClaim.holds_of_wide 4 Tryz.f4 rfl rfl rfl rfl rfl rfl rfl ⟨rfl,rfl,rfl,rfl,rfl⟩ rfl rfl rfl rfl rfl kr Tryz.func4 kr
  (of_decide_eq_true kr) (by unfold Func.isWrapper;first|(rw[uF (by decide+kernel)];kernel_rfl)|(rw[uE (by decide+kernel)];exact⟨rfl,rfl⟩))
  (λos a H enc _=>ZIv os a H enc)
end Go.Proofs.YteennilbmmlikaaGreatDoor
