/- A part of the proof. -/
import Derived.Test.YteennilbmmlikaaGreatDoorGSuA
import Derived.Test.YteennilbmmlikaaGreatDoorYLoop
import Derived.Test.YteennilbmmlikaaGreatDoorEG7
import Derived.Test.YteennilbmmlikaaGreatDoorGTrO
import Derived.Test.YteennilbmmlikaaGreatDoorGTrL
import Derived.Test.YteennilbmmlikaaGreatDoorGTrF
import Derived.Test.YteennilbmmlikaaGreatDoorGSortK
import Derived.Test.YteennilbmmlikaaGreatDoorYAny3
import Derived.Shelf.Sort.Plain
import Derived.Shelf.Slices.CompactI
import Derived.Shelf.Slices.In.SortNone
import Derived.Test.YteennilbmmlikaaGreatDoorRows
import Derived.ProofKit
import Derived.LaidMore
import Derived.OpenShut
import Derived.Stop.Joined
namespace Go.Y
open Go.Proofs
set_option maxRecDepth 1000000
set_option maxHeartbeats 0
def Tryx.modes:List Nat:=Tryv.modes
def Tryx.locs:List (List Nat):=Tryz.locs.set 14 [3,6,11]
noncomputable def Tryx.Y:YP:=⟨Go.Proofs.Tryz.prog,Tryz.tys,Tryx.locs,Tryx.modes,[182,5],[(185,1),(197,2)],[26,27,28]⟩
theorem Tryx.Yok:YOK Tryx.Y:=Vg kr Tryz.extok
theorem PCon.vx{f:FuncId}{a}{Q:V->Prop}(c:PCon Tryv.Y f a Q):PCon Tryx.Y f a Q:=⟨c.body,c.tr⟩
theorem PCon.xv{f:FuncId}{a}{Q:V->Prop}(c:PCon Tryx.Y f a Q):PCon Tryv.Y f a Q:=⟨c.body,c.tr⟩
theorem ZDd{k0 t0 s1 i2 h}(K):CP Tryx.Y 14 (pre (flat (Za Tryz.f14))) (.agg [I k0, .s t0]::.s s1::I i2::Rp 82) h [1,3,6,7,8] K=(∃a,(λc=>(PCon Tryx.Y 15 [.agg [I k0,.s t0]] λv=>v=.b a)/\If (!a) c (If (ltI i2 0) c (If (ltI (↑s1.length:Int) i2) c (K .normal 85 [.s s1, .lb [I k0, .s t0], .lb I20, .b false,I i2] h)))) (K .ret 85 [.s s1, .lb [I k0, .s t0], .lb I20, .b false,Ud] h)):=kr
theorem ZOi{k0 t0 s1 x8 h}(K):CP Tryx.Y 14 (pre (flat (Zx (post (flat (Za Tryz.f14)))))) (MZ 85 [1,3,6,7,8] [.s s1,.lb [I k0, .s t0],.lb I20,.b false,I x8]) h [1,3,6,7,8] K=(If (leI x8 (↑s1.length:Int)) (K .normal 85 [.s s1, .lb [I k0, .s t0], .lb I20, .b false,I x8] h) (K (.exit 0) 85 [.s s1, .lb [I k0, .s t0], .lb I20, .b false,I x8] h)):=kr
theorem ZOj{k0 t0 s1 x8 h}(K):CP Tryx.Y 14 (pre (flat (ZL (post (flat (Zx (post (flat (Za Tryz.f14))))))))) (MZ 85 [1,3,6,7,8] [.s s1,.lb [I k0, .s t0],.lb I20,.b false,I x8]) h [1,3,6,7,8,9,10] K=(∃a c d,(PCon Tryx.Y 40 [.agg [I k0,.s t0],.s s1,I x8] fun(v:V)=>v=J a c d)/\K .normal 85 [.s s1, .lb [I k0, .s t0], .lb I20, .b false,I x8,J a c d,I (↑s1.length:Int)] h):=kr
theorem ZOk{k0 t0 s1 x8 c n9 a h}(K):CP Tryx.Y 14 (pre (flat (Zx (post (flat (ZL (post (flat (Zx (post (flat (Za Tryz.f14)))))))))))) (MZ 85 [1,3,6,7,8,9,10] [.s s1,.lb [I k0, .s t0],.lb I20,.b false,I x8,J c n9 none,I a]) h [1,3,6,7,8,9,10] K=(If (leI x8 a) (K .normal 85 [.s s1, .lb [I k0, .s t0], .lb I20, .b false,I x8,J c n9 none,I a] h) (K (.exit 2) 85 [.s s1, .lb [I k0, .s t0], .lb I20, .b false,I x8,J c n9 none,I a] h)):=kr
theorem ZOl{k0 t0 s1 x8 d n9 a h}(K):CP Tryx.Y 14 (pre (flat (ZL (post (flat (Zx (post (flat (ZL (post (flat (Zx (post (flat (Za Tryz.f14))))))))))))))) (MZ 85 [1,3,6,7,8,9,10] [.s s1,.lb [I k0, .s t0],.lb I20,.b false,I x8,J d n9 none,I a]) h [1,3,6,7,8,9,10,14,15] K=((0<=a/\a<n9)/\ ∃c,Zr 1 (List.drop (a.toNat*1) d)=some [.b c]/\If (!c) (K (.exit 3) 85 [.s s1, .lb [I k0, .s t0], .lb I20, .b false,I x8,J d n9 none,I a,Ud,Ud] h) (If (k0==(2:Int)) (∃e f g i j l m n o q r t u,(PCon Tryx.Y 8 [.s t0] fun(v:V)=>v=.tup [.agg (R9 e f g i j l m n o q r),I t,I u])/\ ∃w x y z k P D a3 Z L E N O A C G F W B X H,(PCon Tryx.Y 41 [.agg (R9 e f g i j l m n o q r),.s s1,I x8,I a] fun(v:V)=>v=.tup [.agg [I w,I x,I y,I z,I k,I P,I D,I a3,I Z,I L,I E,I N,I O,I A,I C,I G,I F,I W,I B,I X],.b H])/\K .ret 85 [.s s1, .lb [I k0, .s t0], .lb [I w,I x,I y,I z,I k,I P,I D,I a3,I Z,I L,I E,I N,I O,I A,I C,I G,I F,I W,I B,I X], .b H,I x8,J d n9 none,I a,Ud,Ud] h) (K .normal 85 [.s s1, .lb [I k0, .s t0], .lb I20, .b false,I x8,J d n9 none,I a, .p (some (h.nx,0)),I 0] (h.pushT (Tryx.Y.tag (51:Nat)) (YObj.arr (List.replicate (20:Nat) (I 0)) true))))):=kr
theorem ZOm{k0 t0 s1 x8 d n9 e c a h}(K):CP Tryx.Y 14 (flat (Zx (post (flat (ZL (post (flat (Zx (post (flat (ZL (post (flat (Zx (post (flat (Za Tryz.f14))))))))))))))))) (MZ 85 [1,3,6,7,8,9,10,14,15] [.s s1,.lb [I k0, .s t0],.lb I20,.b false,I x8,J d n9 none,I e,.p (some (c,0)),I a]) h [1,3,6,7,8,9,10,14,15] K=(If (ltI a 10) (((0:Int)<=a/\a<(↑(10:Nat):Int))/\ ∃f,Zi h c ((0:Nat)+(0:Nat)+a.toNat*2) [I (-1),I (-1)]=some f/\K .normal 85 [.s s1, .lb [I k0, .s t0], .lb I20, .b false,I x8,J d n9 none,I e, .p (some (c,0)),I (wW (a+(1:Int)))] f) (K (.exit 4) 85 [.s s1, .lb [I k0, .s t0], .lb I20, .b false,I x8,J d n9 none,I e, .p (some (c,0)),I a] h)):=kr
theorem ZOn{k0 t0 s1 x8 d n9 a c h}(K):CP Tryx.Y 14 ((post (flat (ZL (post (flat (Zx (post (flat (ZL (post (flat (Zx (post (flat (Za Tryz.f14))))))))))))))).drop 1) (MZ 85 [1,3,6,7,8,9,10,14] [.s s1,.lb [I k0, .s t0],.lb I20,.b false,I x8,J d n9 none,I a,.p (some (c,0))]) h [1,3,6,7,8,9,10] K=(((0:Int)<=(0:Int)/\(0:Int)<(↑(10:Nat):Int))/\ ∃e,Zi h c 0 [I x8,I a]=some e/\ ∃f g i j l m n o q r t u v w x y z k B A,Zb e c 0 20=some [I f,I g,I i,I j,I l,I m,I n,I o,I q,I r,I t,I u,I v,I w,I x,I y,I z,I k,I B,I A]/\K .ret 85 [.s s1, .lb [I k0, .s t0], .lb [I f,I g,I i,I j,I l,I m,I n,I o,I q,I r,I t,I u,I v,I w,I x,I y,I z,I k,I B,I A], .b true,I x8,J d n9 none,I a] e):=kr
theorem ZOo{k0 t0 s1 x8 a n9 c h}(K):CP Tryx.Y 14 ((post (flat (Zx (post (flat (ZL (post (flat (Zx (post (flat (Za Tryz.f14)))))))))))).drop 1) (MZ 85 [1,3,6,7,8,9,10] [.s s1,.lb [I k0, .s t0],.lb I20,.b false,I x8,J a n9 none,I c]) h [1,3,6,7,8,9,10] K=(K .normal 85 [.s s1, .lb [I k0, .s t0], .lb I20, .b false,I x8,J a n9 none,I (wW (c-(1:Int)))] h):=kr
theorem ZOp{k0 t0 s1 x8 h}(K):CP Tryx.Y 14 ((post (flat (Zx (post (flat (Za Tryz.f14)))))).drop 1) (MZ 85 [1,3,6,7,8] [.s s1,.lb [I k0, .s t0],.lb I20,.b false,I x8]) h [1,3,6,7,8] K=(K .normal 85 [.s s1, .lb [I k0, .s t0], .lb I20, .b false,I (wW (x8+(1:Int)))] h):=kr
theorem ZOq{k0 t0 s1 x8 h}(K):CP Tryx.Y 14 ((post (flat (Za Tryz.f14))).drop 1) (MZ 85 [1,3,6,7,8] [.s s1,.lb [I k0, .s t0],.lb I20,.b false,I x8]) h [6,7] K=(K .ret 85 [.lb I20, .b false] h):=kr
def Hit(k:Int)(t s:List UInt8)(i j:Nat):Prop:=i<=j/\j<=s.length/\At (Xi k t s i) j
structure FirstHit(k:Int)(t s:List UInt8)(i j:Nat):Prop where
 hit:Hit k t s i j
 pre: ∀i',i'<i-> ∀j',¬Hit k t s i' j'
 far: ∀j',j<j'-> ¬Hit k t s i j'
theorem Zrd{Q:Nat->Prop} : ∀ {n:Nat},Q n-> ∃m,Q m/\ ∀a,a<m-> ¬Q a:=by
 intro n
 induction n using Nat.strongRecOn with
 |_ n f=>
 intro h;by_cases c: ∃a,a<n/\Q a
 .obtain⟨a,d,e⟩:=c;exact f a d e
 .exact⟨n,h,λa d e=>c ⟨a,d,e⟩⟩
theorem Zyb{k:Int}{t s}{i j:Nat}(h:Hit k t s i j): ∃i j,FirstHit k t s i j:=by
 obtain⟨e,⟨f,g⟩,u⟩:=Zrd (Q:=λi=> ∃j,Hit k t s i j) ⟨j,h⟩;obtain⟨d,⟨r,x,v⟩,o⟩:=Zrd (Q:=λd=> ∃j,d+j=s.length/\Hit k t s e j) (n:=s.length-f) ⟨f,by have:=g.2.1;omega,g⟩;refine⟨e,r,v,λl m c a=>u l m ⟨c,a⟩,λc w a=>o (s.length-c) (by have:=a.2.1;omega) ⟨c,by have:=a.2.1;omega,a⟩⟩
theorem FirstHit.uniq{k:Int}{t s}{i j c d:Nat}(a:FirstHit k t s i j)(b:FirstHit k t s c d):i=c/\j=d:=by
 have e:i=c:=by
  rcases Nat.lt_trichotomy i c with h|h|h
  .exact absurd a.hit (b.pre i h j)
  .exact h
  .exact absurd b.hit (a.pre c h d)
 subst e;refine⟨rfl,?_⟩;rcases Nat.lt_trichotomy j d with h|h|h
 .exact absurd b.hit (a.far d h)
 .exact h
 .exact absurd a.hit (b.far j h)
noncomputable abbrev H14:Heap:=Heap.empty.pushT (Tryx.Y.tag 51) (.arr ((List.replicate 20 (0:Int)).map (V.i .i64)) true)
theorem ZHl{k:Int}{t s:List UInt8}(hs:s.length<2 ^ 19)(a0:mayP k t=true)(hO:k=2->OvOk (ereL t)){l:List Int}(hl:l.length=20){b:Bool}
  (miss:(∀i j,¬Hit k t s i j)->l=List.replicate 20 (0:Int)/\b=false)
  (y: ∀i j,FirstHit k t s i j->k=2->PCon Tryx.Y 41 [.agg (Zd (ereL t)), .s s,I (i:Nat),I (j:Nat)] (· = .tup [.agg (l.map (V.i .i64)), .b b]))
  (u: ∀i j,FirstHit k t s i j->k≠2->b=true/\ ∃h1 D,CutR [] Heap.empty.nx 0 H14 h1/\Zi h1 Heap.empty.nx 0 [I (i:Nat),I (j:Nat)]=some D/\D.get Heap.empty.nx=some (.arr (l.map (V.i .i64)) true)):
  PCon Tryx.Y 14 [.agg [I k, .s t], .s s,I 0] (· = .tup [.agg (l.map (V.i .i64)), .b b]):=by
 have hm:=PCon.vx (PCon.zv (Zl5 k t));rw[a0]at hm;have hS:=λ{i:Nat} (hi:i<=s.length)=>PCon.vx (ZBj (k:=k) (t:=t) hO hs hi);have E:=PCon.vx (PCon.zv (Zdd t));rw[Wr]at E;refine ZG Tryx.Yok (fn:=Tryz.f14) rfl ?_;refine Zh Tryx.Yok 85 ZDd rfl ?_;refine⟨true,hm,Zf (λc=>by cases c) (λ_=>Xr (λc=>om) (λ_=>Xr (λc=>om) (λ_=>⟨rfl,?_⟩)))⟩;refine ZN [1,3,6,7,8] [1,3,6,7,8] (λm w a=> ∃i:Nat,w= [.s s, .lb [I k, .s t],Z20, .b false,I (i:Nat)]/\a= .empty/\i<=s.length+1/\(∀v,v<i-> ∀d,¬Hit k t s v d)/\m=s.length+1-i) (s.length+1) ZA ⟨0,rfl,rfl,om,λv h=>absurd h om,rfl⟩ ?_;rintro m w a ⟨i,rfl,rfl,hi,f,rfl⟩;refine Zh Tryx.Yok 85 ZOi rfl ?_;refine JT (λW=>⟨rfl,QZ (n:=85) [1,3,6,7,8,9,10] kr ?_⟩) (λa7=> ?_)
 .have W:i<=s.length:=om;refine Zh Tryx.Yok 85 ZOj rfl ?_;refine⟨_,_,_,hS W,rfl,?_⟩;have a6:=Zo3 k t s i;have z:=λ{j:Nat} (A:j<(Xi k t s i).length)=>Zgi (l:=Xi k t s i) A;have r:=λ{j:Nat} (A:j<(Xi k t s i).length)=>QX (Xi k t s i) A;have a4:=λj (A:j<=s.length) (B:i<=j)=>(show Hit k t s i j↔(Xi k t s i).getD j false=true from⟨λh=>h.2.2,λh=>⟨B,A,h⟩⟩);refine Zfa [1,3,6,7,8,9,10] [1,3,6,7,8,9,10] (λm w a=> ∃x:Int,w= [.s s, .lb [I k, .s t],Z20, .b false,I (i:Nat),lst Zl (Xi k t s i),I x]/\a= .empty/\ -1<=x/\x<=s.length/\(∀d:Nat,x<d-> ¬Hit k t s i d)/\m=(x+1).toNat) (s.length+1) ZA ⟨(s.length:Nat),rfl,rfl,om,om,λd h a=>by have:=a.2.1;omega,om⟩ ?_;rintro m w a ⟨x,rfl,rfl,a9,b0,g,rfl⟩;refine Zh Tryx.Yok 85 ZOk rfl ?_;refine JT (λa5=>⟨rfl,QZ (n:=85) [1,3,6,7,8,9,10] kr ?_⟩) (λa5=> ?_)
  .obtain⟨j,rfl⟩: ∃j:Nat,x=(j:Nat):=⟨x.toNat,om⟩;have B:i<=j:=om;have A:j<=s.length:=om;have o:j<(Xi k t s i).length:=om;refine Zh Tryx.Yok 85 ZOl rfl ?_;refine⟨Zu o,_,r o,Zf (λc=> ?_) (λc=> ?_)⟩
   .have a3: ¬Hit k t s i j:=λa=>by
     have:=(z o).1 a.2.2;rw[this]at c;cases c
    refine ZU rfl (Zrz [1,3,6,7,8,9,10] kr rfl rfl ?_);refine Zn Tryx.Yok ZOo rfl ?_;refine⟨rfl,(((j:Nat):Int)-1+1).toNat,om,((j:Nat):Int)-1,?_,rfl,om,om,λd h=> ?_,rfl⟩
    .rw[ZI om om];rfl
    .by_cases e:d=j
     .rw[e];exact a3
     .exact g d om
   .have hH:Hit k t s i j:=⟨B,A,(z o).2 (by simpa using c)⟩;have hF:FirstHit k t s i j:=⟨hH,f,λd h=>g d om⟩;refine Zf (λc2=> ?_) (λc2=>⟨rfl,?_⟩)
    .have D:k=2:=by simpa using c2
     have hC:=y i j hF D
     match l,hl with
     | [L,x1,x2,X,x4,H,F,Z,G,x9,y0,y1,y2,y3,K,y5,O,N,y8,P],_=>
      revert E hC;generalize ereL t=x;intro E hC;obtain⟨xk,xs,xl,a8,b1,xn⟩:=x;rw[ZJ]at E hC;exact⟨_,_,_,_,_,_,_,_,_,_,_,_,_,E,L,x1,x2,X,x4,H,F,Z,G,x9,y0,y1,y2,y3,K,y5,O,N,y8,P,b,hC,
       ZU rfl (ZU rfl (ZU rfl (ZU rfl (ZZ rr rfl ⟨_, .tup _ _ (.cons _ _ _ _ (.agg _ _ (Zab _ [L,x1,x2,X,x4,H,F,Z,G,x9,y0,y1,y2,y3,K,y5,O,N,y8,P])) (.cons _ _ _ _ (.b _) .nil)),rfl⟩))))⟩
    .have D:k≠2:=by simpa using c2
     obtain⟨hb,h1,h3,C,a2,hg⟩:=u i j hF D;subst hb;clear u y miss E hS hm hH g f a4 z r hO;refine ZN [1,3,6,7,8,9,10,14,15] [1,3,6,7,8,9,10,14,15] (λm w a=> ∃q:Nat,w= [.s s, .lb [I k, .s t],Z20, .b false,I (i:Nat),lst Zl (Xi k t s i),I (j:Nat), .p (some (Heap.empty.nx,0)),I (q:Nat)]/\CutR [] Heap.empty.nx q a h1/\m=10-q) 10 ZA ⟨0,rfl,C,rfl⟩ ?_;clear C;rintro m w a ⟨q,rfl,C,rfl⟩;refine Zn Tryx.Yok ZOm rfl ?_
     cases C with
     |step hq a1 C=>
      refine Xr (λ_=> ?_) (λc=>om);exact⟨⟨om,om⟩,_,a1,rfl,10-(q+1),om,q+1,by rw[Ze om];rfl,C,rfl⟩
     |stop hq=>
      refine Xr (λc=>om) (λ_=> ?_);refine Zj [1,3,6,7,8,9,10,14] ?_
      match l,hl,hg with
      | [L,x1,x2,X,x4,H,F,Z,G,x9,y0,y1,y2,y3,K,y5,O,N,y8,P],_,hg=>
       refine Zn Tryx.Yok ZOn rfl ?_;refine⟨⟨om,om⟩,_,a2,L,x1,x2,X,x4,H,F,Z,G,x9,y0,y1,y2,y3,K,y5,O,N,y8,P,by rw[Zs hg];rfl,?_⟩;exact ZU rfl (ZU rfl (ZU rfl (ZZ rr rfl ⟨_, .tup _ _ (.cons _ _ _ _ (.agg _ _ (Zab _ [L,x1,x2,X,x4,H,F,Z,G,x9,y0,y1,y2,y3,K,y5,O,N,y8,P])) (.cons _ _ _ _ (.b _) .nil)),rfl⟩)))
  .refine ZU rfl ?_;simp only[Zhe];rw[uF kr];refine ZU rfl ⟨rfl,[1,3,6,7,8],rfl,?_⟩;refine Zn Tryx.Yok ZOp rfl ?_;refine⟨rfl,s.length+1-(i+1),om,i+1,by rw[Ze om];rfl,rfl,om,λv h d a=> ?_,rfl⟩;by_cases e:v=i
   .subst e;exact g d (by have:=a.1;omega) a
   .exact f v om d a
 .have e:i=s.length+1:=om;refine ZU rfl (Zj [1,3,6,7,8] ?_);refine Zo Tryx.Yok ZOq rfl ?_;obtain⟨rfl,rfl⟩:=miss λv d a=>f v (by have:=a.1;have:=a.2.1;omega) d a;exact⟨.inr rfl,_,rfl,_, .tup _ _ (.cons _ _ _ _ (.agg _ _ (Zab _ (List.replicate 20 (0:Int)))) (.cons _ _ _ _ (.b _) .nil)),rfl⟩
theorem Zyc{r:Re}(hr:OvOk r)(e:mayE r=true){s:List UInt8}{i j:Nat}(k:i<=s.length)(bg en:Bool):At (atF r s i bg en) j↔StD s bg en r i j:=by
 have f:(oneF (s.length+1) i).length=s.length+1:=by simp[oneF]
 obtain⟨_,c⟩:=VA (s:=s) (bg:=bg) (en:=en) r hr.wg.wf hr.wg.gk _ f;unfold atF;rw[uF e];constructor
 .intro h;obtain⟨g,a,d⟩:=(c j).1 h;rw[Zib om]at a;exact a▸d
 .intro h;exact(c j).2 ⟨i,(Zib om _).2 rfl,h⟩
theorem Zo6{t:List UInt8}(h:mayP 2 t=true):ereE t=0/\mayE (ereL t)=true:=by
 unfold mayP at h;rw[uE dc,uE dc,uF dc]at h;split at h
 .rename_i c;exact⟨by simpa using c,h⟩
 .cases h
theorem ZOr{k:Int}{t s:List UInt8}(o:s.length<2 ^ 19)(y:k=2->mayP k t=true->OvOk (ereL t)/\grpRe (ereL t)): ∃(l:List Int) (b:Bool),l.length=20/\(b=true↔mayP k t=true/\ ∃i j,Hit k t s i j)/\PCon Tryx.Y 14 [.agg [I k, .s t], .s s,I 0] (· = .tup [.agg (l.map (V.i .i64)), .b b]):=by
 by_cases a:mayP k t=true
 .by_cases v: ∃i j,Hit k t s i j
  .obtain⟨u,r,g⟩:=v;obtain⟨i,j,d⟩:=Zyb g;have F:=d.hit.1;have L:=d.hit.2.1;by_cases x:k=2
   .subst x;obtain⟨w,C⟩:=y rfl a;have n:=(Zo6 a).2;have e:=d.hit.2.2;unfold Xi at e;rw[uF rfl]at e;obtain⟨m,⟨l,h,rfl⟩,z⟩:=ZOe w C n o F L ((Zyc w n om true true).1 e);refine⟨l,true,h,⟨λ_=>⟨a,u,r,g⟩,λ_=>rfl⟩,ZHl o a (λ_=>w) h (λc=>absurd g (c u r)) (λH E f _=> ?_) (λ_ _ _ c=>absurd rfl c)⟩;obtain⟨rfl,rfl⟩:=d.uniq f;exact z.vx
   .have N:CutK [] Heap.empty.nx H14:=by
     refine⟨by simp[H14,Heap.pushT],List.replicate 20 (0:Int),rfl,?_⟩;simp[H14,Heap.pushT]
    obtain⟨O,B,A⟩:=Zo0 10 0 rfl N;obtain⟨K,D,_,l,h,G⟩:=Zgk A (m:=0) om (i:Nat) (j:Nat);refine⟨l,true,h,⟨λ_=>⟨a,u,r,g⟩,λ_=>rfl⟩,ZHl o a (λc=>absurd c x) h (λc=>absurd g (c u r)) (λ_ _ _ c=>absurd c x) (λH E f _=> ?_)⟩;obtain⟨rfl,rfl⟩:=d.uniq f;exact⟨rfl,O,K,B,D,G⟩
  .exact⟨List.replicate 20 0,false,rfl,⟨λc=>(by cases c),λc=>absurd c.2 v⟩,ZHl o a (λc=>(y c a).1) rfl (λ_=>⟨rfl,rfl⟩) (λi j d=>absurd ⟨i,j,d.hit⟩ v) (λi j d=>absurd ⟨i,j,d.hit⟩ v)⟩
 .refine⟨List.replicate 20 0,false,rfl,⟨λc=>(by cases c),λc=>absurd c.1 a⟩,?_⟩;have n:=PCon.vx (PCon.zv (Zl5 k t));rw[Bool.not_eq_true]at a;rw[a]at n;refine ZG Tryx.Yok (fn:=Tryz.f14) rfl ?_;refine Zh Tryx.Yok 85 ZDd rfl ?_;exact⟨false,n,Zf (λ_=>ZZ rr rfl ⟨_, .tup _ _ (.cons _ _ _ _ (.agg _ _ (Zab _ (List.replicate 20 (0:Int)))) (.cons _ _ _ _ (.b _) .nil)),rfl⟩) (λc=>by cases c)⟩
/-! ### What was read is valid -/
def Zmx(x:Span):Prop:=x.lo<=x.hi
theorem Zo7{s}{i j:Nat}{x:Span}(h:XS s i= .ok (x,j)):Zmx x:=by
 unfold XS at h;unfold Zmx;split at h
 .cases h
 .split at h
  .split at h
   .cases h
   .split at h
    .cases h
    .rename_i c;cases h;exact Int.not_lt.1 c
  .cases h;exact Int.le_refl _
theorem Zij{s} : ∀ {n i:Nat} {a l:List Span} {j:Nat},setS n s i a= .ok (l,j)->(∀x∈a,Zmx x)->l≠ []/\ ∀x∈l,Zmx x
 |0,_,_,_,_,h,_=>by cases h
 |n+1,i,a,l,j,h,e=>by
  simp only[setS]at h;split at h
  .rename_i c;cases h;exact⟨c.1,e⟩
  .split at h
   .cases h
   .rename_i x k f;refine Zij h λy d=> ?_;rcases qA.1 d with d|d
    .exact e y d
    .rw[vE]at d;subst d;exact Zo7 f
theorem Zs9{s}{i j:Nat}{g:Glob}(h:Xx s i= .ok (g,j)):oneS g=true:=by
 unfold Xx at h;split at h
 .cases h
 .split at h
  .cases h;rfl
  .split at h
   .cases h;rfl
   .split at h
    .split at h
     .cases h
     .rename_i l k d;obtain⟨f,m⟩:=Zij d (λx c=>by cases c);cases h;unfold oneS;rw[uE (show¬(3:Int)=0 from dc),uE (show¬((3:Int)=1\/(3:Int)=2) from dc),uF rfl];have e:(l.any λx=>ltI x.hi x.lo)=false:=by
       rw[List.any_eq_false];intro x c;have:=m x c;unfold Zmx at this;simp[ltI];omega
      show((0:Int)==0&& !l.isEmpty&& !(l.any λx=>ltI x.hi x.lo))=true;rw[e]
      cases l with
      |nil=>exact absurd rfl f
      |cons a l=>rfl
    .split at h
     .split at h
      .cases h
      .cases h;rfl
     .cases h;rfl
theorem Zik{s} : ∀ {m i:Nat} {a l:List Glob},Qn m s i a= .ok l->mayS a=true->mayS l=true
 |0,_,_,_,h,_=>by cases h
 |m+1,i,a,l,h,c=>by
  simp only[Qn]at h;split at h
  .split at h
   .cases h
   .rename_i x j hp;refine Zik h ?_;unfold mayS at c ⊢;rw[List.all_append,c];simp[Zs9 hp]
  .cases h;exact c
theorem Zre{t:List UInt8}(h:Zoe t=0):mayS (QS t)=true:=by
 unfold Zoe at h;unfold QS;split at h
 .cases h
 .rename_i c;rw[uE c]
  cases hp:Qn (t.length+1) t 0 [] with
  |error e=>rw[hp]at h;cases h
  |ok l=>exact Zik hp rfl
/-! ### A short text's expression may be -/
theorem Zrf{p q:Nat->Bool} : ∀(f c:Nat),(∀x,c<=x->x<c+f->p x=q x)->runE p f c=runE q f c
 |0,c,_=>rfl
 |f+1,c,h=>by
  rw[runE,runE,h c (qnq _) om,Zrf f (c+1) λx a d=>h x om om]
theorem Zyd{p q:Nat->Bool}(h: ∀x,x<256->p x=q x): ∀(f c:Nat) (a:List (UInt8×UInt8)),goF p f c a=goF q f c a
 |0,c,a=>rfl
 |f+1,c,a=>by
  rw[goF,goF];split
  .rw[Zrf (256-c) c λx _ d=>h x om,Zyd h]
  .rfl
theorem Zo8(p:Nat->Bool):Qv (hasN (ZC p))=Qv p:=Zyd (λ_ a=>Wt p a) _ _ _
theorem Zye:((List.range 256).all λc=>Nat.ble (Qv λx=>x==c).length 1)=true:=kr
theorem Zyf{x}(h:(Qv (hasN x)).length<=1):(setT x).length<=8:=by
 unfold setT
 cases c:Qv (hasN x) with
 |nil=>simp
 |cons p l=>
  have d:l= []:=by
   cases l with
   |nil=>rfl
   |cons a l=>rw[c]at h;simp at h
  subst d;show(if _ then _ else if _ then _ else _:List UInt8).length<=8;have e:=Wq p.1 specB;have f:=Zho p;split
  .simp
  .split
   .omega
   .simp;omega
theorem Zmy(c:UInt8):(textF (Qh c)).length<=8:=by
 unfold Qh Qk;rw[textF,textF.textsF];have h:=uP.1 Zye c.toNat (List.mem_range.2 c.toNat_lt);have a:(Qv (hasN (ZC λx=>x==c.toNat))).length<=1:=by rw[Zo8];exact Nat.le_of_ble_eq_true h
 have d:=Zyf a;show(setT _++ []++ []).length<=8;simpa using d
theorem Zgp: ∀(t:List UInt8) (b:Bool),(textF.textsF 4 b (ZK t)).length<=8*t.length
 | [],b=>by rw[ZK,List.map_nil,textF.textsF];simp
 |c::t,b=>by
  have e:ZK (c::t)=Qh c::ZK t:=by simp[ZK]
  have a:=Zmy c;have d:=Zgp t true;rw[e,textF.textsF,uE sm];simp;omega
theorem Zmz(x)(lv a g:Int):rightF (Qk x) lv a g=some g:=by
 unfold Qk;rw[rightF]
 rfl
theorem Zds: ∀(t:List UInt8) (lv a g:Int),rightF.kidsF (ZK t) lv a g=some g
 | [],_,_,_=>by rw[ZK,List.map_nil,rightF.kidsF]
 |c::t,lv,a,g=>by
  have e:ZK (c::t)=Qh c::ZK t:=by simp[ZK]
  rw[e,rightF.kidsF];unfold Qh;rw[Zmz];exact Zds t lv a g
theorem Zm0{t:List UInt8}(h:t.length<=12):mayE (sevS 4 (ZK t))=true:=by
 unfold mayE
 match t,h with
 | [],_=>rfl
 | [c],_=>
  show((rightF (Qh c) 0 0 0).isSome&&decide ((textF (Qh c)).length<=200))=true;have:=Zmy c;unfold Qh at this ⊢;rw[Zmz,uN om];rfl
 |c::d::t,h=>
  have e:sevS 4 (ZK (c::d::t))= .mk 4 (0,0,0,0) (ZK (c::d::t)) 0 0 0:=by simp[ZK,sevS]
  have g:=Zgp (c::d::t) false;have f:=Zds (c::d::t) 2 0 0;rw[e];have hr:rightF (.mk 4 (0,0,0,0) (ZK (c::d::t)) 0 0 0) 0 0 0=some 0:=by
   rw[rightF,uE dc,uE dc,uE dc,uE dc,uF rfl,uF (by rw[Jh];simp[leI,ltI];omega)];exact f
  have a:(textF (.mk 4 (0,0,0,0) (ZK (c::d::t)) 0 0 0)).length<=200:=by
   rw[textF];show([]++_++ []).length<=200;rw[qy,qi];omega
  rw[hr,uN a];rfl
/-! ### The laws -/
theorem Zgq{r:Re}(e:FineR r)(d:mayE r=true){s:List UInt8}(c a:Bool):Zgh r s c a=true↔StD s c a r 0 s.length:=Zyc (Zih e d).1 d om c a
theorem Zyg{s t:List UInt8}(a:t.length<=12):Zgh (sevS 4 (ZK t)) s false false=(s==t):=by
 rw[Bool.eq_iff_iff,Zgq (VZ (Vr om) (Vv t)) (Zm0 a),Zo5,Zcm t (qx _) (qnq _),Zx7];simp
theorem Zyh{l:List Glob}{s}(d:l.length<=200)(a:mayS l=true)(c:mayE (sevS 4 (ZP l))=true):Zgh (sevS 4 (ZP l)) s false false=M l s:=by
 rw[Bool.eq_iff_iff,Zgq (VZ (Zfx om) (Zcd l)) c,Zo5,Zgo l a (qx _) (qnq _),Zx7]
theorem Zyi{k:Int}{t s:List UInt8}(c:mayP k t=true)(o:k=2->anchB (ereL t)=false){i j:Nat}(a:i<=j)(f:j<=s.length):Hit k t s i j↔StD.catD s false false (Jy k t) i j:=by
 have e:Hit k t s i j↔At (Xi k t s i) j:=⟨λh=>h.2.2,λh=>⟨a,f,h⟩⟩;rw[e];unfold Xi Jy;by_cases g:k=2
 .subst g;obtain⟨_,n⟩:=Zo6 c;rw[uF rfl,uE dc,uE dc,uF dc,Zo4,Zya,Zyc (Zih (Zjn t) n).1 n om];exact Zen (ereL t) (o rfl) i j
 .rw[uE g,Zgi (by rw[Qo];omega),Zad,uN (show i<=j/\j<s.length+1 from om),uT];unfold fitP;by_cases d:k=0
  .rw[uF d,uF (by simpa using d),Zcm t a f];simp
  .rw[uE d,uE (by simpa using d)];by_cases m:k=1
   .subst m;have r:Zoe t=0:=by
     unfold mayP at c;rw[uE dc,uF dc]at c;simpa using c
    have l:=Zre r;rw[uF dc,Zgo _ l a f,l,uT]
   .exfalso;unfold mayP at c;rw[uE (by simpa using d),uE (by simpa using m),uE (by simpa using g)]at c;cases c
theorem Zta{k:Int}{t s:List UInt8}(a:mayP k t=true)(c:k=2->anchB (ereL t)=false)(e:mayE (sevS 4 (ZS::(Jy k t++ [ZS])))=true):Zgh (sevS 4 (ZS::(Jy k t++ [ZS]))) s false false=true↔ ∃i j,Hit k t s i j:=by
 rw[Zgq (VZ (Zcc a) (Zqr k t)) e,Zo5,Zs8];constructor
 .rintro⟨i,j,f,g,d⟩;exact⟨i,j,(Zyi a c f g).2 d⟩
 .rintro⟨i,j,h⟩;exact⟨i,j,h.1,h.2.1,(Zyi a c h.1 h.2.1).1 h⟩
theorem ZSj{k0 t0 s1 s2 h}(K):CP Tryx.Y 6 ((flat (Za Tryz.f6)).take 8) (.agg [I k0, .s t0]::.s s1::.s s2::Rp 90) h [1,3,6] K=(∃a,(PCon Tryx.Y 12 [] λv=>v=.b a)/\If (!a) (K .ret 93 [.s s1, .lb [I k0, .s t0], .b false] h) (If (ltI 40 (↑t0.length:Int)) (K .ret 93 [.s s1, .lb [I k0, .s t0], .b true] h) (If (ltI 20 (↑s1.length:Int)) (K .ret 93 [.s s1, .lb [I k0, .s t0], .b true] h) (If (ltI 12 (↑s2.length:Int)) (K .ret 93 [.s s1, .lb [I k0, .s t0], .b true] h) (∃b c d e f g i j l m n o,(PCon Tryx.Y 16 [.s s2] fun(v:V)=>v=.tup [.agg (R9 b c d e f g i j l m n),I o])/\If (o !=(0:Int)) (K .ret 93 [.s s1, .lb [I k0, .s t0], .b false] h) (∃p,(PCon Tryx.Y 23 [.agg (R9 b c d e f g i j l m n),.s s1,.b false,.b false] λv=>v=.b p)/\If (!p==(s1==s2)) (K .ret 93 [.s s1, .lb [I k0, .s t0], .b false] h) (K .normal 93 [.s s1, .lb [I k0, .s t0], .b false] h))))))):=kr
theorem ZSk{k0 t0 s1 h}(K):CP Tryx.Y 6 (((flat (Za Tryz.f6)).drop 8).take 3) (MZ 93 [1,3,6] [.s s1,.lb [I k0, .s t0],.b false]) h [1,3,6] K=(∃a c d e f,(PCon Tryx.Y 24 [.s t0] fun(v:V)=>v=.tup [J a c d,I e,I f])/\If (f==(0:Int)) (∃g i j l m n o p q r t u,(PCon Tryx.Y 18 [J a c d] fun(v:V)=>v=.tup [.agg (R9 g i j l m n o p q r t),I u])/\If (u==(0:Int)) (∃w,(PCon Tryx.Y 23 [.agg (R9 g i j l m n o p q r t),.s s1,.b false,.b false] λv=>v=.b w)/\ ∃x,(PCon Tryx.Y 25 [J a c d,.s s1] fun(v:V)=>v=.b x)/\If (!w==x) (K .ret 93 [.s s1, .lb [I k0, .s t0], .b false] h) (K .normal 93 [.s s1, .lb [I k0, .s t0], .b false] h)) (K .normal 93 [.s s1, .lb [I k0, .s t0], .b false] h)) (K .normal 93 [.s s1, .lb [I k0, .s t0], .b false] h)):=kr
theorem ZSl{k0 t0 s1 h}(K):CP Tryx.Y 6 (((flat (Za Tryz.f6)).drop 8).drop 3) (MZ 93 [1,3,6] [.s s1,.lb [I k0, .s t0],.b false]) h [6] K=(∃a c d e f g i j l m n o,(PCon Tryx.Y 20 [.agg [I k0,.s t0]] fun(v:V)=>v=.tup [.agg (R9 a c d e f g i j l m n),I o])/\If (o !=(0:Int)) (K .ret 93 [.b true] h) (∃p q r t u w x y z B N D P O G F H L C E A,(PCon Tryx.Y 14 [.agg [I k0,.s t0],.s s1,I 0] fun(v:V)=>v=.tup [.agg [I p,I q,I r,I t,I u,I w,I x,I y,I z,I B,I N,I D,I P,I O,I G,I F,I H,I L,I C,I E],.b A])/\ ∃k,(PCon Tryx.Y 23 [.agg (R9 a c d e f g i j l m n),.s s1,.b false,.b false] λv=>v=.b k)/\K .ret 93 [.b (k==A)] h)):=kr
theorem Zbc{Y}{r}{e:Int}{f:FuncId}{args}(c:PCon Y f args (· =Zsr r e)){K:Int->Int->Int->Int->Int->List V->Nat->Option Nat->Int->Int->Int->Int->Prop}
  (D: ∀k w s1 s2 s3 o l y z x n,Zd r= [I k,U w,U s1,U s2,U s3, .ts o l y,I z,I x,I n]->K k w s1 s2 s3 o l y z x n e):
  ∃n h m t a o l c u d g j,(PCon Y f args λv=>v= .tup [.agg [I n,U h,U m,U t,U a, .ts o l c,I u,I d,I g],I j])/\K n h m t a o l c u d g j:=by
 unfold Zsr at c;obtain⟨G,F,H,B,C,E⟩:=r;exact⟨_,_,_,_,_,_,_,_,_,_,_,_,c.mono λv A=>by rw[A,ZJ],D _ _ _ _ _ _ _ _ _ _ _ (Zm _ _ _ _ _ _)⟩
theorem law6(y:PCon UY 12 [] (· = .b true))(k:Int)(t s u:List UInt8):PCon Tryx.Y 6 [.agg [I k, .s t], .s s, .s u] (· = .b true):=by
 have y:=PCon.vx (PCon.zv y);refine ZG Tryx.Yok (fn:=Tryz.f6) rfl ?_;refine JO Tryx.Yok 93 8 ZSj rfl kr ?_;refine⟨true,y,ifF rfl (Xr (λh1=>fin1 rr rfl (.b _) rfl) (λh1=>Xr (λh2=>fin1 rr rfl (.b _) rfl) (λh2=>Xr (λh3=>fin1 rr rfl (.b _) rfl) (λh3=> ?_))))⟩;have hu:u.length<=12:=om;have O:s.length<2 ^ 19:=om;have W:=PCon.vx (PCon.zv (ZCp u om));have L:=Zm0 hu;have P:=VZ (Vr (s:=u) om) (Vv u);have j:=PCon.vx (Zou (Zih P L).1 O false false);rw[Zyg hu]at j;rw[show fitV (sevS 4 (ZK u))=Zsr (sevS 4 (ZK u)) 0 by unfold fitV;rw[uF L];rfl]at W;refine Zbc W λC B G E z H A F K D n g=> ?_;rw[g]at j;refine ifF rfl ⟨_,j,ifF sm ⟨rfl,?_⟩⟩;clear W j g;refine JO Tryx.Yok 93 3 ZSk rfl kr ?_;have hp:=PCon.vx (PCon.zv (Zdf t));rw[Vu]at hp;obtain⟨g1,Z⟩:=Zej t;refine⟨_,_,_,_,_,hp,?_⟩;have f:TriL Tryx.Y (((flat (Za Tryz.f6)).drop 8).drop 3) ⟨mk 93 ([1,3,6].zip [.s s, .lb [I k, .s t], .b false]),[], .empty⟩ (FinS Tryx.Y Tryz.f6 λv h=> ∃r,Frz h v r/\r= .b true):=by
  refine Zo Tryx.Yok ZSl rfl ?_;have a:=PCon.vx (PCon.zv (Zdi k t));unfold Zdh at a;by_cases m:mayP k t=false
  .rw[uF m]at a;exact Zbc (r:=Xs) (e:=5) a λC B G E z H A F K D n g=>ifT rfl (ZB rr rfl (.b _) rfl)
  rw[uE m]at a;have m:mayP k t=true:=by simpa using m
  by_cases N:(k==2)=true/\anchB (ereL t)=true
  .rw[uF N]at a;exact Zbc (r:=Xs) (e:=5) a λC B G E z H A F K D n g=>ifT rfl (ZB rr rfl (.b _) rfl)
  rw[uE N]at a;have N:k=2->anchB (ereL t)=false:=λc=>by
   cases X:anchB (ereL t) with
   |false=>rfl
   |true=>exact absurd ⟨by simpa using c,X⟩ N
  unfold fitV at a;by_cases o:mayE (sevS 4 (ZS::(Jy k t++ [ZS])))=true
  .rw[uF o]at a;obtain⟨l,b,hl,X,hC⟩:=ZOr (k:=k) (t:=t) O (λc m=>by subst c;exact Zih (Zjn t) (Zo6 m).2);have w:=PCon.vx (Zou (Zih (VZ (Zcc m) (Zqr k t)) o).1 O false false);have e:Zgh (sevS 4 (ZS::(Jy k t++ [ZS]))) s false false=b:=by
    rw[Bool.eq_iff_iff,Zta m N o,X];exact⟨λh=>⟨m,h⟩,λh=>h.2⟩
   rw[e]at w
   match l,hl with
   | [x0,x1,x2,x3,x4,x5,x6,x7,x8,x9,y0,y1,y2,y3,y4,y5,y6,y7,y8,y9],_=>
    refine Zbc a λC B G E z H A F K D n g=>ifF rfl ?_;rw[g]at w;exact⟨x0,x1,x2,x3,x4,x5,x6,x7,x8,x9,y0,y1,y2,y3,y4,y5,y6,y7,y8,y9,b,hC,b,w,ZB rr rfl (.b _) sm⟩
  .rw[uE o]at a;exact Zbc (r:=Xs) (e:=2) a λC B G E z H A F K D n g=>ifT rfl (ZB rr rfl (.b _) rfl)
 refine Zf (λc=> ?_) (λ_=>⟨rfl,f⟩);have hg:Zoe t=0:=by simpa using c
 have d:=Zre hg;have x:=PCon.vx (PCon.zv (Zsm (QS t) om Z));have hr:=PCon.vx (PCon.zv (Zig (QS t) s Z.ok om));rw[d,uT]at hr;unfold Zws at x;rw[uF d]at x;unfold fitV at x;by_cases o:mayE (sevS 4 (ZP (QS t)))=true
 .rw[uF o]at x;have w:=PCon.vx (Zou (Zih (VZ (Zfx (l:=QS t) om) (Zcd _)) o).1 O false false);rw[Zyh g1 d o]at w;refine Zbc x λC B G E z H A F K D n g=>ifT rfl ?_;rw[g]at w;exact⟨_,w,_,hr,ifF sm ⟨rfl,f⟩⟩
 .rw[uE o]at x;exact Zbc (r:=Xs) (e:=2) x λC B G E z H A F K D n g=>ifF rfl ⟨rfl,f⟩
end Go.Y
namespace Go.Proofs
open Go.Shelf
def Tryz.lays189_ren:Go.Shelf.Ren:=⟨fun|189=>75|125=>121|257=>120|128=>159|129=>160|294=>150|295=>151|296=>152|297=>153|298=>154|299=>155|216=>156|300=>157|301=>158|328=>179|329=>180|330=>181|331=>182|332=>183|215=>184|343=>192|n=>n,fun|28=>32|3=>3|46=>132|0=>0|51=>235|53=>23|4=>4|183=>228|182=>227|131=>199|5=>5|9=>9|218=>248|222=>252|228=>257|229=>217|n=>n,fun|n=>n⟩
theorem Tryz.lays189:Go.Proofs.Lays.n189 Tryz.prog Tryz.lays189_ren:= {
 mixed:=by kernel_rfl
 f125:=Tryz.func121.trans (congrArg some (by kernel_rfl))
 f128:=Tryz.func159.trans (congrArg some (by kernel_rfl))
 f129:=Tryz.func160.trans (congrArg some (by kernel_rfl))
 f189:=Tryz.func75.trans (congrArg some (by kernel_rfl))
 f215:=Tryz.func184.trans (congrArg some (by kernel_rfl))
 f216:=Tryz.func156.trans (congrArg some (by kernel_rfl))
 f257:=Tryz.func120.trans (congrArg some (by kernel_rfl))
 f294:=Tryz.func150.trans (congrArg some (by kernel_rfl))
 f295:=Tryz.func151.trans (congrArg some (by kernel_rfl))
 f296:=Tryz.func152.trans (congrArg some (by kernel_rfl))
 f297:=Tryz.func153.trans (congrArg some (by kernel_rfl))
 f298:=Tryz.func154.trans (congrArg some (by kernel_rfl))
 f299:=Tryz.func155.trans (congrArg some (by kernel_rfl))
 f300:=Tryz.func157.trans (congrArg some (by kernel_rfl))
 f301:=Tryz.func158.trans (congrArg some (by kernel_rfl))
 f328:=Tryz.func179.trans (congrArg some (by kernel_rfl))
 f329:=Tryz.func180.trans (congrArg some (by kernel_rfl))
 f330:=Tryz.func181.trans (congrArg some (by kernel_rfl))
 f331:=Tryz.func182.trans (congrArg some (by kernel_rfl))
 f332:=Tryz.func183.trans (congrArg some (by kernel_rfl))
 f343:=Tryz.func192.trans (congrArg some (by kernel_rfl))
 t0:=Tryz.underlying0
 a0:=Tryz.isAgg0
 z0:=Tryz.sizeOf0
 v0:=Tryz.zeroValue0
 t3:=Tryz.underlying3
 a3:=Tryz.isAgg3
 z3:=Tryz.sizeOf3
 v3:=Tryz.zeroValue3
 t4:=Tryz.underlying4
 a4:=Tryz.isAgg4
 z4:=Tryz.sizeOf4
 v4:=Tryz.zeroValue4
 t5:=Tryz.underlying5
 a5:=Tryz.isAgg5
 z5:=Tryz.sizeOf5
 v5:=Tryz.zeroValue5
 t9:=Tryz.underlying9
 a9:=Tryz.isAgg9
 z9:=Tryz.sizeOf9
 v9:=Tryz.zeroValue9
 t28:=Tryz.underlying32
 a28:=Tryz.isAgg32
 z28:=Tryz.sizeOf32
 v28:=Tryz.zeroValue32
 t46:=Tryz.underlying132
 a46:=Tryz.isAgg132
 z46:=Tryz.sizeOf132
 v46:=Tryz.zeroValue132
 t51:=Tryz.underlying235
 a51:=Tryz.isAgg235
 z51:=Tryz.sizeOf235
 v51:=Tryz.zeroValue235
 t53:=Tryz.underlying23
 a53:=Tryz.isAgg23
 z53:=Tryz.sizeOf23
 v53:=Tryz.zeroValue23
 t131:=Tryz.underlying199
 a131:=Tryz.isAgg199
 z131:=Tryz.sizeOf199
 v131:=Tryz.zeroValue199
 t182:=Tryz.underlying227
 a182:=Tryz.isAgg227
 z182:=Tryz.sizeOf227
 v182:=Tryz.zeroValue227
 t183:=Tryz.underlying228
 a183:=Tryz.isAgg228
 z183:=Tryz.sizeOf228
 v183:=Tryz.zeroValue228
 t218:=Tryz.underlying248
 a218:=Tryz.isAgg248
 z218:=Tryz.sizeOf248
 v218:=Tryz.zeroValue248
 t222:=Tryz.underlying252
 a222:=Tryz.isAgg252
 z222:=Tryz.sizeOf252
 v222:=Tryz.zeroValue252
 t228:=Tryz.underlying257
 a228:=Tryz.isAgg257
 z228:=Tryz.sizeOf257
 v228:=Tryz.zeroValue257
 t229:=Tryz.underlying217
 a229:=Tryz.isAgg217
 z229:=Tryz.sizeOf217
 v229:=Tryz.zeroValue217}
def Tryz.laysNm220_ren:Go.Shelf.Ren:=⟨fun|20=>76|n=>n,fun|22=>32|3=>3|4=>4|0=>0|n=>n,fun|n=>n⟩
theorem Tryz.laysNm220:Go.Proofs.Lays2.n20 Tryz.prog Tryz.laysNm220_ren:= {
 mixed:=by kernel_rfl
 f20:=Tryz.func76.trans (congrArg some (by kernel_rfl))
 t0:=Tryz.underlying0
 a0:=Tryz.isAgg0
 z0:=Tryz.sizeOf0
 v0:=Tryz.zeroValue0
 t3:=Tryz.underlying3
 a3:=Tryz.isAgg3
 z3:=Tryz.sizeOf3
 v3:=Tryz.zeroValue3
 t4:=Tryz.underlying4
 a4:=Tryz.isAgg4
 z4:=Tryz.sizeOf4
 v4:=Tryz.zeroValue4
 t22:=Tryz.underlying32
 a22:=Tryz.isAgg32
 z22:=Tryz.sizeOf32
 v22:=Tryz.zeroValue32
 i3:=by kernel_rfl}
end Go.Proofs
namespace Go.Y
open Go.Proofs
theorem ZHm:ZY UY.P 75:=⟨λblk off cap a w e c d=>Any.slices_Sort_int Tryz.lays189 blk off cap a w e c d,λw=>Any.slices_Sort_int_none Tryz.lays189 none 0 w⟩
theorem Ztb:ZF UY.P 76:=⟨λblk off cap a w e c d=>Any.slices_Compact_int Tryz.laysNm220 blk off cap a w e c d,λw=>Any.slices_Compact_int_empty Tryz.laysNm220 none 0 w⟩
end Go.Y
namespace Go.Proofs.YteennilbmmlikaaGreatDoor
open Go.ChangeShapes Go.WideShapes Go.ChangeAt Go.RowKit Go.Y
open Go.Proofs
set_option linter.unusedVariables false
set_option maxRecDepth 100000
theorem ZHn(k:Int)(t s u):PCon UY 6 [.agg [I k, .s t], .s s, .s u] (· = .b true):=((law6 (ZG1 ZHm Ztb) k t s u).xv).vz
theorem ZBk(os:Os)(a:Array Value):laidMetH Tryz.prog Rows.transMatchesRow.laid ((World.doorLaid Tryz.prog 400 os).forCall (λ_ _=>0) ⟨#[],a,[]⟩).memory:=
 laidMetH_of_parts3 (fuel:=8) (laidMet_of_run' 8 kr kr) kr kr
theorem ZHo(os:Os)(f:os.Started)(H:Type)(enc:TypeId×Value->H):
  ReturnsInHanded {} Tryz.checked os 6 .any (λw a=>(Rows.transMatchesSpec.pre enc Tryz.prog Tryz.f6 [] false w a/\laidMetH Tryz.prog Rows.transMatchesRow.laid w)/\sizedMet enc Tryz.prog Tryz.f6 (OpenSpec.ofChange Rows.transMatchesSpec) false w a)
   (Rows.transMatchesSpec.post enc Tryz.prog Tryz.f6 false true false false):=by
 refine returnsInHanded_of_change_and (C:=Tryz.checked) (X:=λw _=>laidMetH Tryz.prog Rows.transMatchesRow.laid w) (λ_ _ _ hh h=>h.of_heap hh) own f kr Tryz.func6
  (ChangeSpec.witness_shaped (enc:=enc) (C:=Tryz.checked) (os:=os) (X:=λw _=>laidMetH Tryz.prog Rows.transMatchesRow.laid w) false (World.doorLaid Tryz.prog 400 os) #[.agg #[.int .i64 0, .string ⟨#[]⟩], .string ⟨#[]⟩, .string ⟨#[]⟩] 8 rfl (World.shaped_of_RefB kr kr) kr kr kr (ZBk os _)) ?_
 intro W n a ds gs y d hW a0 _ L _;have c: ∀(j:Nat) t v,Tryz.f6.params[j]? =some t->a[j]? =some v->Value.okWide Tryz.prog W .any n t v:=d;have E:=hW;obtain⟨p,q,r,hV,rfl,a1,a8⟩:=hW;have hA:DataW.TrodAll enc Tryz.prog W 0 (λ_=>true) true Tryz.f6.params.toList a.toList ds p:=r;rw[Tryz.params6]at hA c;obtain⟨v0,a3,d0,a6,p0,q0,N,rfl,rfl,P,r0⟩:=trodAll_cons hA;obtain⟨v1,a4,d1,a5,p1,q1,rfl,rfl,rfl,k,r1⟩:=trodAll_cons r0;obtain⟨v2,a7,d2,a2,p2,q2,rfl,rfl,rfl,l,r2⟩:=trodAll_cons r1;obtain⟨rfl,rfl,rfl⟩:=trodAll_nil r2;obtain rfl:a= #[v0,v1,v2]:=by cases a;simp_all
 obtain⟨rfl,rfl⟩:=trodVars_none hV;obtain⟨z0,rfl,-⟩:=okWide_struct Tryz.underlying44 (c 0 44 v0 rfl rfl);obtain⟨z1,rfl⟩:=okWide_string Tryz.underlying9 (c 1 9 v1 rfl rfl);obtain⟨z2,rfl⟩:=okWide_string Tryz.underlying9 (c 2 9 v2 rfl rfl);have k0:=P;have z: ∀x∈p0,x.block<W.heap.size:=by obtain⟨m,u⟩:=k0;exact DataW.trod_lt m _ _ _ u
 have O:=k;have B: ∀x∈p1,x.block<W.heap.size:=by obtain⟨m,u⟩:=O;exact DataW.trod_lt m _ _ _ u
 have k2:=l;have A: ∀x∈p2,x.block<W.heap.size:=by obtain⟨m,u⟩:=k2;exact DataW.trod_lt m _ _ _ u
 obtain⟨Z,K⟩: ∃x:Int×List UInt8,VR (inW W) (V.agg [I x.1, .s x.2]) (.agg z0):=by
  obtain⟨fuel,o⟩:=P;obtain⟨vs,k,l⟩:=Zc2 UK fuel 44 _ _ (ZAo fuel) o;obtain⟨x,rfl⟩:=ZRz l;exact⟨x,by have:=VR.agg _ _ k;simpa[Value.cells]using this⟩
 obtain⟨x1,G⟩: ∃x:List UInt8,VR (inW W) (V.s x) (.string z1):=by
  obtain⟨fuel,o⟩:=k;obtain⟨vs,k,l⟩:=Zc2 UK fuel 9 _ _ (Zw3 fuel) o;obtain⟨x,rfl⟩:=shp9 l
  cases k with|cons _ _ _ _ D h4=>exact⟨x,D⟩
 obtain⟨x2,F⟩: ∃x:List UInt8,VR (inW W) (V.s x) (.string z2):=by
  obtain⟨fuel,o⟩:=l;obtain⟨vs,k,l⟩:=Zc2 UK fuel 9 _ _ (Zw3 fuel) o;obtain⟨x,rfl⟩:=shp9 l
  cases k with|cons _ _ _ _ D h4=>exact⟨x,D⟩
 clear r d;refine((ZHn Z.1 Z.2 x1 x2).calls (λp hp=>by cases hp) (.cons _ _ _ _ K (.cons _ _ _ _ G (.cons _ _ _ _ F .nil)))).mono λe W' ⟨he,g⟩=> ?_;subst he;exact⟨_,rfl,_,_,_,[],_,[],E,trodAll_mk1 (shut_bool Tryz.underlying4 _),(trodAll_cons_mk (Below.trod Zok kr (of_decide_eq_true kr) k0 g z) (trodAll_cons_mk (Below.trod Zok kr (of_decide_eq_true kr) O g B) (trodAll_cons_mk (Below.trod Zok kr (of_decide_eq_true kr) k2 g A) trodAll_mk0))),rfl,g.frame _,λh=>by cases h⟩
theorem WX:Rows.TransMatchesSaid:=
 OpenClaim.holds_of_wide 6 Tryz.f6 rfl rfl rfl rfl rfl rfl rfl ⟨rfl,rfl,rfl,rfl,rfl⟩ rfl rfl rfl rfl rfl kr Tryz.func6 kr
  (of_decide_eq_true kr) (by unfold Func.isWrapper;first|(rw[uF (by decide+kernel)];kernel_rfl)|(rw[uE (by decide+kernel)];exact⟨rfl,rfl⟩))
  (λos a H enc _=>ZHo os a H enc)
end Go.Proofs.YteennilbmmlikaaGreatDoor
