/- A part of the proof. -/
import Derived.Test.YteennilbmmlikaaGreatDoorEG2
import Derived.Test.YteennilbmmlikaaGreatDoorGTrO
import Derived.Test.YteennilbmmlikaaGreatDoorGSuA
import Derived.Test.YteennilbmmlikaaGreatDoorYLoop
import Derived.Test.YteennilbmmlikaaGreatDoorNTa
namespace Go.Y
open Go.Proofs
set_option maxRecDepth 1000000
set_option maxHeartbeats 0
structure OvOk(r:Re):Prop where
 fine:FineR r
 gk:gkRe r
def atF(r:Re)(s:List UInt8)(i:Nat)(bg en:Bool):List Bool:=if mayE r=true then overF s bg en r ((Zy (s.length+1)).set i true)else Zy (s.length+1)
theorem Zxv(r)(s:List UInt8)(i:Nat)(a c:Bool):(atF r s i a c).length=s.length+1:=by
 unfold atF;split
 .exact JB _ _ _ _ _ sm
 .simp
theorem at61{r}(hr:OvOk r){s:List UInt8}(m:s.length<2 ^ 19){i:Nat}(C:i<=s.length)(bg en:Bool):PCon Tryv.Y 61 [.agg (Zd r), .s s,I i, .b bg, .b en] (· =lst Zl (atF r s i bg en)):=by
 have a:=PCon.zv (Zf8 hr.fine);have c:=λfr (y:fr.length=s.length+1)=>Zjy (bg:=bg) (en:=en) m (B:=1000) dc r hr.fine.wf hr.fine.nn hr.gk fr y;unfold atF;generalize mayE r=b at a;generalize overF s bg en r=f at c;obtain⟨k,set,j,A,z,n⟩:=r;rw[Zm]at a ⊢;simp only[Zm]at c;refine Zw Tryv.Yok (fn:=Tryz.f61) rfl ZNr rfl ?_;have o:wW ((s.length:Int)+1)=((s.length+1:Nat):Int):=Ze om;have g:most=1099511627776:=dc;rw[o,qdq,XY];have l:(Heap.empty.push (.arr (row Zl (Zy (s.length+1))) true)).get Heap.empty.nx=some (.arr (row Zl (Zy (s.length+1))) true):=by rw[qk,uF rfl]
 refine⟨⟨om,om,om,om⟩,b,a,Zf (λd=> ?_) (λd=> ?_)⟩
 .have d:b=false:=by simpa using d
  subst d;exact ZB rr rfl (ZA7 _ l sm) rfl
 .have d:b=true:=by simpa using d
  subst d;rw[uF rfl];have h:=ZM (off:=0+(i:Int).toNat*1) (new:= [V.b true]) l (by rw[XD];simp;omega);refine⟨⟨om,om⟩,rfl,_,h,?_⟩;have u:((Heap.empty.push (.arr (row Zl (Zy (s.length+1))) true)).set Heap.empty.nx (some (.arr (splice (row Zl (Zy (s.length+1))) (0+(i:Int).toNat*1) [.b true]) true))).get Heap.empty.nx=some (.arr (row Zl ((Zy (s.length+1)).set i true)) true):=by
   rw[qc,uF rfl,show 0+(i:Int).toNat*1=i from sm,JC _ _ _ (by simp;omega)]
  have e:((Zy (s.length+1)).set i true).length=s.length+1:=sm;refine(Con.ofP [Heap.empty.nx] (.cons _ _ _ _ (.same _) (.cons _ _ _ _ (.same _) (.cons _ _ _ _ (.frz _ _ (frzB _ u e.symm sm)) (.cons _ _ _ _ (.same _) (.cons _ _ _ _ (.same _) .nil))))) (c _ e)).mono λv D ⟨t,_⟩=>⟨_,_,_,t,?_⟩;exact ZB rr rfl (.ts _ _ _ none (λx w=>by cases w)) rfl
def Zgh(r:Re)(s:List UInt8)(a c:Bool):Bool:=(atF r s 0 a c).getD s.length false
theorem Zou{r}(hr:OvOk r){s:List UInt8}(g:s.length<2 ^ 19)(c d:Bool):PCon Tryv.Y 23 [.agg (Zd r), .s s, .b c, .b d] (· = .b (Zgh r s c d)):=by
 have e:=at61 hr g (i:=0) om c d;have h:=Zxv r s 0 c d;unfold Zgh;generalize atF r s 0 c d=t at e h;obtain⟨k,set,f,l,j,n⟩:=r;rw[Zm]at e ⊢;refine Zw Tryv.Yok (fn:=Tryz.f23) rfl ZNs rfl ?_;have a:s.length<t.length:=om;refine⟨_,_,_,e,Zu a,_,QX t a,ZB rr rfl (.b _) ?_⟩;rw[qw,qo a];rfl
theorem ZNt{a k0 p0 p1 p2 p3 c n0 d e m0 f n2 h}(K):CP Tryv.Y 91 (pre (flat (Za Tryz.f91))) (.p (some (a,0))::.agg (R9 k0 p0 p1 p2 p3 c n0 none d e m0)::J f n2 none::Rp 71) h [0,2,4,6,7,8] K=(∃g,Zb h a 0 1=some [.s g]/\((0:Int)<=wW ((↑g.length:Int)+(1:Int))/\wW ((↑g.length:Int)+(1:Int))<=wW ((↑g.length:Int)+(1:Int))/\wW ((↑g.length:Int)+(1:Int))<=(most:Int)/\wW ((↑g.length:Int)+(1:Int))*(↑(1:Nat):Int)<=(most:Int))/\K .normal 74 [.p (some (a,0)),J f n2 none, .lb (R9 k0 p0 p1 p2 p3 c n0 none d e m0),S0,S (some (h.nx,0)) (wW ((↑g.length:Int)+(1:Int))).toNat (some (wW ((↑g.length:Int)+(1:Int))).toNat) 1,I 0] (h.push (YObj.arr (List.replicate (wW ((↑g.length:Int)+(1:Int))).toNat [.b false]).flatten true))):=kr
theorem ZNu{a k0 p0 p1 p2 p3 b n0 c d m0 e n2 f l7 c7 x8 h}(K):CP Tryv.Y 91 (pre (flat (Zx (post (flat (Za Tryz.f91)))))) (MZ 74 [0,2,4,6,7,8] [.p (some (a,0)),J e n2 none,.lb (R9 k0 p0 p1 p2 p3 b n0 none c d m0),S0,S (some (f,0)) l7 (some c7) 1,I x8]) h [0,2,4,6,7,8] K=(∃g,Zb h a 0 1=some [.s g]/\If (leI x8 (↑g.length:Int)) (K .normal 74 [.p (some (a,0)),J e n2 none, .lb (R9 k0 p0 p1 p2 p3 b n0 none c d m0),S0,S (some (f,0)) l7 (some c7) 1,I x8] h) (K (.exit 0) 74 [.p (some (a,0)),J e n2 none, .lb (R9 k0 p0 p1 p2 p3 b n0 none c d m0),S0,S (some (f,0)) l7 (some c7) 1,I x8] h)):=kr
theorem ZNv{a k0 p0 p1 p2 p3 d n0 e f m0 g n2 j l7 c7 x8 h}(K):CP Tryv.Y 91 (pre (flat (ZL (post (flat (Zx (post (flat (Za Tryz.f91))))))))) (MZ 74 [0,2,4,6,7,8] [.p (some (a,0)),J g n2 none,.lb (R9 k0 p0 p1 p2 p3 d n0 none e f m0),S0,S (some (j,0)) l7 (some c7) 1,I x8]) h [0,2,4,6,7,8,10,11] K=(∃c,Zb h a 0 1=some [.s c]/\((0:Int)<=wW ((↑c.length:Int)+(1:Int))/\wW ((↑c.length:Int)+(1:Int))<=wW ((↑c.length:Int)+(1:Int))/\wW ((↑c.length:Int)+(1:Int))<=(most:Int)/\wW ((↑c.length:Int)+(1:Int))*(↑(1:Nat):Int)<=(most:Int))/\((0:Int)<=x8/\x8<(↑(wW ((↑c.length:Int)+(1:Int))).toNat:Int))/\1=1/\ ∃i,Zi (h.push (YObj.arr (List.replicate (wW ((↑c.length:Int)+(1:Int))).toNat [.b false]).flatten true)) h.nx ((0:Nat)+x8.toNat*1) [.b true]=some i/\ ∃l,Zb i a 0 1=some [.s l]/\ ∃m n o q,(Con Tryv.Y 110 [.agg (R9 k0 p0 p1 p2 p3 d n0 none e f m0),.s l,S (some (h.nx,0)) (wW ((↑c.length:Int)+(1:Int))).toNat (some (wW ((↑c.length:Int)+(1:Int))).toNat) 1,.b true,.b true] i fun(v:V) (k:Heap)=>v=J m n o/\k=q)/\K .normal 74 [.p (some (a,0)),J g n2 none, .lb (R9 k0 p0 p1 p2 p3 d n0 none e f m0),S0,S (some (j,0)) l7 (some c7) 1,I x8,J m n o,I 0] q):=kr
theorem ZNw{d k0 p0 p1 p2 p3 j n0 l m m0 e n2 c l7 c7 x8 n f g a h}(K):CP Tryv.Y 91 (flat (Zx (post (flat (ZL (post (flat (Zx (post (flat (Za Tryz.f91))))))))))) (MZ 74 [0,2,4,6,7,8,10,11] [.p (some (d,0)),J e n2 none,.lb (R9 k0 p0 p1 p2 p3 j n0 none l m m0),S0,S (some (c,0)) l7 (some c7) 1,I x8,J f g n,I a]) h [0,2,4,6,7,8,10,11] K=(∃b,Zb h d 0 1=some [.s b]/\If (leI a (↑b.length:Int)) ((0<=x8/\x8<l7)/\1=1/\ ∃i,Zb h c ((0:Nat)+x8.toNat*1) 1=some [.b i]/\If i ((0<=x8/\x8<l7)/\1=1/\ ∃o,Zi h c ((0:Nat)+x8.toNat*1) [.b true]=some o/\K .normal 74 [.p (some (d,0)),J e n2 none, .lb (R9 k0 p0 p1 p2 p3 j n0 none l m m0),S0,S (some (c,0)) l7 (some c7) 1,I x8,J f g n,I (wW (a+(1:Int)))] o) ((0<=a/\a<g)/\ ∃o,Zr 1 (List.drop (a.toNat*1) f)=some [.b o]/\If o ((0<=a/\a<n2)/\ ∃q,Zr 1 (List.drop (a.toNat*1) e)=some [.b q]/\(0<=x8/\x8<l7)/\1=1/\ ∃r,Zi h c ((0:Nat)+x8.toNat*1) [.b q]=some r/\K .normal 74 [.p (some (d,0)),J e n2 none, .lb (R9 k0 p0 p1 p2 p3 j n0 none l m m0),S0,S (some (c,0)) l7 (some c7) 1,I x8,J f g n,I (wW (a+(1:Int)))] r) ((0<=x8/\x8<l7)/\1=1/\ ∃q,Zi h c ((0:Nat)+x8.toNat*1) [.b false]=some q/\K .normal 74 [.p (some (d,0)),J e n2 none, .lb (R9 k0 p0 p1 p2 p3 j n0 none l m m0),S0,S (some (c,0)) l7 (some c7) 1,I x8,J f g n,I (wW (a+(1:Int)))] q))) (K (.exit 2) 74 [.p (some (d,0)),J e n2 none, .lb (R9 k0 p0 p1 p2 p3 j n0 none l m m0),S0,S (some (c,0)) l7 (some c7) 1,I x8,J f g n,I a] h)):=kr
theorem ZNx{a k0 p0 p1 p2 p3 b n0 c d m0 e n2 f l7 c7 x8 h}(K):CP Tryv.Y 91 ((post (flat (Zx (post (flat (Za Tryz.f91)))))).drop 1) (MZ 74 [0,2,4,6,7,8] [.p (some (a,0)),J e n2 none,.lb (R9 k0 p0 p1 p2 p3 b n0 none c d m0),S0,S (some (f,0)) l7 (some c7) 1,I x8]) h [0,2,4,6,7,8] K=(K .normal 74 [.p (some (a,0)),J e n2 none, .lb (R9 k0 p0 p1 p2 p3 b n0 none c d m0),S0,S (some (f,0)) l7 (some c7) 1,I (wW (x8+(1:Int)))] h):=kr
theorem ZNy{a l7 c7 h}(K):CP Tryv.Y 91 ((post (flat (Za Tryz.f91))).drop 1) (MZ 74 [7] [S (some (a,0)) l7 (some c7) 1]) h [6] K=(K .ret 74 [S (some (a,0)) l7 (some c7) 1] h):=kr
def anyB:List Bool->List Bool->Bool
 | [],_=>false
 |_::_,[]=>false
 |a::x,b::y=>(a&&b)||anyB x y
theorem Zml: ∀ {x y:List Bool} (a b:Bool),x.length=y.length->anyB (x++ [a]) (y++ [b])=(anyB x y||(a&&b))
 | [],[],a,b,_=>by simp[anyB]
 |c::x,d::y,a,b,h=>by
  show((c&&d)||anyB (x++ [a]) (y++ [b]))=(((c&&d)||anyB x y)||(a&&b))
  rw[Zml a b (by simpa using h),Bool.or_assoc]
def oneF(n i:Nat):List Bool:=(Zy n).set i true
def ZX(r:Re)(s:List UInt8)(allow:List Bool):List Bool:=(List.range (s.length+1)).map λi=>anyB (overF s true true r (oneF (s.length+1) i)) allow
theorem XM(r)(s:List UInt8)(allow):(ZX r s allow).length=s.length+1:=by unfold ZX;simp
theorem Zia(r)(s:List UInt8)(allow){i:Nat}(h:i<(ZX r s allow).length):(ZX r s allow)[i]=anyB (overF s true true r (oneF (s.length+1) i)) allow:=by
 simp only[ZX,List.getElem_map,List.getElem_range]
structure FreshB(h h':Heap)(id:Nat)(l:List Bool):Prop where
 get:h'.get id=some (.arr (row Zl l) true)
 new:h.nx<=id
 lt:id<h'.nx
 keep: ∀j,j<h.nx->h'.get j=h.get j
theorem FreshB.set{h c:Heap}{id:Nat}{l}(f:FreshB h c id l)(a):FreshB h (c.set id (some (.arr (row Zl a) true))) id a:=
 ⟨by rw[qc,uF rfl],f.new,by rw[Heap.nx_set];exact f.lt,λj d=>by rw[qc,uE (by have:=f.new;omega)];exact f.keep j d⟩
def Zdl(c:Nat)(pre d a:List Bool)(w:Nat)(x:Heap):Nat->Heap
 |0=>x
 |k+1=>(Zdl c pre d a w x k).set c (some (.arr (row Zl (pre++(anyB (d.take (k+1)) (a.take (k+1))::Zy w))) true))
def Zs3(N i:Nat)(x:Heap):Heap:=XO ((x.push (.arr (row Zl (Zy N)) true)).set x.nx (some (.arr (row Zl (oneF N i)) true))) [x.nx]
def JD(f:List Bool->List Bool)(R allow:List Bool)(N a:Nat)(c:Heap):Nat->Heap
 |0=>c
 |i+1=>Zdl a (R.take i) (f (oneF N i)) allow (N-1-i) (Zs3 N i (JD f R allow N a c i)) N
theorem WS{h x}{a w:Nat}{pre to allow:List Bool}(c:FreshB h x a (pre++(false::Zy w))): ∀k,FreshB h (Zdl a pre to allow w x k) a (pre++(anyB (to.take k) (allow.take k)::Zy w))
 |0=>by rw[uQ];exact c
 |k+1=>(WS c k).set _
theorem Zov{h x}{a N i:Nat}{l}(c:FreshB h x a l):FreshB h (Zs3 N i x) a l:=by
 have e:=c.new;have f:=c.lt;unfold Zs3;refine⟨?_,e,by rw[Qt,Heap.nx_set];simp;omega,λj d=> ?_⟩
 .rw[Xw,uE (by simp;omega),qc,uE om,qk,uE om];exact c.get
 .rw[Xw,uE (by simp;omega),qc,uE om,qk,uE om];exact c.keep j d
theorem Zcj{h:Heap}{f:List Bool->List Bool}{R allow:List Bool}{N:Nat}(o:R.length=N)(t:allow.length=N)(d: ∀l,l.length=N->(f l).length=N)(c: ∀(i:Nat) (h:i<R.length),R[i]=anyB (f (oneF N i)) allow):
  ∀i,i<=N->FreshB h (JD f R allow N h.nx (h.push (.arr (row Zl (Zy N)) true)) i) h.nx (R.take i++Zy (N-i))
 |0,_=>⟨by rw[JD,qk,uF rfl];rfl,qnq _,by rw[JD];simp,λj v=>by rw[JD,qk,uE om]⟩
 |i+1,x=>by
  have k:=Zcj (h:=h) o t d c i om;have e:=Zov (N:=N) (i:=i) k;obtain⟨w,m⟩: ∃w,N-i=w+1:=⟨N-i-1,om⟩;rw[m]at e;have g:=WS (to:=f (oneF N i)) (allow:=allow) (w:=w) e N;have n:=d (oneF N i) (by simp[oneF]);have u:(f (oneF N i)).take N=f (oneF N i):=qt om;have r:allow.take N=allow:=qt om;have a:i<R.length:=om;rw[u,r,<-c i a]at g;rw[JD,show N-1-i=w from om,qa a,uU,show N-(i+1)=w from om];exact g
structure WG(r:Re):Prop where
 wf:wfRe 1000 r
 nn:nnRe r
 gk:gkRe r
theorem OvOk.wg{r}(h:OvOk r):WG r:=⟨h.fine.wf,h.fine.nn,h.gk⟩
abbrev rh(r:Re)(s:List UInt8)(a:List Bool)(h:Heap):Heap:=JD (overF s true true r) (ZX r s a) a (s.length+1) h.nx (h.push (.arr (row Zl (Zy (s.length+1))) true)) (s.length+1)
theorem ZC7{r}(hr:WG r){s:List UInt8}(hs:s.length<2 ^ 19){a:List Bool}(ha:a.length=s.length+1){idw:Nat}{h:Heap}(hi:idw<h.nx)(W:Zb h idw 0 1=some [.s s]):
  FreshB h (JD (overF s true true r) (ZX r s a) a (s.length+1) h.nx (h.push (.arr (row Zl (Zy (s.length+1))) true)) (s.length+1)) h.nx (ZX r s a)/\
  Con Tryv.Y 91 [.p (some (idw,0)), .agg (Zd r),lst Zl a] h λv x=>v= .sl (some (h.nx,0)) (s.length+1) (some (s.length+1)) 1/\x=JD (overF s true true r) (ZX r s a) a (s.length+1) h.nx (h.push (.arr (row Zl (Zy (s.length+1))) true)) (s.length+1):=by
 have A:=λfr (hl:fr.length=s.length+1)=>Zjy (bg:=true) (en:=true) hs (B:=1000) dc r hr.wf hr.nn hr.gk fr hl;have z:=JB s true true r;have X:=XM r s a;have C:=fun(i:Nat) (h:i<(ZX r s a).length)=>Zia r s a h;revert A z X C;generalize ZX r s a=R;generalize overF s true true r=f;intro A z X C;have a3:=Zcj (h:=h) (f:=f) (R:=R) (allow:=a) (N:=s.length+1) X ha z C;refine⟨by have:=a3 (s.length+1) (qnq _);rwa [vK,qt om,show Zy 0= [] from rfl,qi]at this,?_⟩;obtain⟨k,set,G,lo,a9,n⟩:=r;simp only[Zm]at A;rw[Zm];refine Zv Tryv.Yok (fn:=Tryz.f91) ?_;refine Zh Tryv.Yok 74 ZNt rfl ?_;have hw:wW ((s.length:Int)+1)=((s.length+1:Nat):Int):=Ze om;have c4:most=1099511627776:=dc;have l: ∀x:Heap,x.get idw=h.get idw->Zb x idw 0 1=some [.s s]:=λx e=>by
  unfold Zb at W ⊢;rw[e];exact W
 have gp: ∀h:Heap,(h.push (.arr (row Zl (Zy (s.length+1))) true)).get h.nx=some (.arr (row Zl (Zy (s.length+1))) true):=λh=>by rw[qk,uF rfl]
 have fB: ∀h:Heap,FreshB h (h.push (.arr (row Zl (Zy (s.length+1))) true)) h.nx (Zy (s.length+1)):=λh=>⟨gp h,qnq _,sm,λj hj=>by rw[qk,uE om]⟩;refine⟨s,W,?_⟩;rw[hw,qdq,XY];refine⟨⟨om,om,om,om⟩,rfl,?_⟩;refine ZN [0,2,4,6,7,8] [0,2,4,6,7,8] (λm vs x=> ∃i g:Nat,vs= [.p (some (idw,0)),lst Zl a, .lb (R110 k set G lo a9 n), .sl none 0 (some 0) 0, .sl (some (g,0)) (s.length+1) (some (s.length+1)) 1,I (i:Nat)]/\i<=s.length+1/\m=s.length+1-i/\g=h.nx/\
  x=JD f R a (s.length+1) h.nx (h.push (.arr (row Zl (Zy (s.length+1))) true)) i) (s.length+1) ZA ⟨0,h.nx,rfl,om,rfl,rfl,rfl⟩ ?_
 rintro m vs u ⟨i,g,rfl,b3,rfl,t,hH⟩;have hF:=a3 i b3;rw[<-hH,<-t]at hF;have b1:=l u (hF.keep idw hi);refine Zh Tryv.Yok 74 ZNu rfl ?_;refine⟨s,b1,Zf (λa6=>⟨rfl,QZ (n:=74) [0,2,4,6,7,8] kr ?_⟩) (λa4=> ?_)⟩
 .have a6:i<=s.length:=by
   have:(i:Int)<=(s.length:Int):=by simpa[leI]using a6
   omega
  refine Zh Tryv.Yok 74 ZNv rfl ?_;refine⟨s,b1,?_⟩;rw[hw,qdq,XY];have b2:=ZM (off:=0+((i:Nat):Int).toNat*1) (new:= [V.b true]) (gp u) (by rw[XD];simp;omega);refine⟨⟨om,om,om,om⟩,⟨om,om⟩,rfl,_,b2,?_⟩;obtain⟨y,e2⟩: ∃y,y=(u.push (.arr (row Zl (Zy (s.length+1))) true)).set u.nx (some (.arr (splice (row Zl (Zy (s.length+1))) (0+((i:Nat):Int).toNat*1) [.b true]) true)):=⟨_,rfl⟩;rw[<-e2];have a8:XO y [u.nx]=Zs3 (s.length+1) i u:=by
   rw[e2,show 0+((i:Nat):Int).toNat*1=i from sm,JC _ _ _ (by simp;omega)];rfl
  have g2:y.get u.nx=some (.arr (row Zl (oneF (s.length+1) i)) true):=by
   rw[e2,qc,uF rfl,show 0+((i:Nat):Int).toNat*1=i from sm,JC _ _ _ (by simp;omega)];rfl
  have k2: ∀j,j<u.nx->y.get j=u.get j:=λj hj=>by rw[e2,qc,uE om,qk,uE om]
  have n2:y.nx=u.nx+1:=by rw[e2,Heap.nx_set];simp
  have b7:=hF.new;have a2:=hF.lt;have Z:(oneF (s.length+1) i).length=s.length+1:=by simp[oneF]
  have a5:=(Con.ofP [u.nx] (h:=y) (.cons _ _ _ _ (.same _) (.cons _ _ _ _ (.same _) (.cons _ _ _ _ (.frz _ _ (frzB (c:=some (s.length+1)) _ g2 Z.symm sm)) (.cons _ _ _ _ (.same _) (.cons _ _ _ _ (.same _) .nil))))) (A _ Z));refine⟨s,l y (by rw[k2 idw om,hF.keep idw hi]),_,_,_,_,a5,rfl,?_⟩;have b4:=z _ Z;have a7:FreshB h (XO y [u.nx]) g (R.take i++Zy (s.length+1-i)):=by
   refine⟨by rw[Xw,uE (by simp;omega),k2 _ a2];exact hF.get,b7,by rw[Qt];omega,λj hj=> ?_⟩;rw[Xw,uE (by simp;omega),k2 j om];exact hF.keep j hj
  obtain⟨o,H⟩: ∃o,o=f (oneF (s.length+1) i):=⟨_,rfl⟩;rw[<-H]at b4 ⊢;have b8:i<R.length:=om;have c7:R[i]=anyB o a:=by rw[H];exact C i b8
  obtain⟨w,b9⟩: ∃w,s.length+1-i=w+1:=⟨s.length-i,om⟩;refine Zfa [0,2,4,6,7,8,10,11] [0,2,4,6,7,8,10,11] (λm vs x=> ∃d:Nat,vs= [.p (some (idw,0)),lst Zl a, .lb (R110 k set G lo a9 n), .sl none 0 (some 0) 0, .sl (some (g,0)) (s.length+1) (some (s.length+1)) 1,I (i:Nat),lst Zl o,I (d:Nat)]/\d<=s.length+1/\m=s.length+1-d/\
   x=Zdl g (R.take i) o a w (Zs3 (s.length+1) i u) d) (s.length+1) ZA ⟨0,rfl,om,rfl,a8⟩ ?_
  rintro m3 c6 h3 ⟨d,rfl,c5,rfl,a1⟩;have P:FreshB h h3 g (R.take i++(anyB (o.take d) (a.take d)::Zy w)):=by
   rw[a1];refine WS ?_ d;rw[a8,b9]at a7;exact a7
  have b0:=l h3 (P.keep idw hi);have L:(R.take i).length=i:=by rw[uO];omega
  have b5:(R.take i++(anyB (o.take d) (a.take d)::Zy w)).length=s.length+1:=by rw[qf,L];simp;omega
  refine Zn Tryv.Yok ZNw rfl ?_;refine⟨s,b0,Zf (λE=> ?_) (λF=> ?_)⟩
  .have E:d<=s.length:=by
    have:(d:Int)<=(s.length:Int):=by simpa[leI]using E
    omega
   have a0:d<o.length:=om;have K:d<a.length:=om;have O:Zb h3 g (0+((i:Nat):Int).toNat*1) 1=some [.b (anyB (o.take d) (a.take d))]:=by
    rw[Zs P.get,show 0+((i:Nat):Int).toNat*1=i from sm,Zcg _ om,List.getElem_append_right om];simp[L]
   have nx: ∀v:Bool,v=(anyB (o.take d) (a.take d)||(o[d]&&a[d]))-> ∃D,Zi h3 g (0+((i:Nat):Int).toNat*1) [.b v]=some D/\D=Zdl g (R.take i) o a w (Zs3 (s.length+1) i u) (d+1):=λv hv=>by
    have e:anyB (o.take (d+1)) (a.take (d+1))=v:=by
     rw[qa a0,qa K,Zml _ _ (by rw[uO,uO];omega),hv]
    refine⟨_,ZM P.get (by rw[XD,b5];simp;omega),?_⟩;rw[show 0+((i:Nat):Int).toNat*1=i from sm,JC _ _ _ om,Zdl,<-a1,e,List.set_append_right _ _ om,L,vK,List.set_cons_zero]
   have b6:wW ((d:Int)+1)=((d+1:Nat):Int):=Ze om;rw[b6];have bi:(0:Int)<=((i:Nat):Int)/\((i:Nat):Int)<((s.length+1:Nat):Int):=⟨om,om⟩;refine⟨bi,rfl,_,O,Zf (λhb=> ?_) (λhb=>⟨Zu a0,_,QX o a0,Zf (λht=>⟨Zu K,_,QX a K,bi,rfl,?_⟩) (λht=>⟨bi,rfl,?_⟩)⟩)⟩
   .obtain⟨D,p1,p2⟩:=nx true (by rw[hb];rfl);exact⟨bi,rfl,D,p1,rfl,s.length+1-(d+1),om,d+1,rfl,om,rfl,p2⟩
   .obtain⟨D,p1,p2⟩:=nx a[d] (by rw[hb,ht];simp);exact⟨D,p1,rfl,s.length+1-(d+1),om,d+1,rfl,om,rfl,p2⟩
   .obtain⟨D,p1,p2⟩:=nx false (by rw[hb,ht];simp);exact⟨D,p1,rfl,s.length+1-(d+1),om,d+1,rfl,om,rfl,p2⟩
  .have F: ¬((d:Int)<=(s.length:Int)):=by simpa[leI]using F
   have he:d=s.length+1:=om;subst he;refine ZU rfl ⟨rfl,[0,2,4,6,7,8],rfl,?_⟩;refine Zn Tryv.Yok ZNx rfl ?_;refine⟨rfl,s.length+1-(i+1),om,i+1,g,by rw[Ze om];rfl,om,rfl,t,?_⟩;rw[a1,JD,<-hH,H,<-t,show s.length+1-1-i=w from om]
 .have a4: ¬((i:Int)<=(s.length:Int)):=by simpa[leI]using a4
  have he:i=s.length+1:=om;subst he;refine ZU rfl (Zj [7] ?_);refine Zo Tryv.Yok ZNy rfl ?_;exact finC rr rfl (.now ⟨by rw[t];rfl,hH⟩)
end Go.Y
namespace Go.Y
set_option maxRecDepth 1000000
set_option maxHeartbeats 0
abbrev At(l:List Bool)(k:Nat):Prop:=l.getD k false=true
theorem At.lt{l:List Bool}{k:Nat}(h:At l k):k<l.length:=by
 rcases Nat.lt_or_ge k l.length with a|a
 .exact a
 .unfold At at h;rw[qw,qq a]at h;cases h
theorem Zow{x y:List Bool}(a:y.length<=x.length)(k:Nat):At (XN x y) k↔At x k\/At y k:=by
 unfold At;rw[Zmf];simp only[uS,qrq,vJ];constructor
 .rintro(h|h)
  .exact .inl h
  .exact .inr h.2
 .rintro(h|h)
  .exact .inl h
  .exact .inr ⟨qv (At.lt h) a,h⟩
theorem Zjz: ∀ {x y:List Bool},x.length=y.length->Xn x y=false-> ∀k,At y k->At x k
 | [],[],_,_,k,h=>h
 |a::x,b::y,d,c,0,h=>by
  rw[Xn]at c;simp only[uk]at c;have e:b=true:=by simpa[At]using h
  rw[e]at c;show a=true;simpa using c.1
 |a::x,b::y,d,c,k+1,h=>by
  rw[Xn]at c;simp only[uk]at c;exact Zjz (x:=x) (y:=y) (by simpa using d) c.2 k h
theorem Wv(n k:Nat): ¬At (Zy n) k:=by
 intro h;have:=At.lt h;unfold At at h;rw[qw,qo this]at h;simp[Zy]at h
theorem ZNz{l:List Bool}{i k:Nat}(a:i<l.length):At (l.set i true) k↔At l k\/k=i:=by
 unfold At;rw[qw,qw,List.getElem?_set];by_cases e:i=k
 .subst e;simp[a]
 .rw[uE e];constructor
  .exact .inl
  .rintro(h|h)
   .exact h
   .exact absurd h.symm e
/-! ### Powers -/
def powD(P:Nat->Nat->Prop):Nat->Nat->Nat->Prop
 |0,i,j=>i=j
 |m+1,i,j=> ∃x,P i x/\powD P m x j
theorem Zck(P:Nat->Nat->Prop): ∀(m i j:Nat),powD P (m+1) i j↔ ∃x,powD P m i x/\P x j
 |0,i,j=>by
  constructor
  .rintro⟨x,h,rfl⟩;exact⟨i,rfl,h⟩
  .rintro⟨x,rfl,h⟩;exact⟨j,h,rfl⟩
 |m+1,i,j=>by
  constructor
  .rintro⟨x,h,d⟩;obtain⟨y,c,a⟩:=(Zck P m x j).1 d;exact⟨y,⟨x,h,c⟩,a⟩
  .rintro⟨y,⟨x,h,c⟩,a⟩;exact⟨x,h,(Zck P m x j).2 ⟨y,c,a⟩⟩
def LinF(f:List Bool->List Bool)(P:Nat->Nat->Prop)(n:Nat):Prop:= ∀l,l.length=n->(f l).length=n/\ ∀k,At (f l) k↔ ∃i,At l i/\P i k
theorem Zox{f:List Bool->List Bool}{P:Nat->Nat->Prop}{n:Nat}(a:LinF f P n){l:List Bool}(d:l.length=n)(c:l=f l): ∀(m k:Nat),(∃i,At l i/\powD P m i k)↔At l k
 |0,k=>by
  constructor
  .rintro⟨i,h,rfl⟩;exact h
  .exact λh=>⟨k,h,rfl⟩
 |m+1,k=>by
  constructor
  .rintro⟨i,h,x,e,g⟩;have:At l x:=by rw[c];exact((a l d).2 x).2 ⟨i,h,e⟩
   exact(Zox a d c m k).1 ⟨x,this,g⟩
  .intro h;obtain⟨x,e,g⟩:=(Zox a d c m k).2 h;rw[c]at e;obtain⟨i,j,o⟩:=((a l d).2 x).1 e;exact⟨i,j,x,o,g⟩
theorem Zq5{f:List Bool->List Bool}{P:Nat->Nat->Prop}{n:Nat}(a:LinF f P n): ∀(m:Nat) {l:List Bool},l.length=n-> ∀k,At (rep1 f m l) k↔ ∃i,At l i/\powD P m i k
 |0,l,c,k=>by
  rw[rep1];constructor
  .exact λh=>⟨k,h,rfl⟩
  .rintro⟨i,h,rfl⟩;exact h
 |m+1,l,c,k=>by
  rw[rep1];split
  .rename_i d;have d:=eq_of_beq d;rw[<-d];exact(Zox a c d (m+1) k).symm
  .rw[Zq5 a m (a l c).1 k];constructor
   .rintro⟨x,h,j⟩;obtain⟨i,e,g⟩:=((a l c).2 x).1 h;exact⟨i,e,x,g,j⟩
   .rintro⟨i,e,x,g,j⟩;exact⟨x,((a l c).2 x).2 ⟨i,e,g⟩,j⟩
theorem ZBf{f:List Bool->List Bool}{P:Nat->Nat->Prop}{n:Nat}(K:LinF f P n){W:Nat->Nat->Prop}(B: ∀t k,W (t+1) k↔ ∃x,W t x/\P x k){lo hi:Int} :
  ∀(v t:Nat) (now c:List Bool) (fr:Bool),now.length=n->c.length=n->(∀k,At now k↔W t k)->(∀k,At c k↔ ∃j,j<=t/\W j k)->(fr=false-> ∀k,W t k-> ∃j,j<t/\W j k)->(hi<0\/lo+(t:Int)<=hi)->
   Zd0 c+(if fr=true then 1 else 0)<=v-> ∀k,At (rep2 f hi v (lo+(t:Int)) now c fr) k↔ ∃j:Nat,(hi<0\/lo+(j:Int)<=hi)/\W j k:=by
 have stop: ∀(t:Nat) (c:List Bool) (fr:Bool),(∀k,At c k↔ ∃j,j<=t/\W j k)->(fr=false-> ∀k,W t k-> ∃j,j<t/\W j k)->(hi<0\/lo+(t:Int)<=hi)-> ¬((hi<0\/lo+(t:Int)<hi)/\fr=true)->
   ∀k,At c k↔ ∃j:Nat,(hi<0\/lo+(j:Int)<=hi)/\W j k:=by
  intro t c fr u r z m k;rw[u];constructor
  .rintro⟨j,G,g⟩;exact⟨j,by rcases z with h|h<;>omega,g⟩
  .rintro⟨j,G,g⟩;by_cases l:fr=true
   .have: ¬(hi<0\/lo+(t:Int)<hi):=λh=>m ⟨h,l⟩;exact⟨j,om,g⟩
   .have r:=r (by simpa using l);have all: ∀(j:Nat) (k:Nat),W j k-> ∃o,o<=t/\W o k:=by
     intro j
     induction j with
     |zero=>exact λk g=>⟨0,om,g⟩
     |succ j E=>
      intro k g;obtain⟨x,O,hp⟩:=(B j k).1 g;obtain⟨o,a0,w⟩:=E x O;rcases Nat.lt_or_ge o t with h|h
      .exact⟨o+1,om,(B o k).2 ⟨x,w,hp⟩⟩
      .have e:o=t:=om;subst e;obtain⟨L,Z,C⟩:=r x w;exact⟨L+1,om,(B L k).2 ⟨x,C,hp⟩⟩
    exact all j k g
 intro v
 induction v with
 |zero=>
  intro t now c fr H N F u r z D k;rw[rep2];refine stop t c fr u r z (λh=> ?_) k;rw[uF h.2]at D;omega
 |succ v E=>
  intro t now c fr H N F u r z D k;rw[rep2];split
  .rename_i A;obtain⟨A,l⟩:=A;have X:=(K now H).1;have G:=Wu c (f now);have d: ∀k,At (f now) k↔W (t+1) k:=λk=>by
    rw[(K now H).2 k,B];constructor
    .rintro⟨i,a,b⟩;exact⟨i,(F i).1 a,b⟩
    .rintro⟨i,a,b⟩;exact⟨i,(F i).2 a,b⟩
   have e:lo+(t:Int)+1=lo+((t+1:Nat):Int):=om;rw[e];rw[uF l]at D;refine E (t+1) (f now) (XN c (f now)) (Xn c (f now)) X (by rw[XX];exact N) d (λk=> ?_) (λm k g=> ?_) om ?_ k
   .rw[Zow om,u,d];constructor
    .rintro(⟨j,a,b⟩|h)
     .exact⟨j,om,b⟩
     .exact⟨t+1,om,h⟩
    .rintro⟨j,a,b⟩;rcases Nat.lt_or_ge j (t+1)with h|h
     .exact .inl ⟨j,om,b⟩
     .have:j=t+1:=om;subst this;exact .inr b
   .have:=Zjz om m k ((d k).2 g);obtain⟨j,a,b⟩:=(u k).1 this;exact⟨j,om,b⟩
   .cases y:Xn c (f now)
    .simp;omega
    .have:=G.2 y;simp;omega
  .rename_i A;exact stop t c fr u r z A k
theorem Zoy{f:List Bool->List Bool}{P:Nat->Nat->Prop}{n:Nat}(w:LinF f P n){g l:Int}(E:0<=g)(D:l<0\/g<=l){fr:List Bool}(A:fr.length=n)(k:Nat):
  At (Vy f n g l fr) k↔ ∃i,At fr i/\ ∃m:Nat,g<=(m:Int)/\(l<0\/(m:Int)<=l)/\powD P m i k:=by
 have r:=λt (h:t.length=n)=>(w t h).1;have z:(rep1 f g.toNat fr).length=n:=Zjt r _ _ A;have u:=Zq5 w g.toNat A;have C:=Zjw (Zy n);have F:=Wu (Zy n) (rep1 f g.toNat fr);have y:(Zy n).length=n:=sm;have o:=ZBf w (W:=λt k=> ∃i,At fr i/\powD P (g.toNat+t) i k) (λt k=>by
  constructor
  .rintro⟨i,a,b⟩;obtain⟨x,c,d⟩:=(Zck P (g.toNat+t) i k).1 b;exact⟨x,⟨i,a,c⟩,d⟩
  .rintro⟨x,⟨i,a,c⟩,d⟩;exact⟨i,a,(Zck P (g.toNat+t) i k).2 ⟨x,c,d⟩⟩) (lo:=g) (hi:=l) (n+2) 0 (rep1 f g.toNat fr) (XN (Zy n) (rep1 f g.toNat fr)) (Xn (Zy n) (rep1 f g.toNat fr)) z (by rw[XX,y]) u
  (λk=>by
   rw[Zow om];constructor
   .rintro(h|h)
    .exact absurd h (Wv n k)
    .exact⟨0,qnq _,(u k).1 h⟩
   .rintro⟨j,a,b⟩;have:j=0:=om;subst this;exact .inr ((u k).2 b))
  (λv k B=>absurd (Zjz om v k ((u k).2 B)) (Wv n k)) (by simpa using D) (by
   cases Xn (Zy n) (rep1 f g.toNat fr)<;>simp<;>omega) k
 unfold Vy;rw[show g+((0:Nat):Int)=g from om]at o;rw[o];constructor
 .rintro⟨j,a,i,b,c⟩;exact⟨i,b,g.toNat+j,om,om,c⟩
 .rintro⟨i,b,m,c,d,e⟩;exact⟨m-g.toNat,om,i,b,by rw[show g.toNat+(m-g.toNat)=m from om];exact e⟩
def StD(s:List UInt8)(bg en:Bool):Re->Nat->Nat->Prop
 | .mk k set d f e _=>λi j=>
  if k=0 then i=j else if k=1 then∃c,s[i]? =some c/\hasN set c.toNat=true/\j=i+1 else if k=2 then i=0/\j=0/\bg=true else if k=3 then i=s.length/\j=s.length/\en=true
  else if k=4 then catD d i j else if k=5 then altD d i j else if k=6 then∃m:Nat,f<=(m:Int)/\(e<0\/(m:Int)<=e)/\powD (λa b=>headD d a b) m i j else if k=7 then headD d i j else False
where
 catD:List Re->Nat->Nat->Prop
  | [],i,j=>i=j
  |r::l,i,j=> ∃x,StD s bg en r i x/\catD l x j
 altD:List Re->Nat->Nat->Prop
  | [],_,_=>False
  |r::l,i,j=>StD s bg en r i j\/altD l i j
 headD:List Re->Nat->Nat->Prop
  | [],i,j=>i=j
  |r::_,i,j=>StD s bg en r i j
theorem Zxw(set): ∀ {s:List UInt8} {fr:List Bool},s.length<=fr.length-> ∀i,At (JA set s fr) i↔At fr i/\ ∃c,s[i]? =some c/\hasN set c.toNat=true
 | [],fr,_,i=>by
  have e:JA set [] fr= []:=by rw[JA]
  rw[e];constructor
  .intro h;have:=At.lt h;simp at this
  .rintro⟨_,c,h,_⟩;simp at h
 |c::s,[],h,i=>by simp at h
 |c::s,f::fr,h,0=>by
  show(f&&hasN set c.toNat)=true↔f=true/\ ∃d,some c=some d/\_;simp
 |c::s,f::fr,h,i+1=>by
  have:=Zxw set (s:=s) (fr:=fr) (by simpa using h) i;simpa[At,JA]using this
theorem ZHc(n k:Nat)(x:Bool):At (Zy n++ [x]) k↔k=n/\x=true:=by
 unfold At;rw[qw];rcases Nat.lt_trichotomy k n with h|h|h
 .rw[vC (by simpa using h),qo (by simpa using h)];simp[Zy];omega
 .subst h;rw[vB sm];simp[Zy]
 .rw[qq (by simp;omega)];simp;omega
mutual
theorem VA{s:List UInt8}{bg en:Bool}{B:Nat} : ∀r:Re,wfRe B r->gkRe r->LinF (overF s bg en r) (StD s bg en r) (s.length+1)
 | .mk k set f L K n,h,g=>by
  rw[wfRe]at h;rw[gkRe]at g;intro l m;refine⟨JB s bg en _ l m,λj=> ?_⟩;rw[overF,StD];by_cases w:k=0
  .simp only[uF w];constructor
   .exact λh=>⟨j,h,rfl⟩
   .rintro⟨i,h,rfl⟩;exact h
  simp only[uE w];by_cases v:k=1
  .simp only[uF v]
   cases j with
   |zero=>
    constructor
    .intro h;exact absurd h (by simp[At])
    .rintro⟨i,_,c,_,_,h⟩;omega
   |succ j=>
    have:At (false::JA set s l) (j+1)↔At (JA set s l) j:=by simp[At]
    rw[this,Zxw set om];constructor
    .rintro⟨a,c,b,d⟩;exact⟨j,a,c,b,d,rfl⟩
    .rintro⟨i,a,c,b,d,e⟩;have:i=j:=om;subst this;exact⟨a,c,b,d⟩
  simp only[uE v];by_cases y:k=2
  .simp only[uF y]
   cases j with
   |zero=>
    have:At ((l.getD 0 false&&bg)::Zy s.length) 0↔At l 0/\bg=true:=by simp[At]
    rw[this];constructor
    .rintro⟨a,b⟩;exact⟨0,a,rfl,rfl,b⟩
    .rintro⟨i,a,rfl,_,b⟩;exact⟨a,b⟩
   |succ j=>
    have:At ((l.getD 0 false&&bg)::Zy s.length) (j+1)↔At (Zy s.length) j:=by simp[At]
    rw[this];constructor
    .exact λh=>absurd h (Wv _ _)
    .rintro⟨i,_,_,h,_⟩;omega
  simp only[uE y];by_cases A:k=3
  .simp only[uF A];rw[ZHc];simp only[qrq];constructor
   .rintro⟨rfl,a,b⟩;exact⟨_,a,rfl,rfl,b⟩
   .rintro⟨i,a,rfl,rfl,b⟩;exact⟨rfl,a,b⟩
  simp only[uE A];by_cases C:k=4
  .simp only[uF C];exact Zq6 f h.2.2.2 g.2 l m j
  simp only[uE C];by_cases z:k=5
  .simp only[uF z];rw[Zq7 f h.2.2.2 g.2 l (Zy (s.length+1)) m sm j];constructor
   .rintro(h|h)
    .exact absurd h (Wv _ _)
    .exact h
   .exact .inr
  simp only[uE z];by_cases o:k=6
  .simp only[uF o];obtain⟨D,H,F,G⟩:=h.1 o;obtain⟨x,rfl⟩:=List.length_eq_one_iff.1 G;have E:LinF (λt=>overF.heads s bg en [x] t) (λa b=>StD.headD s bg en [x] a b) (s.length+1):=Zmm [x] h.2.2.2 g.2 rfl;rw[Zoy E D (by rcases F with q|q<;>omega) m j]
  simp only[uE o];by_cases u:k=7
  .simp only[uF u];exact(Zmm f h.2.2.2 g.2 (g.1 u) l m).2 j
  .simp only[uE u];constructor
   .exact λh=>absurd h (Wv _ _)
   .rintro⟨i,_,h⟩;exact h.elim
theorem Zq6{s:List UInt8}{f g:Bool}{B:Nat} : ∀l:List Re,wfRe.wfRes B l->gkRe.gkRes l-> ∀t:List Bool,t.length=s.length+1-> ∀j,At (overF.cats s f g l t) j↔ ∃i,At t i/\StD.catD s f g l i j
 | [],_,_,t,n,j=>by
  rw[overF.cats];constructor
  .exact λh=>⟨j,h,by rw[StD.catD]⟩
  .rintro⟨i,h,e⟩;rw[StD.catD]at e;exact e▸h
 |r::l,h,k,t,n,j=>by
  rw[wfRe.wfRes]at h;rw[gkRe.gkRes]at k;have m:=VA (s:=s) (bg:=f) (en:=g) r h.1 k.1 t n;rw[overF.cats,Zq6 l h.2 k.2 _ m.1 j];constructor
  .rintro⟨x,a,b⟩;obtain⟨i,c,d⟩:=(m.2 x).1 a;exact⟨i,c,by rw[StD.catD];exact⟨x,d,b⟩⟩
  .rintro⟨i,c,e⟩;rw[StD.catD]at e;obtain⟨x,d,b⟩:=e;exact⟨x,(m.2 x).2 ⟨i,c,d⟩,b⟩
theorem Zq7{s:List UInt8}{f g:Bool}{B:Nat} : ∀l:List Re,wfRe.wfRes B l->gkRe.gkRes l-> ∀t d:List Bool,t.length=s.length+1->d.length=s.length+1-> ∀j,At (overF.alts s f g l t d) j↔At d j\/ ∃i,At t i/\StD.altD s f g l i j
 | [],_,_,t,d,k,c,j=>by
  rw[overF.alts];constructor
  .exact .inl
  .rintro(h|⟨i,_,e⟩)
   .exact h
   .rw[StD.altD]at e;exact e.elim
 |r::l,h,m,t,d,k,c,j=>by
  rw[wfRe.wfRes]at h;rw[gkRe.gkRes]at m;have n:=VA (s:=s) (bg:=f) (en:=g) r h.1 m.1 t k;rw[overF.alts,Zq7 l h.2 m.2 t _ k (by rw[XX];exact c) j,Zow om,n.2 j];constructor
  .rintro((h|⟨i,a,b⟩)|⟨i,a,b⟩)
   .exact .inl h
   .exact .inr ⟨i,a,by rw[StD.altD];exact .inl b⟩
   .exact .inr ⟨i,a,by rw[StD.altD];exact .inr b⟩
  .rintro(h|⟨i,a,b⟩)
   .exact .inl (.inl h)
   .rw[StD.altD]at b;rcases b with b|b
    .exact .inl (.inr ⟨i,a,b⟩)
    .exact .inr ⟨i,a,b⟩
theorem Zmm{s:List UInt8}{bg en:Bool}{B:Nat} : ∀l:List Re,wfRe.wfRes B l->gkRe.gkRes l->l.length=1->LinF (λt=>overF.heads s bg en l t) (λa b=>StD.headD s bg en l a b) (s.length+1)
 | [],_,_,g=>by simp at g
 |r::l,h,c,_=>by
  rw[wfRe.wfRes]at h;rw[gkRe.gkRes]at c;have f:=VA (s:=s) (bg:=bg) (en:=en) r h.1 c.1;intro t e;have d:=f t e;refine⟨by simp only[overF.heads];exact d.1,λj=> ?_⟩;simp only[overF.heads,StD.headD];exact d.2 j
end
end Go.Y
namespace Go.Y
open Go.Proofs
set_option maxRecDepth 1000000
set_option maxHeartbeats 0
def Tryw.modes:List Nat:=Tryv.modes.set 91 0
noncomputable def Tryw.Y:YP:=⟨Go.Proofs.Tryz.prog,Tryz.tys,Tryz.locs,Tryw.modes,[182,5],[(185,1),(197,2)],[26,27,28]⟩
theorem Tryw.Yok:YOK Tryw.Y:=Vg kr Tryz.extok
theorem Con.vw{f:FuncId}{a}{h}{Q}(c:Con Tryv.Y f a h Q):Con Tryw.Y f a h Q:=⟨c.body,c.tr⟩
theorem Con.wv{f:FuncId}{a}{h}{Q}(c:Con Tryw.Y f a h Q):Con Tryv.Y f a h Q:=⟨c.body,c.tr⟩
theorem Zq8: ∀ {x y:List Bool},x.length=y.length->(anyB x y=true↔ ∃k,At x k/\At y k)
 | [],_,_=>⟨λh=>(by cases h),λh=>by obtain⟨k,h,_⟩:=h;exact absurd (At.lt h) sm⟩
 |a::x,[],h=>by cases h
 |a::x,b::y,h=>by
  have e:=Zq8 (x:=x) (y:=y) (by simpa using h);rw[anyB,uS,e];constructor
  .rintro(h|⟨k,c,d⟩)
   .simp only[qrq]at h;exact⟨0,h.1,h.2⟩
   .exact⟨k+1,c,d⟩
  .rintro⟨k,c,d⟩
   cases k with
   |zero=>exact .inl (by simp only[qrq];exact⟨c,d⟩)
   |succ k=>exact .inr ⟨k,c,d⟩
theorem Zib{n i:Nat}(a:i<n)(k:Nat):At (oneF n i) k↔k=i:=by
 unfold oneF;rw[ZNz (by simpa using a)];exact⟨λh=>h.resolve_left (Wv _ _), .inr⟩
theorem Zgi{l:List Bool}{i:Nat}(h:i<l.length):At l i↔l[i]=true:=by
 unfold At;rw[qw,qo h];rfl
theorem Qi{r}(w:WG r){s:List UInt8}{a:List Bool}(m:a.length=s.length+1){i:Nat}(o:i<=s.length):At (ZX r s a) i↔ ∃k,StD s true true r i k/\At a k:=by
 have n:=XM r s a;have g:(oneF (s.length+1) i).length=s.length+1:=by simp[oneF]
 obtain⟨l,e⟩:=VA (s:=s) (bg:=true) (en:=true) r w.wf w.gk _ g;rw[Zgi om,Zia,Zq8 om];constructor
 .rintro⟨k,c,d⟩;obtain⟨j,f,h⟩:=(e k).1 c;rw[Zib om]at f;exact⟨k,f▸h,d⟩
 .rintro⟨k,c,d⟩;exact⟨k,(e k).2 ⟨i,(Zib om _).2 rfl,c⟩,d⟩
theorem ZC8{P:Nat->Nat->Prop}{N:Nat}(c: ∀a b,a<=N->P a b->a<=b/\b<=N): ∀(m:Nat) {i j:Nat},i<=N->powD P m i j->i<=j/\j<=N
 |0,i,j,d,h=>by
  have h:i=j:=h;exact⟨om,om⟩
 |m+1,i,j,d,⟨x,f,g⟩=>by
  have q:=c i x d f;have e:=ZC8 c m q.2 g;exact⟨om,e.2⟩
mutual
theorem Zgj{s:List UInt8}{x y:Bool} : ∀(r:Re) {i j:Nat},i<=s.length->StD s x y r i j->i<=j/\j<=s.length
 | .mk k set d D C n,i,j,e,h=>by
  rw[StD]at h;by_cases l:k=0
  .simp only[uF l]at h;omega
  .simp only[uE l]at h;by_cases f:k=1
   .simp only[uF f]at h;obtain⟨c,B,_,E⟩:=h;have:=(qb.1 B).1;omega
   .simp only[uE f]at h;by_cases o:k=2
    .simp only[uF o]at h;omega
    .simp only[uE o]at h;by_cases u:k=3
     .simp only[uF u]at h;omega
     .simp only[uE u]at h;by_cases v:k=4
      .simp only[uF v]at h;exact Zic d e h
      .simp only[uE v]at h;by_cases t:k=5
       .simp only[uF t]at h;exact ZC9 d e h
       .simp only[uE t]at h;by_cases g:k=6
        .simp only[uF g]at h;obtain⟨m,_,_,h⟩:=h;exact ZC8 (λa b z A=>Zxx d z A) m e h
        .simp only[uE g]at h;by_cases w:k=7
         .simp only[uF w]at h;exact Zxx d e h
         .simp only[uE w]at h
theorem Zic{s:List UInt8}{c e:Bool} : ∀(l:List Re) {i j:Nat},i<=s.length->StD.catD s c e l i j->i<=j/\j<=s.length
 | [],i,j,a,h=>by rw[StD.catD]at h;omega
 |r::l,i,j,a,h=>by
  rw[StD.catD]at h;obtain⟨x,d,f⟩:=h;have q:=Zgj r a d;have g:=Zic l q.2 f;omega
theorem ZC9{s:List UInt8}{c d:Bool} : ∀(l:List Re) {i j:Nat},i<=s.length->StD.altD s c d l i j->i<=j/\j<=s.length
 | [],i,j,a,h=>by rw[StD.altD]at h;exact h.elim
 |r::l,i,j,a,h=>by
  rw[StD.altD]at h;rcases h with h|h
  .exact Zgj r a h
  .exact ZC9 l a h
theorem Zxx{s:List UInt8}{c d:Bool} : ∀(l:List Re) {i j:Nat},i<=s.length->StD.headD s c d l i j->i<=j/\j<=s.length
 | [],i,j,a,h=>by rw[StD.headD]at h;omega
 |r::l,i,j,a,h=>by rw[StD.headD]at h;exact Zgj r a h
end
def WayK(s:List UInt8)(idw:Nat)(h:Heap):Prop:=idw<h.nx/\ ∃l:List Int,l.length=20/\h.get idw=some (.arr (.s s::l.map (V.i .i64)) true)
theorem WayK.keep{s}{idw:Nat}{h a:Heap}(w:WayK s idw h)(f:h.nx<=a.nx)(c: ∀j,j<h.nx->a.get j=h.get j):WayK s idw a:=by
 obtain⟨w1,l,e,d⟩:=w;exact⟨om,l,e,by rw[c _ w1,d]⟩
theorem WayK.txt{s}{idw:Nat}{h}(w:WayK s idw h):Zb h idw 0 1=some [.s s]:=by
 obtain⟨w1,l,c,a⟩:=w;rw[Zs a];rfl
def hz(r:Re)(s:List UInt8)(a:List Bool)(h:Heap):Heap:=XO (rh r s a h) [h.nx]
theorem FreshB.keeps{h a:Heap}{c:Nat}{l}(f:FreshB h a c l):h.nx<=a.nx:=by
 have d:=f.new;have e:=f.lt;omega
theorem Zid{r}(hr:WG r){s:List UInt8}(d:s.length<2 ^ 19){a:List Bool}(f:a.length=s.length+1){idw:Nat}{h}(c:WayK s idw h):
  FreshB h (rh r s a h) h.nx (ZX r s a)/\WayK s idw (rh r s a h)/\
  Con Tryw.Y 91 [.p (some (idw,0)), .agg (Zd r),lst Zl a] h λv e=>v= .sl (some (h.nx,0)) (s.length+1) (some (s.length+1)) 1/\e=rh r s a h:=by
 obtain⟨F,C⟩:=ZC7 hr d f c.1 c.txt;exact⟨F,c.keep F.keeps F.keep,C.vw⟩
theorem Zie{r}(hr:WG r){s:List UInt8}(f:s.length<2 ^ 19){a:List Bool}(l:a.length=s.length+1){idw:Nat}{h}(d:WayK s idw h):
  WayK s idw (hz r s a h)/\Con Tryv.Y 91 [.p (some (idw,0)), .agg (Zd r),lst Zl a] h λv e=>v=lst Zl (ZX r s a)/\e=hz r s a h:=by
 obtain⟨F,C⟩:=ZC7 hr f l d.1 d.txt;have m:=F.keeps;refine⟨d.keep (by unfold hz;rw[Qt];exact m) λj g=>by unfold hz;rw[Xw,uE (by simp;omega)];exact F.keep j g,Con.freeze (C.mono λv e ⟨n,k⟩=> ?_)⟩;subst n;subst k;exact⟨[h.nx],_, .inl (.frz _ _ (frzB (c:=some (s.length+1)) _ F.get (by rw[XM]) sm)),rfl,rfl⟩
theorem ZHd(a k0 p0 p1 p2 p3 b n0 c d m0 i2 e n3 h K):CP Tryw.Y 129 (pre (flat (Za Tryz.f129))) (.p (some (a,0))::.agg (R9 k0 p0 p1 p2 p3 b n0 none c d m0)::I i2::J e n3 none::Rp 60) h [0,2,3,5] K=(K .normal 64 [.p (some (a,0)),I i2,J e n3 none, .lb (R9 k0 p0 p1 p2 p3 b n0 none c d m0)] h):=kr
theorem ZHe(b k0 p0 p1 p2 p3 c n0 d a m0 i2 e n3 h K):CP Tryw.Y 129 ((flat (Zx (post (flat (Za Tryz.f129))))).take 2) (MZ 64 [0,2,3,5] [.p (some (b,0)),I i2,J e n3 none,.lb (R9 k0 p0 p1 p2 p3 c n0 none d a m0)]) h [0,2,3,5] K=(If (a !=(0:Int)) (K .normal 64 [.p (some (b,0)),I i2,J e n3 none, .lb (R9 k0 p0 p1 p2 p3 c n0 none d a m0)] h) (K (.exit 0) 64 [.p (some (b,0)),I i2,J e n3 none, .lb (R9 k0 p0 p1 p2 p3 c n0 none d a m0)] h)):=kr
theorem ZHf(d:Nat)(j f n m k:Int)(c)(g:Nat)(b a l r:Int)(e)(o:Nat)(h)(K:KT):(Zc Tryw.Y (Tryw.Y.loc 129) 100 ((flat (ZL ((flat (Zx (post (flat (Za Tryz.f129))))).drop 2))).take 5) ⟨mk 64 (([0,2,3,5]:List Nat).zip [.p (some (d,0)),I r,J e o none,.lb (R9 j f n m k c g none b a l)]),[],h⟩ (VQ [0,2,3,5,9] K))=(If (ltI 0 b) (If (ltI 0 a) (K .normal 64 [.p (some (d,0)),I r,J e o none, .lb (R9 j f n m k c g none b a l), .lb [I j,U f,U n,U m,U k,J c g none,I (wW (b-(1:Int))),I (wW (a-(1:Int))),I l]] h) (K .normal 64 [.p (some (d,0)),I r,J e o none, .lb (R9 j f n m k c g none b a l), .lb [I j,U f,U n,U m,U k,J c g none,I (wW (b-(1:Int))),I a,I l]] h)) (If (ltI 0 a) (K .normal 64 [.p (some (d,0)),I r,J e o none, .lb (R9 j f n m k c g none b a l), .lb [I j,U f,U n,U m,U k,J c g none,I b,I (wW (a-(1:Int))),I l]] h) (K .normal 64 [.p (some (d,0)),I r,J e o none, .lb (R9 j f n m k c g none b a l), .lb (R9 j f n m k c g none b a l)] h))):=kr
theorem ZHg(e:Nat)(w o u y t:Int)(d)(r:Nat)(f n x z:Int)(g)(A:Nat)(j m:Int)(h)(K:KT):(Zc Tryw.Y (Tryw.Y.loc 129) 100 (((flat (ZL ((flat (Zx (post (flat (Za Tryz.f129))))).drop 2))).drop 5).take 3) ⟨mk 64 (([0,2,3,5,9]:List Nat).zip [.p (some (e,0)),I z,J g A none,.lb (R9 w o u y t d r none f n x),.lb (R9 w o u y t d r none j m x)]),[],h⟩ (VQ [0,2,3,5,9,10] K))=(Con Tryw.Y 91 [.p (some (e,0)),.agg (R9 w o u y t d r none j m x),J g A none] h fun(v:V) (B:Heap)=> ∃a l c k,v=S a l c k/\If (f==(0:Int)) (SlO a False fun(C off:Nat)=>(0<=z/\z<l)/\k=1/\ ∃h,Zi B C (off+z.toNat*1) [.b false]=some h/\K .normal 64 [.p (some (e,0)),I z,J g A none, .lb (R9 w o u y t d r none f n x), .lb (R9 w o u y t d r none j m x),S a l c k] h) (K .normal 64 [.p (some (e,0)),I z,J g A none, .lb (R9 w o u y t d r none f n x), .lb (R9 w o u y t d r none j m x),S a l c k] B)):=kr
theorem ZHh(e k0 p0 p1 p2 p3 d k g j m0 i2 f n3 q r m o h K):CP Tryw.Y 129 (((flat (ZL ((flat (Zx (post (flat (Za Tryz.f129))))).drop 2))).drop 5).drop 3) (MZ 64 [0,2,3,5,9,10] [.p (some (e,0)),I i2,J f n3 none,.lb (R9 k0 p0 p1 p2 p3 d k none g j m0),.lb (R9 k0 p0 p1 p2 p3 d k none q r m0),J m o none]) h [0,2,3,5,8] K=(((0:Int)<=(0:Int)/\(0:Int)<(k:Int))/\ ∃a b c i l n s t u w x,Zr 9 d=some (R9 a b c i l n s t u w x)/\Con Tryw.Y 91 [.p (some (e,0)),.agg (R9 a b c i l n s t u w x),J m o none] h fun(v:V) (A:Heap)=> ∃y z a0 P,v=S y z a0 P/\SlO y False fun(id off:Nat)=>(0<=i2/\i2<z)/\P=1/\ ∃D,Zb A id (off+i2.toNat*1) 1=some [.b D]/\If D (((0:Int)<=(0:Int)/\(0:Int)<(k:Int))/\ ∃Z X L F N O C E H G W,Zr 9 d=some (R9 Z X L F N O C E H G W)/\Con Tryw.Y 92 [.p (some (e,0)),.agg (R9 Z X L F N O C E H G W),I i2,J m o none] A fun(v:V) (A:Heap)=> ∃B,v=I B/\If (ltI B 0) (K .ret 64 [.p (some (e,0)),I i2,J f n3 none, .lb (R9 k0 p0 p1 p2 p3 d k none g j m0),I i2] A) (K .normal 64 [.p (some (e,0)),I B,J f n3 none, .lb (R9 k0 p0 p1 p2 p3 d k none q r m0),Ud] A)) (K .ret 64 [.p (some (e,0)),I i2,J f n3 none, .lb (R9 k0 p0 p1 p2 p3 d k none g j m0),I i2] A)):=kr
theorem ZHi(i2 h K):CP Tryw.Y 129 ((post (flat (Za Tryz.f129))).drop 1) (MZ 64 [2] [I i2]) h [8] K=(K .ret 64 [I i2] h):=kr
end Go.Y
