/- A part of the proof. -/
import Derived.Test.YteennilbmmlikaaGreatDoorEG2
import Derived.Test.YteennilbmmlikaaGreatDoorGTrL
import Derived.Test.YteennilbmmlikaaGreatDoorYLoop
import Derived.Test.YteennilbmmlikaaGreatDoorGSuA
import Derived.Test.YteennilbmmlikaaGreatDoorNTa
namespace Go.Y
open Go.Proofs
set_option maxRecDepth 1000000
set_option maxHeartbeats 0
structure OvOk(r:Re):Prop where
 fine:FineR r
 gk:gkRe r
def atF(r:Re)(s:List UInt8)(i:Nat)(bg en:Bool):List Bool:=if mayE r=true then overF s bg en r ((Zy (s.length+1)).set i true)else Zy (s.length+1)
theorem ZIf(r)(s:List UInt8)(i:Nat)(a b:Bool):(atF r s i a b).length=s.length+1:=by unfold atF;split;exact Jx _ _ _ _ _ sm;simp
theorem at61{r}(g:OvOk r){s:List UInt8}(t:s.length<2 ^ 19){i:Nat}(C:i<=s.length)(bg en:Bool):PCon vY_ 61 [.agg (Zd r), .s s,I i, .b bg, .b en] (· =lst Zl (atF r s i bg en)):=by
 have a:=PCon.zv (Zgm g.fine);have d:=λfr (q:fr.length=s.length+1)=>Zki (bg:=bg) (en:=en) t (B:=1000) dc r g.fine.wf g.fine.nn g.gk fr q;unfold atF;generalize mayE r=b at a;generalize overF s bg en r=f at d;obtain⟨k,z,m,D,p,n⟩:=r;rw[Zn]at a ⊢;simp only[Zn]at d;refine Zv vK_ (fn:=Tryz.f61) rfl ZOz rfl ?_;have w:wW ((s.length:Int)+1)=((s.length+1:Nat):Int):=Ze om;have h:most=1099511627776:=dc;rw[w,qdq,XZ];have l:(Heap.empty.push (.arr (row Zl (Zy (s.length+1))) true)).get Heap.empty.nx=some (.arr (row Zl (Zy (s.length+1))) true):=by rw[qk,uF rfl]
 refine⟨⟨om,om,om,om⟩,b,a,Zf (λc=> ?_) (λc=> ?_)⟩;have c:b=false:=su c;subst c;exact ZB rr rfl (ZCa _ l sm) rfl
 .have c:b=true:=su c;subst c;rw[uF rfl];have j:=ZL (off:=0+(i:Int).toNat*1) (new:= [V.b true]) l (by rw[XE];simp;omega);refine⟨⟨om,om⟩,rfl,_,j,?_⟩;have o:((Heap.empty.push (.arr (row Zl (Zy (s.length+1))) true)).set Heap.empty.nx (some (.arr (splice (row Zl (Zy (s.length+1))) (0+(i:Int).toNat*1) [.b true]) true))).get Heap.empty.nx=some (.arr (row Zl ((Zy (s.length+1)).set i true)) true):=by
   rw[qc,uF rfl,show 0+(i:Int).toNat*1=i from sm,Jz _ _ _ (by simp;omega)]
  have e:((Zy (s.length+1)).set i true).length=s.length+1:=sm;refine(Con.ofP [Heap.empty.nx] (.cons _ _ _ _ (.same _) (.cons _ _ _ _ (.same _) (.cons _ _ _ _ (.frz _ _ (frzB _ o e.symm sm)) (.cons _ _ _ _ (.same _) (.cons _ _ _ _ (.same _) .nil))))) (d _ e)).mono λv A ⟨u,_⟩=>⟨_,_,_,u,?_⟩;exact ZB rr rfl (.ts _ _ _ none (λx y=>by cases y)) rfl
def ZEb(r:Re)(s:List UInt8)(a b:Bool):Bool:=(atF r s 0 a b).getD s.length false
theorem ZO0{a k0 p0 p1 p2 p3 c n0 d e m0 f n2 h}(K):CP vY_ 91 (pre B_91) (p_P a::.agg (R9 k0 p0 p1 p2 p3 c n0 none d e m0)::J f n2 none::Rp 71) h [0,2,4,6,7,8] K=(∃g,Zb h a 0 1=some [.s g]/\((0:Int)<=wW ((↑g.length:Int)+(1:Int))/\wW ((↑g.length:Int)+(1:Int))<=wW ((↑g.length:Int)+(1:Int))/\wW ((↑g.length:Int)+(1:Int))<=(most:Int)/\wW ((↑g.length:Int)+(1:Int))*(↑(1:Nat):Int)<=(most:Int))/\K .normal 74 [p_P a,J f n2 none, .lb (R9 k0 p0 p1 p2 p3 c n0 none d e m0),S0,S (some (h.nx,0)) (wW ((↑g.length:Int)+(1:Int))).toNat (some (wW ((↑g.length:Int)+(1:Int))).toNat) 1,I 0] (h.push (YObj.arr (List.replicate (wW ((↑g.length:Int)+(1:Int))).toNat [.b false]).flatten true))):=kr
theorem ZO1{a k0 p0 p1 p2 p3 b n0 c d m0 e n2 f l7 c7 x8 h}(K):CP vY_ 91 (pre (lp_ B_91)) (MZ 74 [0,2,4,6,7,8] [p_P a,J e n2 none,.lb (R9 k0 p0 p1 p2 p3 b n0 none c d m0),S0,S (some (f,0)) l7 (some c7) 1,I x8]) h [0,2,4,6,7,8] K=(∃g,Zb h a 0 1=some [.s g]/\If (leI x8 (↑g.length:Int)) (K .normal 74 [p_P a,J e n2 none, .lb (R9 k0 p0 p1 p2 p3 b n0 none c d m0),S0,S (some (f,0)) l7 (some c7) 1,I x8] h) (K (.exit 0) 74 [p_P a,J e n2 none, .lb (R9 k0 p0 p1 p2 p3 b n0 none c d m0),S0,S (some (f,0)) l7 (some c7) 1,I x8] h)):=kr
theorem ZO2{a k0 p0 p1 p2 p3 d n0 e f m0 g n2 j l7 c7 x8 h}(K):CP vY_ 91 (pre (bk_ (lp_ B_91))) (MZ 74 [0,2,4,6,7,8] [p_P a,J g n2 none,.lb (R9 k0 p0 p1 p2 p3 d n0 none e f m0),S0,S (some (j,0)) l7 (some c7) 1,I x8]) h [0,2,4,6,7,8,10,11] K=(∃c,Zb h a 0 1=some [.s c]/\((0:Int)<=wW ((↑c.length:Int)+(1:Int))/\wW ((↑c.length:Int)+(1:Int))<=wW ((↑c.length:Int)+(1:Int))/\wW ((↑c.length:Int)+(1:Int))<=(most:Int)/\wW ((↑c.length:Int)+(1:Int))*(↑(1:Nat):Int)<=(most:Int))/\((0:Int)<=x8/\x8<(↑(wW ((↑c.length:Int)+(1:Int))).toNat:Int))/\1=1/\ ∃i,Zi (h.push (YObj.arr (List.replicate (wW ((↑c.length:Int)+(1:Int))).toNat [.b false]).flatten true)) h.nx ((0:Nat)+x8.toNat*1) [.b true]=some i/\ ∃l,Zb i a 0 1=some [.s l]/\ ∃m n o q,(Con vY_ 110 [.agg (R9 k0 p0 p1 p2 p3 d n0 none e f m0),.s l,S (some (h.nx,0)) (wW ((↑c.length:Int)+(1:Int))).toNat (some (wW ((↑c.length:Int)+(1:Int))).toNat) 1,.b true,.b true] i fun(v:V) (k:Heap)=>v=J m n o/\k=q)/\K .normal 74 [p_P a,J g n2 none, .lb (R9 k0 p0 p1 p2 p3 d n0 none e f m0),S0,S (some (j,0)) l7 (some c7) 1,I x8,J m n o,I 0] q):=kr
theorem ZO3{d k0 p0 p1 p2 p3 j n0 l m m0 e n2 c l7 c7 x8 n f g a h}(K):CP vY_ 91 (lp_ (bk_ (lp_ B_91))) (MZ 74 [0,2,4,6,7,8,10,11] [p_P d,J e n2 none,.lb (R9 k0 p0 p1 p2 p3 j n0 none l m m0),S0,S (some (c,0)) l7 (some c7) 1,I x8,J f g n,I a]) h [0,2,4,6,7,8,10,11] K=(∃b,Zb h d 0 1=some [.s b]/\If (leI a (↑b.length:Int)) ((0<=x8/\x8<l7)/\1=1/\ ∃i,Zb h c ((0:Nat)+x8.toNat*1) 1=some [.b i]/\If i ((0<=x8/\x8<l7)/\1=1/\ ∃o,Zi h c ((0:Nat)+x8.toNat*1) [.b true]=some o/\K .normal 74 [p_P d,J e n2 none, .lb (R9 k0 p0 p1 p2 p3 j n0 none l m m0),S0,S (some (c,0)) l7 (some c7) 1,I x8,J f g n,I (wW (a+(1:Int)))] o) ((0<=a/\a<g)/\ ∃o,Zs 1 (List.drop (a.toNat*1) f)=some [.b o]/\If o ((0<=a/\a<n2)/\ ∃q,Zs 1 (List.drop (a.toNat*1) e)=some [.b q]/\(0<=x8/\x8<l7)/\1=1/\ ∃r,Zi h c ((0:Nat)+x8.toNat*1) [.b q]=some r/\K .normal 74 [p_P d,J e n2 none, .lb (R9 k0 p0 p1 p2 p3 j n0 none l m m0),S0,S (some (c,0)) l7 (some c7) 1,I x8,J f g n,I (wW (a+(1:Int)))] r) ((0<=x8/\x8<l7)/\1=1/\ ∃q,Zi h c ((0:Nat)+x8.toNat*1) [.b false]=some q/\K .normal 74 [p_P d,J e n2 none, .lb (R9 k0 p0 p1 p2 p3 j n0 none l m m0),S0,S (some (c,0)) l7 (some c7) 1,I x8,J f g n,I (wW (a+(1:Int)))] q))) (K (.exit 2) 74 [p_P d,J e n2 none, .lb (R9 k0 p0 p1 p2 p3 j n0 none l m m0),S0,S (some (c,0)) l7 (some c7) 1,I x8,J f g n,I a] h)):=kr
theorem ZO4{a k0 p0 p1 p2 p3 b n0 c d m0 e n2 f l7 c7 x8 h}(K):CP vY_ 91 ((post (lp_ B_91)).drop 1) (MZ 74 [0,2,4,6,7,8] [p_P a,J e n2 none,.lb (R9 k0 p0 p1 p2 p3 b n0 none c d m0),S0,S (some (f,0)) l7 (some c7) 1,I x8]) h [0,2,4,6,7,8] K=(K .normal 74 [p_P a,J e n2 none, .lb (R9 k0 p0 p1 p2 p3 b n0 none c d m0),S0,S (some (f,0)) l7 (some c7) 1,I (wW (x8+(1:Int)))] h):=kr
theorem ZO5{a l7 c7 h}(K):CP vY_ 91 ((post B_91).drop 1) (MZ 74 [7] [S (some (a,0)) l7 (some c7) 1]) h [6] K=(K .ret 74 [S (some (a,0)) l7 (some c7) 1] h):=kr
def anyB:List Bool->List Bool->Bool
 | [],_=>false
 |_::_,[]=>false
 |a::x,b::y=>(a&&b)||anyB x y
theorem Znd: ∀ {x y:List Bool} (a b:Bool),x.length=y.length->anyB (x++ [a]) (y++ [b])=(anyB x y||(a&&b))
 | [],[],a,b,_=>by simp[anyB]
 |c::x,d::y,a,b,h=>by
  show((c&&d)||anyB (x++ [a]) (y++ [b]))=(((c&&d)||anyB x y)||(a&&b))
  rw[Znd a b (su h),Bool.or_assoc]
def oneF(n i:Nat):List Bool:=(Zy n).set i true
def ZV(r:Re)(s:List UInt8)(allow:List Bool):List Bool:=(List.range (s.length+1)).map λi=>anyB (overF s true true r (oneF (s.length+1) i)) allow
theorem XN(r)(s:List UInt8)(allow):(ZV r s allow).length=s.length+1:=by unfold ZV;simp
theorem Zip(r)(s:List UInt8)(allow){i:Nat}(h:i<(ZV r s allow).length):(ZV r s allow)[i]=anyB (overF s true true r (oneF (s.length+1) i)) allow:=by
 simp only[ZV,List.getElem_map,List.getElem_range]
structure FreshB(h h':Heap)(id:Nat)(l:List Bool):Prop where
 get:h'.get id=some (.arr (row Zl l) true)
 new:h.nx<=id
 lt:id<h'.nx
 keep: ∀j,j<h.nx->h'.get j=h.get j
theorem FreshB.set{h a:Heap}{id:Nat}{l}(f:FreshB h a id l)(b):FreshB h (a.set id (some (.arr (row Zl b) true))) id b:=
 ⟨by rw[qc,uF rfl],f.new,by rw[Heap.nx_set];exact f.lt,λj c=>by rw[qc,uE (by have:=f.new;omega)];exact f.keep j c⟩
def Zdu(b:Nat)(pre c a:List Bool)(w:Nat)(x:Heap):Nat->Heap
 |0=>x
 |k+1=>(Zdu b pre c a w x k).set b (some (.arr (row Zl (pre++(anyB (c.take (k+1)) (a.take (k+1))::Zy w))) true))
def Zt0(N i:Nat)(x:Heap):Heap:=XP ((x.push (.arr (row Zl (Zy N)) true)).set x.nx (some (.arr (row Zl (oneF N i)) true))) [x.nx]
def JA(f:List Bool->List Bool)(R allow:List Bool)(N a:Nat)(b:Heap):Nat->Heap
 |0=>b
 |i+1=>Zdu a (R.take i) (f (oneF N i)) allow (N-1-i) (Zt0 N i (JA f R allow N a b i)) N
theorem WW{h x}{a w:Nat}{pre to allow:List Bool}(b:FreshB h x a (pre++(false::Zy w))): ∀k,FreshB h (Zdu a pre to allow w x k) a (pre++(anyB (to.take k) (allow.take k)::Zy w))
 |0=>by rw[uQ];exact b
 |k+1=>(WW b k).set _
theorem Zph{h x}{a N i:Nat}{l}(b:FreshB h x a l):FreshB h (Zt0 N i x) a l:=by have c:=b.new;have e:=b.lt;unfold Zt0;refine⟨?_,c,by rw[Qs,Heap.nx_set];simp;omega,λj d=> ?_⟩;rw[Xv,uE (by simp;omega),qc,uE om,qk,uE om];exact b.get;rw[Xv,uE (by simp;omega),qc,uE om,qk,uE om];exact b.keep j d
theorem Zcr{h:Heap}{f:List Bool->List Bool}{R allow:List Bool}{N:Nat}(m:R.length=N)(n:allow.length=N)(c: ∀l,l.length=N->(f l).length=N)(d: ∀(i:Nat) (h:i<R.length),R[i]=anyB (f (oneF N i)) allow):
  ∀i,i<=N->FreshB h (JA f R allow N h.nx (h.push (.arr (row Zl (Zy N)) true)) i) h.nx (R.take i++Zy (N-i))
 |0,_=>⟨by rw[JA,qk,uF rfl];rfl,qnq _,by rw[JA];simp,λj s=>by rw[JA,qk,uE om]⟩
 |i+1,r=>by
  have q:=Zcr (h:=h) m n c d i om;have e:=Zph (N:=N) (i:=i) q;obtain⟨w,p⟩: ∃w,N-i=w+1:=⟨N-i-1,om⟩;rw[p]at e;have b:=WW (to:=f (oneF N i)) (allow:=allow) (w:=w) e N;have o:=c (oneF N i) (by simp[oneF]);have g:(f (oneF N i)).take N=f (oneF N i):=qt om;have k:allow.take N=allow:=qt om;have a:i<R.length:=om;rw[g,k,<-d i a]at b;rw[JA,show N-1-i=w from om,qa a,uU,show N-(i+1)=w from om];exact b
structure WG(r:Re):Prop where
 wf:wfRe 1000 r
 nn:nnRe r
 gk:gkRe r
theorem OvOk.wg{r}(h:OvOk r):WG r:=⟨h.fine.wf,h.fine.nn,h.gk⟩
abbrev rh(r:Re)(s:List UInt8)(a:List Bool)(h:Heap):Heap:=JA (overF s true true r) (ZV r s a) a (s.length+1) h.nx (h.push (.arr (row Zl (Zy (s.length+1))) true)) (s.length+1)
theorem ZEc{r}(hr:WG r){s:List UInt8}(hs:s.length<2 ^ 19){a:List Bool}(ha:a.length=s.length+1){idw:Nat}{h:Heap}(hi:idw<h.nx)(Z:Zb h idw 0 1=some [.s s]):
  FreshB h (JA (overF s true true r) (ZV r s a) a (s.length+1) h.nx (h.push (.arr (row Zl (Zy (s.length+1))) true)) (s.length+1)) h.nx (ZV r s a)/\
  Con vY_ 91 [p_P idw, .agg (Zd r),lst Zl a] h λv t=>v= .sl (some (h.nx,0)) (s.length+1) (some (s.length+1)) 1/\t=JA (overF s true true r) (ZV r s a) a (s.length+1) h.nx (h.push (.arr (row Zl (Zy (s.length+1))) true)) (s.length+1):=by
 have z:=λfr (hl:fr.length=s.length+1)=>Zki (bg:=true) (en:=true) hs (B:=1000) dc r hr.wf hr.nn hr.gk fr hl;have y:=Jx s true true r;have K:=XN r s a;have x:=fun(i:Nat) (h:i<(ZV r s a).length)=>Zip r s a h;revert z y K x;generalize ZV r s a=R;generalize overF s true true r=f;intro z y K x;have a3:=Zcr (h:=h) (f:=f) (R:=R) (allow:=a) (N:=s.length+1) K ha y x;refine⟨by have:=a3 (s.length+1) (qnq _);rwa [vM,qt om,show Zy 0= [] from rfl,qi]at this,?_⟩;obtain⟨k,b0,E,lo,a5,n⟩:=r;simp only[Zn]at z;rw[Zn];refine Zx vK_ (fn:=Tryz.f91) ?_;refine Zh vK_ 74 ZO0 rfl ?_;have hw:wW ((s.length:Int)+1)=((s.length+1:Nat):Int):=Ze om;have b5:most=1099511627776:=dc;have l: ∀t:Heap,t.get idw=h.get idw->Zb t idw 0 1=some [.s s]:=λt e=>by
  unfold Zb at Z ⊢;rw[e];exact Z
 have gp: ∀h:Heap,(h.push (.arr (row Zl (Zy (s.length+1))) true)).get h.nx=some (.arr (row Zl (Zy (s.length+1))) true):=λh=>by rw[qk,uF rfl]
 have fB: ∀h:Heap,FreshB h (h.push (.arr (row Zl (Zy (s.length+1))) true)) h.nx (Zy (s.length+1)):=λh=>⟨gp h,qnq _,sm,λj hj=>by rw[qk,uE om]⟩;refine⟨s,Z,?_⟩;rw[hw,qdq,XZ];refine⟨⟨om,om,om,om⟩,rfl,?_⟩;refine ZM [0,2,4,6,7,8] [0,2,4,6,7,8] (λm vs t=> ∃i g:Nat,vs= [p_P idw,lst Zl a, .lb (R110 k b0 E lo a5 n), .sl none 0 (some 0) 0, .sl (some (g,0)) (s.length+1) (some (s.length+1)) 1,I (i:Nat)]/\i<=s.length+1/\m=s.length+1-i/\g=h.nx/\
  t=JA f R a (s.length+1) h.nx (h.push (.arr (row Zl (Zy (s.length+1))) true)) i) (s.length+1) ZA ⟨0,h.nx,rfl,om,rfl,rfl,rfl⟩ ?_
 rintro m vs o ⟨i,g,rfl,b3,rfl,p,hH⟩;have F:=a3 i b3;rw[<-hH,<-p]at F;have a6:=l o (F.keep idw hi);refine Zh vK_ 74 ZO1 rfl ?_;refine⟨s,a6,Zf (λa8=>⟨rfl,QX (n:=74) [0,2,4,6,7,8] kr ?_⟩) (λa4=> ?_)⟩
 .have a8:i<=s.length:=by
   have:(i:Int)<=(s.length:Int):=by simpa[leI]using a8
   omega
  refine Zh vK_ 74 ZO2 rfl ?_;refine⟨s,a6,?_⟩;rw[hw,qdq,XZ];have b7:=ZL (off:=0+((i:Nat):Int).toNat*1) (new:= [V.b true]) (gp o) (by rw[XE];simp;omega);refine⟨⟨om,om,om,om⟩,⟨om,om⟩,rfl,_,b7,?_⟩;obtain⟨u,e2⟩: ∃u,u=(o.push (.arr (row Zl (Zy (s.length+1))) true)).set o.nx (some (.arr (splice (row Zl (Zy (s.length+1))) (0+((i:Nat):Int).toNat*1) [.b true]) true)):=⟨_,rfl⟩;rw[<-e2];have a0:XP u [o.nx]=Zt0 (s.length+1) i o:=by
   rw[e2,show 0+((i:Nat):Int).toNat*1=i from sm,Jz _ _ _ (by simp;omega)];rfl
  have g2:u.get o.nx=some (.arr (row Zl (oneF (s.length+1) i)) true):=by
   rw[e2,qc,uF rfl,show 0+((i:Nat):Int).toNat*1=i from sm,Jz _ _ _ (by simp;omega)];rfl
  have k2: ∀j,j<o.nx->u.get j=o.get j:=λj hj=>by rw[e2,qc,uE om,qk,uE om]
  have n2:u.nx=o.nx+1:=by rw[e2,Heap.nx_set];simp
  have b6:=F.new;have a9:=F.lt;have X:(oneF (s.length+1) i).length=s.length+1:=by simp[oneF]
  have a2:=(Con.ofP [o.nx] (h:=u) (.cons _ _ _ _ (.same _) (.cons _ _ _ _ (.same _) (.cons _ _ _ _ (.frz _ _ (frzB (c:=some (s.length+1)) _ g2 X.symm sm)) (.cons _ _ _ _ (.same _) (.cons _ _ _ _ (.same _) .nil))))) (z _ X));refine⟨s,l u (by rw[k2 idw om,F.keep idw hi]),_,_,_,_,a2,rfl,?_⟩;have b2:=y _ X;have a1:FreshB h (XP u [o.nx]) g (R.take i++Zy (s.length+1-i)):=by
   refine⟨by rw[Xv,uE (by simp;omega),k2 _ a9];exact F.get,b6,by rw[Qs];omega,λj hj=> ?_⟩;rw[Xv,uE (by simp;omega),k2 j om];exact F.keep j hj
  obtain⟨q,Y⟩: ∃q,q=f (oneF (s.length+1) i):=⟨_,rfl⟩;rw[<-Y]at b2 ⊢;have b1:i<R.length:=om;have c0:R[i]=anyB q a:=by rw[Y];exact x i b1
  obtain⟨w,b8⟩: ∃w,s.length+1-i=w+1:=⟨s.length-i,om⟩;refine Zfo [0,2,4,6,7,8,10,11] [0,2,4,6,7,8,10,11] (λm vs t=> ∃d:Nat,vs= [p_P idw,lst Zl a, .lb (R110 k b0 E lo a5 n), .sl none 0 (some 0) 0, .sl (some (g,0)) (s.length+1) (some (s.length+1)) 1,I (i:Nat),lst Zl q,I (d:Nat)]/\d<=s.length+1/\m=s.length+1-d/\
   t=Zdu g (R.take i) q a w (Zt0 (s.length+1) i o) d) (s.length+1) ZA ⟨0,rfl,om,rfl,a0⟩ ?_
  rintro m3 c2 h3 ⟨d,rfl,c1,rfl,H⟩;have G:FreshB h h3 g (R.take i++(anyB (q.take d) (a.take d)::Zy w)):=by
   rw[H];refine WW ?_ d;rw[a0,b8]at a1;exact a1
  have a7:=l h3 (G.keep idw hi);have L:(R.take i).length=i:=by rw[uO];omega
  have b4:(R.take i++(anyB (q.take d) (a.take d)::Zy w)).length=s.length+1:=by rw[qf,L];simp;omega
  refine Zm vK_ ZO3 rfl ?_;refine⟨s,a7,Zf (λD=> ?_) (λC=> ?_)⟩
  .have D:d<=s.length:=by
    have:(d:Int)<=(s.length:Int):=by simpa[leI]using D
    omega
   have W:d<q.length:=om;have P:d<a.length:=om;have O:Zb h3 g (0+((i:Nat):Int).toNat*1) 1=some [.b (anyB (q.take d) (a.take d))]:=by
    rw[Zr G.get,show 0+((i:Nat):Int).toNat*1=i from sm,Zco _ om,List.getElem_append_right om];simp[L]
   have nx: ∀v:Bool,v=(anyB (q.take d) (a.take d)||(q[d]&&a[d]))-> ∃A,Zi h3 g (0+((i:Nat):Int).toNat*1) [.b v]=some A/\A=Zdu g (R.take i) q a w (Zt0 (s.length+1) i o) (d+1):=λv hv=>by
    have e:anyB (q.take (d+1)) (a.take (d+1))=v:=by
     rw[qa W,qa P,Znd _ _ (by rw[uO,uO];omega),hv]
    refine⟨_,ZL G.get (by rw[XE,b4];simp;omega),?_⟩;rw[show 0+((i:Nat):Int).toNat*1=i from sm,Jz _ _ _ om,Zdu,<-H,e,List.set_append_right _ _ om,L,vM,List.set_cons_zero]
   have b9:wW ((d:Int)+1)=((d+1:Nat):Int):=Ze om;rw[b9];have bi:(0:Int)<=((i:Nat):Int)/\((i:Nat):Int)<((s.length+1:Nat):Int):=⟨om,om⟩;refine⟨bi,rfl,_,O,Zf (λhb=> ?_) (λhb=>⟨Zu W,_,Jy q W,Zf (λht=>⟨Zu P,_,Jy a P,bi,rfl,?_⟩) (λht=>⟨bi,rfl,?_⟩)⟩)⟩;obtain⟨A,p1,p2⟩:=nx true (by rw[hb];rfl);exact⟨bi,rfl,A,p1,rfl,s.length+1-(d+1),om,d+1,rfl,om,rfl,p2⟩;obtain⟨A,p1,p2⟩:=nx a[d] (by rw[hb,ht];simp);exact⟨A,p1,rfl,s.length+1-(d+1),om,d+1,rfl,om,rfl,p2⟩;obtain⟨A,p1,p2⟩:=nx false (by rw[hb,ht];simp);exact⟨A,p1,rfl,s.length+1-(d+1),om,d+1,rfl,om,rfl,p2⟩
  .have C: ¬((d:Int)<=(s.length:Int)):=by simpa[leI]using C
   have he:d=s.length+1:=om;subst he;refine ZR rfl ⟨rfl,[0,2,4,6,7,8],rfl,?_⟩;refine Zm vK_ ZO4 rfl ?_;refine⟨rfl,s.length+1-(i+1),om,i+1,g,by rw[Ze om];rfl,om,rfl,p,?_⟩;rw[H,JA,<-hH,Y,<-p,show s.length+1-1-i=w from om]
 .have a4: ¬((i:Int)<=(s.length:Int)):=by simpa[leI]using a4
  have he:i=s.length+1:=om;subst he;refine ZR rfl (Zj [7] ?_);refine Zo vK_ ZO5 rfl ?_;exact finC rr rfl (.now ⟨by rw[p];rfl,hH⟩)
end Go.Y
namespace Go.Y
set_option maxRecDepth 1000000
set_option maxHeartbeats 0
abbrev At(l:List Bool)(k:Nat):Prop:=l.getD k false=true
theorem At.lt{l:List Bool}{k:Nat}(h:At l k):k<l.length:=by rcases Nat.lt_or_ge k l.length with a|a;exact a;unfold At at h;rw[qw,qq a]at h;cases h
theorem Zpi{x y:List Bool}(a:y.length<=x.length)(k:Nat):At (XO x y) k↔At x k\/At y k:=by unfold At;rw[Zm7];simp only[uS,qrq,vL];constructor;rintro(h|h);exact .inl h;exact .inr h.2;rintro(h|h);exact .inl h;exact .inr ⟨qv (At.lt h) a,h⟩
theorem Zkj: ∀ {x y:List Bool},x.length=y.length->Xo x y=false-> ∀k,At y k->At x k
 | [],[],_,_,k,h=>h
 |a::x,b::y,d,c,0,h=>by
  rw[Xo]at c;simp only[uk]at c;have e:b=true:=by simpa[At]using h
  rw[e]at c;show a=true;simpa using c.1
 |a::x,b::y,d,c,k+1,h=>by
  rw[Xo]at c;simp only[uk]at c;exact Zkj (x:=x) (y:=y) (su d) c.2 k h
theorem Wy(n k:Nat): ¬At (Zy n) k:=by intro h;have:=At.lt h;unfold At at h;rw[qw,qo this]at h;simp[Zy]at h
theorem ZO6{l:List Bool}{i k:Nat}(a:i<l.length):At (l.set i true) k↔At l k\/k=i:=by
 unfold At;rw[qw,qw,vK];by_cases e:i=k;subst e;simp[a];rw[uE e];constructor;exact .inl;rintro(h|h);exact h;exact absurd h.symm e
/-! ### Powers -/
def powD(P:Nat->Nat->Prop):Nat->Nat->Nat->Prop
 |0,i,j=>i=j
 |m+1,i,j=> ∃x,P i x/\powD P m x j
theorem Zcs(P:Nat->Nat->Prop): ∀(m i j:Nat),powD P (m+1) i j↔ ∃x,powD P m i x/\P x j
 |0,i,j=>by
  constructor;rintro⟨x,h,rfl⟩;exact⟨i,rfl,h⟩;rintro⟨x,rfl,h⟩;exact⟨j,h,rfl⟩
 |m+1,i,j=>by
  constructor;rintro⟨x,h,c⟩;obtain⟨y,a,b⟩:=(Zcs P m x j).1 c;exact⟨y,⟨x,h,a⟩,b⟩;rintro⟨y,⟨x,h,a⟩,b⟩;exact⟨x,h,(Zcs P m x j).2 ⟨y,a,b⟩⟩
def LinF(f:List Bool->List Bool)(P:Nat->Nat->Prop)(n:Nat):Prop:= ∀l,l.length=n->(f l).length=n/\ ∀k,At (f l) k↔ ∃i,At l i/\P i k
theorem Zpj{f:List Bool->List Bool}{P:Nat->Nat->Prop}{n:Nat}(c:LinF f P n){l:List Bool}(d:l.length=n)(b:l=f l): ∀(m k:Nat),(∃i,At l i/\powD P m i k)↔At l k
 |0,k=>by
  constructor;rintro⟨i,h,rfl⟩;exact h;exact λh=>⟨k,h,rfl⟩
 |m+1,k=>by
  constructor
  .rintro⟨i,h,x,a,e⟩;have:At l x:=by rw[b];exact((c l d).2 x).2 ⟨i,h,a⟩
   exact(Zpj c d b m k).1 ⟨x,this,e⟩
  .intro h;obtain⟨x,a,e⟩:=(Zpj c d b m k).2 h;rw[b]at a;obtain⟨i,g,j⟩:=((c l d).2 x).1 a;exact⟨i,g,x,j,e⟩
theorem Zr1{f:List Bool->List Bool}{P:Nat->Nat->Prop}{n:Nat}(a:LinF f P n): ∀(m:Nat) {l:List Bool},l.length=n-> ∀k,At (rep1 f m l) k↔ ∃i,At l i/\powD P m i k
 |0,l,b,k=>by
  rw[rep1];constructor;exact λh=>⟨k,h,rfl⟩;rintro⟨i,h,rfl⟩;exact h
 |m+1,l,b,k=>by
  rw[rep1];split;rename_i c;have c:=eq_of_beq c;rw[<-c];exact(Zpj a b c (m+1) k).symm;rw[Zr1 a m (a l b).1 k];constructor;rintro⟨x,h,d⟩;obtain⟨i,e,g⟩:=((a l b).2 x).1 h;exact⟨i,e,x,g,d⟩;rintro⟨i,e,x,g,d⟩;exact⟨x,((a l b).2 x).2 ⟨i,e,g⟩,d⟩
theorem ZCi{f:List Bool->List Bool}{P:Nat->Nat->Prop}{n:Nat}(L:LinF f P n){W:Nat->Nat->Prop}(z: ∀t k,W (t+1) k↔ ∃x,W t x/\P x k){lo hi:Int} :
  ∀(u t:Nat) (c d:List Bool) (g:Bool),c.length=n->d.length=n->(∀k,At c k↔W t k)->(∀k,At d k↔ ∃j,j<=t/\W j k)->(g=false-> ∀k,W t k-> ∃j,j<t/\W j k)->(hi<0\/lo+(t:Int)<=hi)->
   Zed d+(if g=true then 1 else 0)<=u-> ∀k,At (rep2 f hi u (lo+(t:Int)) c d g) k↔ ∃j:Nat,(hi<0\/lo+(j:Int)<=hi)/\W j k:=by
 have stop: ∀(t:Nat) (d:List Bool) (g:Bool),(∀k,At d k↔ ∃j,j<=t/\W j k)->(g=false-> ∀k,W t k-> ∃j,j<t/\W j k)->(hi<0\/lo+(t:Int)<=hi)-> ¬((hi<0\/lo+(t:Int)<hi)/\g=true)->
   ∀k,At d k↔ ∃j:Nat,(hi<0\/lo+(j:Int)<=hi)/\W j k:=by
  intro t d g p q v r k;rw[p];constructor
  .rintro⟨j,F,m⟩;exact⟨j,by rcases v with h|h<;>omega,m⟩
  .rintro⟨j,F,m⟩;by_cases o:g=true;have: ¬(hi<0\/lo+(t:Int)<hi):=λh=>r ⟨h,o⟩;exact⟨j,om,m⟩
   .have q:=q (su o);have B: ∀(j:Nat) (k:Nat),W j k-> ∃s,s<=t/\W s k:=by
     intro j
     induction j with
     |zero=>exact λk m=>⟨0,om,m⟩
     |succ j H=>
      intro k m;obtain⟨x,hx,N⟩:=(z j k).1 m;obtain⟨s,X,y⟩:=H x hx;rcases Nat.lt_or_ge s t with h|h;exact⟨s+1,om,(z s k).2 ⟨x,y,N⟩⟩;have e:s=t:=om;subst e;obtain⟨O,Y,G⟩:=q x y;exact⟨O+1,om,(z O k).2 ⟨x,G,N⟩⟩
    exact B j k m
 intro u
 induction u with
 |zero=>
  intro t c d g C K D p q v E k;rw[rep2];refine stop t d g p q v (λh=> ?_) k;rw[uF h.2]at E;omega
 |succ u H=>
  intro t c d g C K D p q v E k;rw[rep2];split
  .rename_i A;obtain⟨A,o⟩:=A;have Z:=(L c C).1;have F:=Wx d (f c);have l: ∀k,At (f c) k↔W (t+1) k:=λk=>by
    rw[(L c C).2 k,z];constructor;rintro⟨i,a,b⟩;exact⟨i,(D i).1 a,b⟩;rintro⟨i,a,b⟩;exact⟨i,(D i).2 a,b⟩
   have e:lo+(t:Int)+1=lo+((t+1:Nat):Int):=om;rw[e];rw[uF o]at E;refine H (t+1) (f c) (XO d (f c)) (Xo d (f c)) Z (by rw[XY];exact K) l (λk=> ?_) (λr k m=> ?_) om ?_ k;rw[Zpi om,p,l];constructor;rintro(⟨j,a,b⟩|h);exact⟨j,om,b⟩;exact⟨t+1,om,h⟩;rintro⟨j,a,b⟩;rcases Nat.lt_or_ge j (t+1)with h|h;exact .inl ⟨j,om,b⟩;have:j=t+1:=om;subst this;exact .inr b;have:=Zkj om r k ((l k).2 m);obtain⟨j,a,b⟩:=(p k).1 this;exact⟨j,om,b⟩;cases w:Xo d (f c);simp;omega;have:=F.2 w;simp;omega
  .rename_i A;exact stop t d g p q v A k
theorem Zpk{f:List Bool->List Bool}{P:Nat->Nat->Prop}{n:Nat}(s:LinF f P n){g o:Int}(C:0<=g)(z:o<0\/g<=o){l:List Bool}(y:l.length=n)(k:Nat):
  At (VB f n g o l) k↔ ∃i,At l i/\ ∃m:Nat,g<=(m:Int)/\(o<0\/(m:Int)<=o)/\powD P m i k:=by
 have p:=λt (h:t.length=n)=>(s t h).1;have v:(rep1 f g.toNat l).length=n:=Zkd p _ _ y;have r:=Zr1 s g.toNat y;have A:=Zkg (Zy n);have D:=Wx (Zy n) (rep1 f g.toNat l);have u:(Zy n).length=n:=sm;have q:=ZCi s (W:=λt k=> ∃i,At l i/\powD P (g.toNat+t) i k) (λt k=>by
  constructor;rintro⟨i,a,b⟩;obtain⟨x,c,d⟩:=(Zcs P (g.toNat+t) i k).1 b;exact⟨x,⟨i,a,c⟩,d⟩
  .rintro⟨x,⟨i,a,c⟩,d⟩;exact⟨i,a,(Zcs P (g.toNat+t) i k).2 ⟨x,c,d⟩⟩) (lo:=g) (hi:=o) (n+2) 0 (rep1 f g.toNat l) (XO (Zy n) (rep1 f g.toNat l)) (Xo (Zy n) (rep1 f g.toNat l)) v (by rw[XY,u]) r
  (λk=>by
   rw[Zpi om];constructor;rintro(h|h);exact absurd h (Wy n k);exact⟨0,qnq _,(r k).1 h⟩
   .rintro⟨j,a,b⟩;have:j=0:=om;subst this;exact .inr ((r k).2 b))
  (λw k B=>absurd (Zkj om w k ((r k).2 B)) (Wy n k)) (su z) (by
   cases Xo (Zy n) (rep1 f g.toNat l)<;>simp<;>omega) k
 unfold VB;rw[show g+((0:Nat):Int)=g from om]at q;rw[q];constructor;rintro⟨j,a,i,b,c⟩;exact⟨i,b,g.toNat+j,om,om,c⟩;rintro⟨i,b,m,c,d,e⟩;exact⟨m-g.toNat,om,i,b,by rw[show g.toNat+(m-g.toNat)=m from om];exact e⟩
def StD(s:List UInt8)(bg en:Bool):Re->Nat->Nat->Prop
 | .mk k e d g f _=>λi j=>
  if k=0 then i=j else if k=1 then∃c,s[i]? =some c/\hasN e c.toNat=true/\j=i+1 else if k=2 then i=0/\j=0/\bg=true else if k=3 then i=s.length/\j=s.length/\en=true
  else if k=4 then catD d i j else if k=5 then altD d i j else if k=6 then∃m:Nat,g<=(m:Int)/\(f<0\/(m:Int)<=f)/\powD (λa b=>headD d a b) m i j else if k=7 then headD d i j else False
where
 catD:List Re->Nat->Nat->Prop
  | [],i,j=>i=j
  |r::l,i,j=> ∃x,StD s bg en r i x/\catD l x j
 altD:List Re->Nat->Nat->Prop
  | [],_,_=>False
  |r::l,i,j=>StD s bg en r i j\/altD l i j
 headD:List Re->Nat->Nat->Prop
  | [],i,j=>i=j
  |r::_,i,j=>StD s bg en r i j
theorem Zyx(a): ∀ {s:List UInt8} {fr:List Bool},s.length<=fr.length-> ∀i,At (Jw a s fr) i↔At fr i/\ ∃c,s[i]? =some c/\hasN a c.toNat=true
 | [],fr,_,i=>by
  have e:Jw a [] fr= []:=by rw[Jw]
  rw[e];constructor;intro h;have:=At.lt h;simp at this;rintro⟨_,c,h,_⟩;simp at h
 |c::s,[],h,i=>by simp at h
 |c::s,f::fr,h,0=>by
  show(f&&hasN a c.toNat)=true↔f=true/\ ∃d,some c=some d/\_;simp
 |c::s,f::fr,h,i+1=>by
  have:=Zyx a (s:=s) (fr:=fr) (su h) i;simpa[At,Jw]using this
theorem ZIg(n k:Nat)(x:Bool):At (Zy n++ [x]) k↔k=n/\x=true:=by
 unfold At;rw[qw];rcases Nat.lt_trichotomy k n with h|h|h;rw[vC (su h),qo (su h)];simp[Zy];omega;subst h;rw[vB sm];simp[Zy];rw[qq (by simp;omega)];simp;omega
mutual
theorem VD{s:List UInt8}{bg en:Bool}{B:Nat} : ∀r:Re,wfRe B r->gkRe r->LinF (overF s bg en r) (StD s bg en r) (s.length+1)
 | .mk k g f K H n,h,m=>by
  rw[wfRe]at h;rw[gkRe]at m;intro l o;refine⟨Jx s bg en _ l o,λj=> ?_⟩;rw[overF,StD];by_cases v:k=0;simp only[uF v];constructor;exact λh=>⟨j,h,rfl⟩;rintro⟨i,h,rfl⟩;exact h;simp only[uE v];by_cases w:k=1
  .simp only[uF w]
   cases j with
   |zero=>
    constructor;intro h;exact absurd h (by simp[At]);rintro⟨i,_,c,_,_,h⟩;omega
   |succ j=>
    have:At (false::Jw g s l) (j+1)↔At (Jw g s l) j:=by simp[At]
    rw[this,Zyx g om];constructor;rintro⟨a,c,b,d⟩;exact⟨j,a,c,b,d,rfl⟩;rintro⟨i,a,c,b,d,e⟩;have:i=j:=om;subst this;exact⟨a,c,b,d⟩
  simp only[uE w];by_cases y:k=2
  .simp only[uF y]
   cases j with
   |zero=>
    have:At ((l.getD 0 false&&bg)::Zy s.length) 0↔At l 0/\bg=true:=by simp[At]
    rw[this];constructor;rintro⟨a,b⟩;exact⟨0,a,rfl,rfl,b⟩;rintro⟨i,a,rfl,_,b⟩;exact⟨a,b⟩
   |succ j=>
    have:At ((l.getD 0 false&&bg)::Zy s.length) (j+1)↔At (Zy s.length) j:=by simp[At]
    rw[this];constructor;exact λh=>absurd h (Wy _ _);rintro⟨i,_,_,h,_⟩;omega
  simp only[uE y];by_cases z:k=3;simp only[uF z];rw[ZIg];simp only[qrq];constructor;rintro⟨rfl,a,b⟩;exact⟨_,a,rfl,rfl,b⟩;rintro⟨i,a,rfl,rfl,b⟩;exact⟨rfl,a,b⟩;simp only[uE z];by_cases A:k=4;simp only[uF A];exact Zr2 f h.2.2.2 m.2 l o j;simp only[uE A];by_cases C:k=5;simp only[uF C];rw[Zr3 f h.2.2.2 m.2 l (Zy (s.length+1)) o sm j];constructor;rintro(h|h);exact absurd h (Wy _ _);exact h;exact .inr;simp only[uE C];by_cases p:k=6
  .simp only[uF p];obtain⟨E,L,F,G⟩:=h.1 p;obtain⟨x,rfl⟩:=List.length_eq_one_iff.1 G;have D:LinF (λt=>overF.heads s bg en [x] t) (λa b=>StD.headD s bg en [x] a b) (s.length+1):=Zne [x] h.2.2.2 m.2 rfl;rw[Zpk D E (by rcases F with q|q<;>omega) o j]
  simp only[uE p];by_cases u:k=7;simp only[uF u];exact(Zne f h.2.2.2 m.2 (m.1 u) l o).2 j;simp only[uE u];constructor;exact λh=>absurd h (Wy _ _);rintro⟨i,_,h⟩;exact h.elim
theorem Zr2{s:List UInt8}{f g:Bool}{B:Nat} : ∀l:List Re,wfRe.wfRes B l->gkRe.gkRes l-> ∀t:List Bool,t.length=s.length+1-> ∀j,At (overF.cats s f g l t) j↔ ∃i,At t i/\StD.catD s f g l i j
 | [],_,_,t,n,j=>by
  rw[overF.cats];constructor;exact λh=>⟨j,h,by rw[StD.catD]⟩;rintro⟨i,h,e⟩;rw[StD.catD]at e;exact e▸h
 |r::l,h,m,t,n,j=>by
  rw[wfRe.wfRes]at h;rw[gkRe.gkRes]at m;have k:=VD (s:=s) (bg:=f) (en:=g) r h.1 m.1 t n;rw[overF.cats,Zr2 l h.2 m.2 _ k.1 j];constructor;rintro⟨x,a,b⟩;obtain⟨i,c,d⟩:=(k.2 x).1 a;exact⟨i,c,by rw[StD.catD];exact⟨x,d,b⟩⟩;rintro⟨i,c,e⟩;rw[StD.catD]at e;obtain⟨x,d,b⟩:=e;exact⟨x,(k.2 x).2 ⟨i,c,d⟩,b⟩
theorem Zr3{s:List UInt8}{f g:Bool}{B:Nat} : ∀l:List Re,wfRe.wfRes B l->gkRe.gkRes l-> ∀t d:List Bool,t.length=s.length+1->d.length=s.length+1-> ∀j,At (overF.alts s f g l t d) j↔At d j\/ ∃i,At t i/\StD.altD s f g l i j
 | [],_,_,t,d,m,c,j=>by
  rw[overF.alts];constructor;exact .inl;rintro(h|⟨i,_,e⟩);exact h;rw[StD.altD]at e;exact e.elim
 |r::l,h,k,t,d,m,c,j=>by
  rw[wfRe.wfRes]at h;rw[gkRe.gkRes]at k;have n:=VD (s:=s) (bg:=f) (en:=g) r h.1 k.1 t m;rw[overF.alts,Zr3 l h.2 k.2 t _ m (by rw[XY];exact c) j,Zpi om,n.2 j];constructor;rintro((h|⟨i,a,b⟩)|⟨i,a,b⟩);exact .inl h;exact .inr ⟨i,a,by rw[StD.altD];exact .inl b⟩;exact .inr ⟨i,a,by rw[StD.altD];exact .inr b⟩;rintro(h|⟨i,a,b⟩);exact .inl (.inl h);rw[StD.altD]at b;rcases b with b|b;exact .inl (.inr ⟨i,a,b⟩);exact .inr ⟨i,a,b⟩
theorem Zne{s:List UInt8}{bg en:Bool}{B:Nat} : ∀l:List Re,wfRe.wfRes B l->gkRe.gkRes l->l.length=1->LinF (λt=>overF.heads s bg en l t) (λa b=>StD.headD s bg en l a b) (s.length+1)
 | [],_,_,f=>by simp at f
 |r::l,h,d,_=>by
  rw[wfRe.wfRes]at h;rw[gkRe.gkRes]at d;have e:=VD (s:=s) (bg:=bg) (en:=en) r h.1 d.1;intro t g;have c:=e t g;refine⟨by simp only[overF.heads];exact c.1,λj=> ?_⟩;simp only[overF.heads,StD.headD];exact c.2 j
end
end Go.Y
namespace Go.Y
open Go.Proofs
set_option maxRecDepth 1000000
set_option maxHeartbeats 0
def Tryw.modes:List Nat:=Tryv.modes.set 91 0
noncomputable def wY_:YP:=⟨Go.Proofs.Tryz.prog,Tryz.tys,Tryz.locs,Tryw.modes,[182,5],[(185,1),(197,2)],[26,27,28]⟩
theorem wK_:YOK wY_:=Vk kr Tryz.extok
theorem Con.vw{f}{a}{h}{Q}(c:Con vY_ f a h Q):Con wY_ f a h Q:=⟨c.body,c.tr⟩
theorem Con.wv{f}{a}{h}{Q}(c:Con wY_ f a h Q):Con vY_ f a h Q:=⟨c.body,c.tr⟩
theorem Zr4: ∀ {x y:List Bool},x.length=y.length->(anyB x y=true↔ ∃k,At x k/\At y k)
 | [],_,_=>⟨λh=>(by cases h),λh=>by obtain⟨k,h,_⟩:=h;exact absurd (At.lt h) sm⟩
 |a::x,[],h=>by cases h
 |a::x,b::y,h=>by
  have e:=Zr4 (x:=x) (y:=y) (su h);rw[anyB,uS,e];constructor;rintro(h|⟨k,c,d⟩);simp only[qrq]at h;exact⟨0,h.1,h.2⟩;exact⟨k+1,c,d⟩
  .rintro⟨k,c,d⟩
   cases k with
   |zero=>exact .inl (by simp only[qrq];exact⟨c,d⟩)
   |succ k=>exact .inr ⟨k,c,d⟩
theorem Ziq{n i:Nat}(a:i<n)(k:Nat):At (oneF n i) k↔k=i:=by unfold oneF;rw[ZO6 (su a)];exact⟨λh=>h.resolve_left (Wy _ _), .inr⟩
theorem Zgu{l:List Bool}{i:Nat}(h:i<l.length):At l i↔l[i]=true:=by unfold At;rw[qw,qo h];rfl
theorem Qi{r}(w:WG r){s:List UInt8}{a:List Bool}(h:a.length=s.length+1){i:Nat}(j:i<=s.length):At (ZV r s a) i↔ ∃k,StD s true true r i k/\At a k:=by
 have l:=XN r s a;have f:(oneF (s.length+1) i).length=s.length+1:=by simp[oneF]
 obtain⟨n,e⟩:=VD (s:=s) (bg:=true) (en:=true) r w.wf w.gk _ f;rw[Zgu om,Zip,Zr4 om];constructor;rintro⟨k,b,c⟩;obtain⟨m,d,g⟩:=(e k).1 b;rw[Ziq om]at d;exact⟨k,d▸g,c⟩;rintro⟨k,b,c⟩;exact⟨k,(e k).2 ⟨i,(Ziq om _).2 rfl,b⟩,c⟩
theorem Zyy{P:Nat->Nat->Prop}{N:Nat}(c: ∀a b,a<=N->P a b->a<=b/\b<=N): ∀(m:Nat) {i j:Nat},i<=N->powD P m i j->i<=j/\j<=N
 |0,i,j,d,h=>by
  have h:i=j:=h;exact⟨om,om⟩
 |m+1,i,j,d,⟨x,e,f⟩=>by
  have q:=c i x d e;have g:=Zyy c m q.2 f;exact⟨om,g.2⟩
mutual
theorem Zct{s:List UInt8}{v w:Bool} : ∀(r:Re) {i j:Nat},i<=s.length->StD s v w r i j->i<=j/\j<=s.length
 | .mk k A d D C n,i,j,e,h=>by
  rw[StD]at h;by_cases f:k=0;simp only[uF f]at h;omega;simp only[uE f]at h;by_cases g:k=1;simp only[uF g]at h;obtain⟨c,x,_,B⟩:=h;have:=(qb.1 x).1;omega;simp only[uE g]at h;by_cases l:k=2;simp only[uF l]at h;omega;simp only[uE l]at h;by_cases o:k=3;simp only[uF o]at h;omega;simp only[uE o]at h;by_cases p:k=4;simp only[uF p]at h;exact Zgv d e h;simp only[uE p]at h;by_cases q:k=5;simp only[uF q]at h;exact ZEd d e h;simp only[uE q]at h;by_cases t:k=6;simp only[uF t]at h;obtain⟨m,_,_,h⟩:=h;exact Zyy (λa b y z=>Zyz d y z) m e h;simp only[uE t]at h;by_cases u:k=7;simp only[uF u]at h;exact Zyz d e h;simp only[uE u]at h
theorem Zgv{s:List UInt8}{b c:Bool} : ∀(l:List Re) {i j:Nat},i<=s.length->StD.catD s b c l i j->i<=j/\j<=s.length
 | [],i,j,a,h=>by rw[StD.catD]at h;omega
 |r::l,i,j,a,h=>by
  rw[StD.catD]at h;obtain⟨x,d,e⟩:=h;have q:=Zct r a d;have f:=Zgv l q.2 e;omega
theorem ZEd{s:List UInt8}{b c:Bool} : ∀(l:List Re) {i j:Nat},i<=s.length->StD.altD s b c l i j->i<=j/\j<=s.length
 | [],i,j,a,h=>by rw[StD.altD]at h;exact h.elim
 |r::l,i,j,a,h=>by
  rw[StD.altD]at h;rcases h with h|h;exact Zct r a h;exact ZEd l a h
theorem Zyz{s:List UInt8}{b c:Bool} : ∀(l:List Re) {i j:Nat},i<=s.length->StD.headD s b c l i j->i<=j/\j<=s.length
 | [],i,j,a,h=>by rw[StD.headD]at h;omega
 |r::l,i,j,a,h=>by rw[StD.headD]at h;exact Zct r a h
end
def WayK(s:List UInt8)(idw:Nat)(h:Heap):Prop:=idw<h.nx/\ ∃l:List Int,l.length=20/\h.get idw=some (.arr (.s s::l.map (V.i .i64)) true)
theorem WayK.keep{s}{idw:Nat}{h a:Heap}(w:WayK s idw h)(f:h.nx<=a.nx)(b: ∀j,j<h.nx->a.get j=h.get j):WayK s idw a:=by obtain⟨c,l,d,e⟩:=w;exact⟨om,l,d,by rw[b _ c,e]⟩
theorem WayK.txt{s}{idw:Nat}{h}(w:WayK s idw h):Zb h idw 0 1=some [.s s]:=by obtain⟨b,l,c,a⟩:=w;rw[Zr a];rfl
def hz(r:Re)(s:List UInt8)(a:List Bool)(h:Heap):Heap:=XP (rh r s a h) [h.nx]
theorem FreshB.keeps{h a:Heap}{b:Nat}{l}(f:FreshB h a b l):h.nx<=a.nx:=by have c:=f.new;have d:=f.lt;omega
theorem Zir{r}(e:WG r){s:List UInt8}(f:s.length<2 ^ 19){a:List Bool}(d:a.length=s.length+1){idw:Nat}{h}(b:WayK s idw h):
  FreshB h (rh r s a h) h.nx (ZV r s a)/\WayK s idw (rh r s a h)/\
  Con wY_ 91 [p_P idw, .agg (Zd r),lst Zl a] h λv c=>v= .sl (some (h.nx,0)) (s.length+1) (some (s.length+1)) 1/\c=rh r s a h:=by
 obtain⟨F,C⟩:=ZEc e f d b.1 b.txt;exact⟨F,b.keep F.keeps F.keep,C.vw⟩
theorem Zis{r}(l:WG r){s:List UInt8}(m:s.length<2 ^ 19){a:List Bool}(g:a.length=s.length+1){idw:Nat}{h}(b:WayK s idw h):
  WayK s idw (hz r s a h)/\Con vY_ 91 [p_P idw, .agg (Zd r),lst Zl a] h λv d=>v=lst Zl (ZV r s a)/\d=hz r s a h:=by
 obtain⟨F,C⟩:=ZEc l m g b.1 b.txt;have k:=F.keeps;refine⟨b.keep (by unfold hz;rw[Qs];exact k) λj i=>by unfold hz;rw[Xv,uE (by simp;omega)];exact F.keep j i,Con.freeze (C.mono λv d ⟨e,f⟩=> ?_)⟩;subst e;subst f;exact⟨[h.nx],_, .inl (.frz _ _ (frzB (c:=some (s.length+1)) _ F.get (by rw[XN]) sm)),rfl,rfl⟩
theorem ZIh(a k0 p0 p1 p2 p3 b n0 c d m0 i2 e n3 h K):CP wY_ 129 (pre B_129) (p_P a::.agg (R9 k0 p0 p1 p2 p3 b n0 none c d m0)::I i2::J e n3 none::Rp 60) h [0,2,3,5] K=(K .normal 64 [p_P a,I i2,J e n3 none, .lb (R9 k0 p0 p1 p2 p3 b n0 none c d m0)] h):=kr
theorem ZIi(b k0 p0 p1 p2 p3 c n0 d a m0 i2 e n3 h K):CP wY_ 129 ((lp_ B_129).take 2) (MZ 64 [0,2,3,5] [p_P b,I i2,J e n3 none,.lb (R9 k0 p0 p1 p2 p3 c n0 none d a m0)]) h [0,2,3,5] K=(If (a !=(0:Int)) (K .normal 64 [p_P b,I i2,J e n3 none, .lb (R9 k0 p0 p1 p2 p3 c n0 none d a m0)] h) (K (.exit 0) 64 [p_P b,I i2,J e n3 none, .lb (R9 k0 p0 p1 p2 p3 c n0 none d a m0)] h)):=kr
theorem ZIj(d:Nat)(f j k l m:Int)(c)(i:Nat)(b a g n:Int)(e)(o:Nat)(h)(K:KT):(Zc wY_ (wY_.loc 129) 100 ((flat (ZK ((lp_ B_129).drop 2))).take 5) ⟨mk 64 (([0,2,3,5]:List Nat).zip [p_P d,I n,J e o none,.lb (R9 f j k l m c i none b a g)]),[],h⟩ (VQ [0,2,3,5,9] K))=(If (ltI 0 b) (If (ltI 0 a) (K .normal 64 [p_P d,I n,J e o none, .lb (R9 f j k l m c i none b a g), .lb [I f,U j,U k,U l,U m,J c i none,I (wW (b-(1:Int))),I (wW (a-(1:Int))),I g]] h) (K .normal 64 [p_P d,I n,J e o none, .lb (R9 f j k l m c i none b a g), .lb [I f,U j,U k,U l,U m,J c i none,I (wW (b-(1:Int))),I a,I g]] h)) (If (ltI 0 a) (K .normal 64 [p_P d,I n,J e o none, .lb (R9 f j k l m c i none b a g), .lb [I f,U j,U k,U l,U m,J c i none,I b,I (wW (a-(1:Int))),I g]] h) (K .normal 64 [p_P d,I n,J e o none, .lb (R9 f j k l m c i none b a g), .lb (R9 f j k l m c i none b a g)] h))):=kr
theorem ZIk(e:Nat)(i q r s t:Int)(d)(p:Nat)(f n o u:Int)(g)(w:Nat)(j m:Int)(h)(K:KT):(Zc wY_ (wY_.loc 129) 100 (((flat (ZK ((lp_ B_129).drop 2))).drop 5).take 3) ⟨mk 64 (([0,2,3,5,9]:List Nat).zip [p_P e,I u,J g w none,.lb (R9 i q r s t d p none f n o),.lb (R9 i q r s t d p none j m o)]),[],h⟩ (VQ [0,2,3,5,9,10] K))=(Con wY_ 91 [p_P e,.agg (R9 i q r s t d p none j m o),J g w none] h fun(v:V) (y:Heap)=> ∃a l c k,v=S a l c k/\If (f==(0:Int)) (SlO a False fun(z x:Nat)=>(0<=u/\u<l)/\k=1/\ ∃h,Zi y z (x+u.toNat*1) [.b false]=some h/\K .normal 64 [p_P e,I u,J g w none, .lb (R9 i q r s t d p none f n o), .lb (R9 i q r s t d p none j m o),S a l c k] h) (K .normal 64 [p_P e,I u,J g w none, .lb (R9 i q r s t d p none f n o), .lb (R9 i q r s t d p none j m o),S a l c k] y)):=kr
theorem ZIl(e k0 p0 p1 p2 p3 d k g j m0 i2 f n3 q r m o h K):CP wY_ 129 (((flat (ZK ((lp_ B_129).drop 2))).drop 5).drop 3) (MZ 64 [0,2,3,5,9,10] [p_P e,I i2,J f n3 none,.lb (R9 k0 p0 p1 p2 p3 d k none g j m0),.lb (R9 k0 p0 p1 p2 p3 d k none q r m0),J m o none]) h [0,2,3,5,8] K=(((0:Int)<=(0:Int)/\(0:Int)<(k:Int))/\ ∃a b c i l n s t u w x,Zs 9 d=some (R9 a b c i l n s t u w x)/\Con wY_ 91 [p_P e,.agg (R9 a b c i l n s t u w x),J m o none] h fun(v:V) (p:Heap)=> ∃y z Z C,v=S y z Z C/\SlO y False fun(id B:Nat)=>(0<=i2/\i2<z)/\C=1/\ ∃D,Zb p id (B+i2.toNat*1) 1=some [.b D]/\If D (((0:Int)<=(0:Int)/\(0:Int)<(k:Int))/\ ∃E F G H L N O P W X Y,Zs 9 d=some (R9 E F G H L N O P W X Y)/\Con wY_ 92 [p_P e,.agg (R9 E F G H L N O P W X Y),I i2,J m o none] p fun(v:V) (p:Heap)=> ∃A,v=I A/\If (ltI A 0) (K .ret 64 [p_P e,I i2,J f n3 none, .lb (R9 k0 p0 p1 p2 p3 d k none g j m0),I i2] p) (K .normal 64 [p_P e,I A,J f n3 none, .lb (R9 k0 p0 p1 p2 p3 d k none q r m0),Ud] p)) (K .ret 64 [p_P e,I i2,J f n3 none, .lb (R9 k0 p0 p1 p2 p3 d k none g j m0),I i2] p)):=kr
theorem ZIm(i2 h K):CP wY_ 129 ((post B_129).drop 1) (MZ 64 [2] [I i2]) h [8] K=(K .ret 64 [I i2] h):=kr
end Go.Y
