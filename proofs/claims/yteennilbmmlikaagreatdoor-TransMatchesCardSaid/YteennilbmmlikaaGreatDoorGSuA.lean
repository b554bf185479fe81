/- A part of the proof. -/
import Derived.Test.YteennilbmmlikaaGreatDoorGNLaw
import Derived.Test.YteennilbmmlikaaGreatDoorGTrO
import Derived.Test.YteennilbmmlikaaGreatDoorYAny3
import Derived.Test.YteennilbmmlikaaGreatDoorYLoop
import Derived.Test.YteennilbmmlikaaGreatDoorGTrL
import Derived.Test.YteennilbmmlikaaGreatDoorGDf5
import Derived.Test.YteennilbmmlikaaGreatDoorYFrz
namespace Go.Y
open Go.Proofs Gl
set_option maxRecDepth 100000
set_option maxHeartbeats 4000000
abbrev Zs0:S4:=(18446744073709551615,18446744073709551615,18446744073709551615,18446744073709551615)
abbrev anyA:Re:= .mk 1 Zs0 [] 0 0 0
abbrev ZAz:Re:= .mk 6 (0,0,0,0) [anyA] 0 (-1) 0
abbrev byA:Re:= .mk 1 (0,8589934592,0,0) [] 0 0 0
abbrev byB:Re:= .mk 1 (0,17179869184,0,0) [] 0 0 0
abbrev reX:Re:= .mk 4 (0,0,0,0) [byA,byB] 0 0 0
abbrev reA:Re:= .mk 4 (0,0,0,0) [ZAz,byA,byB,ZAz] 0 0 0
abbrev reB:Re:= .mk 4 (0,0,0,0) [ZAz,byA,anyA,ZAz] 0 0 0
abbrev auA:Au:=⟨[Zs0,(0,8589934592,0,0),(0,17179869184,0,0),Zs0],[0,1],[2,3],[[0,1],[2],[3],[3]],false⟩
abbrev auB:Au:=⟨[Zs0,(0,8589934592,0,0),Zs0,Zs0],[0,1],[2,3],[[0,1],[2],[3],[3]],false⟩
abbrev clA:List Nat:=List.replicate 97 0++(1::2::List.replicate 157 0)
abbrev clB:List Nat:=List.replicate 97 0++(1::List.replicate 158 0)
abbrev daA:Dn:=⟨clA,[[1,2,1],[1,2,1],[1,2,3],[4,5,4],[4,5,4],[4,5,6],[4,5,4]],[false,false,false,true,true,true,true]⟩
abbrev daB:Dn:=⟨clB,[[1,2],[1,2],[3,4],[5,6],[7,8],[5,6],[7,8],[5,6],[7,8]],[false,false,false,true,true,true,true,true,true]⟩
theorem wX:sevS 4 (ZK [97,98])=reX/\mayE reX=true/\textF reX= [97,98]:=by refine⟨?_,?_,?_⟩<;>kernel_rfl
theorem wA:Jz 0 [97,98]=(reA,0):=kr
theorem wB:Jz 1 [97,63]=(reB,0):=kr
theorem pA2:Zah reA=(auA,0):=kr
theorem pB2:Zah reB=(auB,0):=kr
theorem sA:srtS auA.sets 256=(clA,[0,97,98]):=kr
theorem sB:srtS auB.sets 256=(clB,[0,97]):=kr
theorem tA:tabD auA 50=some daA:=by
 unfold tabD;rw[sA]
 kernel_rfl
theorem tB:tabD auB 50=some daB:=by
 unfold tabD;rw[sB]
 kernel_rfl
theorem fAB:Zan daA daB=false:=kr
theorem fBA:Zan daB daA=true:=kr
theorem ZNp:Zsz 0 [97,98] 1 [97,63] 50=(true,0):=by
 unfold Zsz Zos;rw[wA,wB,uF rfl,uF rfl,pA2,pB2];unfold Zor;rw[uF rfl,uF rfl,tA,tB];show((!Zan daA daB),(0:Int))=_;rw[fAB];rfl
theorem ZNq:Zsz 1 [97,63] 0 [97,98] 50=(false,0):=by
 unfold Zsz Zos;rw[wA,wB,uF rfl,uF rfl,pA2,pB2];unfold Zor;rw[uF rfl,uF rfl,tA,tB];show((!Zan daB daA),(0:Int))=_;rw[fBA];rfl
end Go.Y
namespace Go.Y
open Go.Proofs
set_option maxRecDepth 1000000
set_option maxHeartbeats 0
theorem ZR9{h}(K):CP UY 12 (flat (Za Tryz.f12)) (Rp 45) h [0] K=(∃a b c d e f g i j l m n,(PCon UY 16 [.s #[(97:UInt8),(98:UInt8)].toList] fun(v:V)=>v=.tup [.agg (R9 a b c d e f g i j l m),I n])/\ ∃o p,(PCon UY 13 [.agg [I 0,.s #[(97:UInt8),(98:UInt8)].toList],.agg [I 1,.s #[(97:UInt8),(63:UInt8)].toList],I 50] λv=>v=.tup [.b o,I p])/\ ∃q r,(PCon UY 13 [.agg [I 1,.s #[(97:UInt8),(63:UInt8)].toList],.agg [I 0,.s #[(97:UInt8),(98:UInt8)].toList],I 50] λv=>v=.tup [.b q,I r])/\If (n==(0:Int)) (∃s,(PCon UY 37 [.agg (R9 a b c d e f g i j l m)] λv=>v=.s s)/\If (s== #[(97:UInt8),(98:UInt8)].toList) (If o (If (p==(0:Int)) (If (!q) (K .ret 45 [.b (r==(0:Int))] h) (K .ret 45 [.b false] h)) (K .ret 45 [.b false] h)) (K .ret 45 [.b false] h)) (K .ret 45 [.b false] h)) (K .ret 45 [.b false] h)):=kr
end Go.Y
namespace Go.Y
open Go.Proofs Gl
set_option maxRecDepth 100000
set_option maxHeartbeats 4000000
theorem ZG1(c:ZY UY.P 75)(a:ZF UY.P 76):PCon UY 12 [] (· = .b true):=by
 have c0:=ZCp [97,98] dc;have c1:=ZC6 c a 0 [97,98] 1 [97,63] (most:=50) dc dc;have c2:=ZC6 c a 1 [97,63] 0 [97,98] (most:=50) dc dc;have c3:TxR reX:=Zoj (B:=1000) dc reX ?_ ?_ ?_;rw[ZNp]at c1;rw[ZNq]at c2;rw[wX.1]at c0;unfold fitV at c0;rw[uF wX.2.1]at c0;unfold TxR at c3;rw[wX.2.2]at c3;rw[Zm]at c0 c3;refine Zw UK (fn:=Tryz.f12) rfl ZR9 rfl ?_;exact⟨_,_,_,_,_,_,_,_,_,_,_,_,c0,_,_,c1,_,_,c2,ifT rfl ⟨_,c3,ifT rfl (ifT rfl (ifT rfl (ifT rfl (ZB rr rfl (.b _) rfl))))⟩⟩
 .have:=(Vr (s:= [97,98]) dc).re
  rwa [wX.1]at this
 .have:=Zl2 (k:=4) (Vv [97,98])
  rwa [wX.1]at this
 .have d:=Zc6 4 (ZK [97,98]);have e:=(Vr (s:= [97,98]) dc).cnt;rw[wX.1]at d;omega
end Go.Y
namespace Go.Y
set_option maxRecDepth 1000000
set_option maxHeartbeats 0
def XN:List Bool->List Bool->List Bool
 | [],_=> []
 |a::x,[]=>a::x
 |a::x,b::y=>(a||b)::XN x y
def Xn:List Bool->List Bool->Bool
 | [],_=>false
 |_::_,[]=>false
 |a::x,b::y=>(b&& !a)||Xn x y
abbrev Zy(n:Nat):List Bool:=List.replicate n false
def JA(set:Set4):List UInt8->List Bool->List Bool
 | [],_=> []
 |_::_,[]=> []
 |c::s,f::fr=>(f&&hasN set c.toNat)::JA set s fr
def rep1(f:List Bool->List Bool):Nat->List Bool->List Bool
 |0,now=>now
 |n+1,now=>if now==f now then f now else rep1 f n (f now)
def rep2(f:List Bool->List Bool)(c:Int):Nat->Int->List Bool->List Bool->Bool->List Bool
 |0,_,_,a,_=>a
 |k+1,i,now,a,fr=>if(c<0\/i<c)/\fr=true then rep2 f c k (i+1) (f now) (XN a (f now)) (Xn a (f now))else a
def Vy(f:List Bool->List Bool)(n:Nat)(a c:Int)(fr:List Bool):List Bool:=
 rep2 f c (n+2) a (rep1 f a.toNat fr) (XN (Zy n) (rep1 f a.toNat fr)) (Xn (Zy n) (rep1 f a.toNat fr))
def overF(s:List UInt8)(bg en:Bool):Re->List Bool->List Bool
 | .mk k set a e d _,fr=>
  if k=0 then fr else if k=1 then false::JA set s fr else if k=2 then(fr.getD 0 false&&bg)::Zy s.length
  else if k=3 then Zy s.length++ [fr.getD s.length false&&en]else if k=4 then cats a fr else if k=5 then alts a fr (Zy (s.length+1))
  else if k=6 then Vy (λt=>heads a t) (s.length+1) e d fr else if k=7 then heads a fr else Zy (s.length+1)
where
 cats:List Re->List Bool->List Bool
  | [],t=>t
  |r::l,t=>cats l (overF s bg en r t)
 alts:List Re->List Bool->List Bool->List Bool
  | [],_,c=>c
  |r::l,fr,c=>alts l fr (XN c (overF s bg en r fr))
 heads:List Re->List Bool->List Bool
  | [],t=>t
  |r::_,t=>overF s bg en r t
theorem XX: ∀(x y:List Bool),(XN x y).length=x.length
 | [],y=>by rw[XN]
 |a::x,[]=>by rw[XN]
 |a::x,b::y=>by rw[XN,qh,qh,XX x y]
theorem Zmf: ∀(x y:List Bool) (i:Nat),(XN x y).getD i false=(x.getD i false||(decide (i<x.length)&&y.getD i false))
 | [],y,i=>by rw[XN];simp
 |a::x,[],i=>by rw[XN];simp
 |a::x,b::y,0=>by rw[XN];simp
 |a::x,b::y,i+1=>by
  rw[XN,List.getD_cons_succ,List.getD_cons_succ,List.getD_cons_succ,Zmf x y i];simp
theorem Zgd(set): ∀(s:List UInt8) (fr:List Bool),s.length<=fr.length->(JA set s fr).length=s.length
 | [],fr,_=>by rw[JA];rfl
 |c::s,[],h=>by simp at h
 |c::s,f::fr,h=>by rw[JA,qh,qh,Zgd set s fr (by simpa using h)]
theorem Zjt{f:List Bool->List Bool}{n:Nat}(a: ∀t,t.length=n->(f t).length=n): ∀(k:Nat) (t:List Bool),t.length=n->(rep1 f k t).length=n
 |0,t,h=>h
 |k+1,t,h=>by
  rw[rep1];split
  .exact a t h
  .exact Zjt a k _ (a t h)
theorem Zq4{f:List Bool->List Bool}{n:Nat}{c:Int} : ∀(k:Nat) (i:Int) (now a:List Bool) (fr:Bool),a.length=n->(rep2 f c k i now a fr).length=n
 |0,_,_,_,_,h=>h
 |k+1,i,now,a,fr,h=>by
  rw[rep2];split
  .exact Zq4 k _ _ _ _ (by rw[XX];exact h)
  .exact h
theorem Zot(f:List Bool->List Bool)(n:Nat)(a c:Int)(fr):(Vy f n a c fr).length=n:=by
 unfold Vy;exact Zq4 _ _ _ _ _ (by rw[XX];simp)
mutual
theorem JB(s:List UInt8)(c d:Bool): ∀(r:Re) (fr:List Bool),fr.length=s.length+1->(overF s c d r fr).length=s.length+1
 | .mk k set a f e n,fr,h=>by
  rw[overF];split
  .exact h
  split
  .rw[qh,Zgd set s fr om]
  split
  .simp
  split
  .simp
  split
  .exact Zju s c d a fr h
  split
  .exact Zjv s c d a fr _ h sm
  split
  .exact Zot _ _ _ _ _
  split
  .exact Zxm s c d a fr h
  .simp
theorem Zju(s:List UInt8)(a c:Bool): ∀(l:List Re) (fr:List Bool),fr.length=s.length+1->(overF.cats s a c l fr).length=s.length+1
 | [],fr,h=>by rw[overF.cats];exact h
 |r::l,fr,h=>by rw[overF.cats];exact Zju s a c l _ (JB s a c r fr h)
theorem Zjv(s:List UInt8)(c d:Bool): ∀(l:List Re) (fr a:List Bool),fr.length=s.length+1->a.length=s.length+1->(overF.alts s c d l fr a).length=s.length+1
 | [],fr,a,_,h=>by rw[overF.alts];exact h
 |r::l,fr,a,h,g=>by rw[overF.alts];exact Zjv s c d l _ _ h (by rw[XX];exact g)
theorem Zxm(s:List UInt8)(a c:Bool): ∀(l:List Re) (fr:List Bool),fr.length=s.length+1->(overF.heads s a c l fr).length=s.length+1
 | [],fr,h=>by rw[overF.heads];exact h
 |r::l,fr,h=>by rw[overF.heads];exact JB s a c r fr h
end
theorem Zmg(s)(c a:Bool)(r): ∀(l:List Re) (t:List Bool),overF.cats s c a (l++ [r]) t=overF s c a r (overF.cats s c a l t)
 | [],t=>by rw[qy,overF.cats,overF.cats,overF.cats]
 |x::l,t=>by rw[qs,overF.cats,overF.cats,Zmg s c a r l]
theorem Zmh(s)(a c:Bool)(r)(fr): ∀(l:List Re) (t:List Bool),overF.alts s a c (l++ [r]) fr t=XN (overF.alts s a c l fr t) (overF s a c r fr)
 | [],t=>by rw[qy,overF.alts,overF.alts,overF.alts]
 |x::l,t=>by rw[qs,overF.alts,overF.alts,Zmh s a c r fr l]
def Zd0:List Bool->Nat
 | []=>0
 |b::l=>(if b then 0 else 1)+Zd0 l
theorem Zjw: ∀l:List Bool,Zd0 l<=l.length
 | []=>qnq _
 |b::l=>by
  have:=Zjw l;rw[Zd0,qh];split<;>omega
theorem Wu: ∀(x y:List Bool),Zd0 (XN x y)<=Zd0 x/\(Xn x y=true->Zd0 (XN x y)<Zd0 x)
 | [],y=>by rw[XN,Xn];simp
 |a::x,[]=>by rw[XN,Xn];simp
 |a::x,b::y=>by
  obtain⟨d,c⟩:=Wu x y;rw[XN,Zd0,Zd0,Xn];cases a<;>cases b<;>simp at c ⊢
  .exact⟨d,c⟩
  .omega
  .exact⟨d,c⟩
  .exact⟨d,c⟩
theorem Zxn{h}{v:V}{cs}(f:FrzA h v (.lb cs)):v= .lb cs:=by
 cases f with
 |same=>rfl
 |frz _ _ a=>cases a
theorem Zs1{h}{a:V}{cs}(f:FrzA h (.lb cs) a):a= .lb cs:=by
 cases f with
 |same=>rfl
 |frz _ _ c=>cases c
theorem Zs2{h}{a:V}(f:FrzA h .rf a):a= .rf:=by
 cases f with
 |same=>rfl
 |frz _ _ c=>cases c
theorem ZA0{Y}{e e'}{h}{c:Code}{Q}(D)(E:FrzAL (Ve h D) e e')(C:Tri Y c ⟨e',[],XO h D⟩ Q):Tri Y c ⟨e,[],h⟩ Q:=by
 intro W a w W0 own0 w0 hr N;have g1:=(hr.heap.frzD D).1;have X:=(hr.heap.frzD D).2;have z:=Fz.of hr.heap D;have y:=Vf hr.heap D;have f: ∀b,¬W.own b->W.snap b=none->(W.frzD D w).snap b=none:=λb d l=>by
  unfold Vw.frzD;simp only;rw[uE (fun⟨i,_,k,n⟩=>d ⟨i,k,n⟩)];exact l
 have j: ∀b,(W.frzD D w).own b->W.own b:=λb ⟨P,d,l⟩=>⟨P,d.1,l⟩;have g: ∀t b,QJ ⟨e',[],XO h D⟩ a t b->QJ ⟨e,[],h⟩ a t b:=by
  rintro t b ⟨⟨m,d⟩,l⟩;obtain⟨v,k,n⟩:=E.get d;exact⟨⟨m,by rw[Zxn n]at k;exact k⟩,l⟩
 have H:Rel (W.frzD D w) ⟨e',[],XO h D⟩ a w:=by
  refine⟨g1,by rw[hr.size];exact E.length,λt v C=> ?_,λt t' b d l=>hr.box t t' b (g _ _ d) (g _ _ l),λ_ _ _ hm=>by simp at hm,?_⟩
  .obtain⟨F,k,n⟩:=E.get C;obtain⟨u,h5,L⟩:=hr.env t F k;refine⟨u,h5,?_⟩;by_cases x: ∃m,v= .lb m
   .obtain⟨m,rfl⟩:=x;have Z:=Zxn n;subst Z;obtain⟨b,cc,et,hu,A,hv,G,B⟩:=L;exact⟨b,cc,et,hu,A,hv.mono y,f b B G,λK=>B (j b K)⟩
   .by_cases o:v= .rf
    .subst o;trivial
    .have O:VR W F u:=by
      cases F with
      |lb m=>exact absurd ⟨m,Zs1 n⟩ x
      |rf=>exact absurd (Zs2 n) o
      |_=>exact L
     have h8:=n.vr z y O
     cases v with
     |lb m=>exact absurd ⟨m,rfl⟩ x
     |rf=>exact absurd rfl o
     |_=>exact h8
  .exact hr.defers.turn λr d l k=>⟨rfl,f r k l,λK=>k (j r K)⟩
 refine C (W.frzD D w) a w W0 own0 w0 H (N.trans ⟨y,qnq _,λb _ _=>rfl,λb A=> .inl ?_,λb A=> ?_, .refl w⟩)
 .rcases A with d|⟨t,d⟩|d
  .exact .inl (j b d)
  .exact .inr (.inl ⟨t,g _ _ d⟩)
  .exact .inr (.inr d)
 .rcases X.new b A with d|d|d
  .exact .inl d
  .exact .inr (.inl (.inl d))
  .exact .inr (.inr d)
theorem FrzAL.set{h} : ∀ {l c:List V} (t:Nat) {v d:V},FrzAL h l c->FrzA h v d->FrzAL h (l.set t v) (c.set t d)
 |_,_,_,_,_, .nil,_=> .nil
 |_,_,0,_,_, .cons _ _ _ _ _ a,f=> .cons _ _ _ _ f a
 |_,_,t+1,_,_, .cons _ _ _ _ e a,f=> .cons _ _ _ _ e (a.set t f)
theorem FrzAL.mk{h}{n:Nat} : ∀(sl:List Nat) {a vs'},FrzAL h a vs'->FrzAL h (Go.Y.mk n (sl.zip a)) (Go.Y.mk n (sl.zip vs')):=by
 intro sl a vs' f;have d: ∀(sl:List Nat) {a vs':List V} {e e':List V},FrzAL h a vs'->FrzAL h e e'->FrzAL h ((sl.zip a).foldl (λe p=>e.set p.1 p.2) e) ((sl.zip vs').foldl (λe p=>e.set p.1 p.2) e'):=by
  intro sl
  induction sl with
  |nil=>intro a vs' e e' _ c;simpa using c
  |cons s sl g=>
   intro a vs' e e' f c
   cases f with
   |nil=>simpa using c
   |cons v o l m k j=>simp only[List.zip_cons_cons,uR];exact g j (c.set s k)
 exact d sl f (FrzAL.refl _)
theorem Zcf{Y:YP}{n:Nat}(D)(sl:List Nat){vs vs'}{l:List Code}{h}{Q:Out->St->Prop}(d:l.isEmpty=false)(e:FrzAL (Ve h D) vs vs')
  (a:TriL Y l ⟨mk n (sl.zip vs'),[],XO h D⟩ Q):TriL Y l ⟨mk n (sl.zip vs),[],h⟩ Q:=by
 match l,d,a with
 |c::r,_,a=>exact ZA0 D (e.mk sl) a
end Go.Y
namespace Go.Y
open Go.Proofs
set_option maxRecDepth 1000000
set_option maxHeartbeats 0
def Tryv.modes:List Nat:=(((Tryz.modes.set 110 4).set 140 4).set 139 0).set 172 2
noncomputable def Tryv.Y:YP:=⟨Go.Proofs.Tryz.prog,Tryz.tys,Tryz.locs,Tryv.modes,[182,5],[(185,1),(197,2)],[26,27,28]⟩
theorem Tryv.Yok:YOK Tryv.Y:=Vg kr Tryz.extok
theorem PCon.vz{f:FuncId}{a}{Q:V->Prop}(c:PCon Tryv.Y f a Q):PCon UY f a Q:=⟨c.body,c.tr⟩
theorem PCon.zv{f:FuncId}{a}{Q:V->Prop}(c:PCon UY f a Q):PCon Tryv.Y f a Q:=⟨c.body,c.tr⟩
theorem ZG2{a l0 c0 c n1 h}(K):CP Tryv.Y 139 (pre (flat (Za Tryz.f139))) (S (some (a,0)) l0 c0 1::J c n1 none::Rp 39) h [0,1,5,6] K=(K .normal 41 [S (some (a,0)) l0 c0 1,J c n1 none, .b false,I 0] h):=kr
theorem ZG3{c l0 c0 d n1 e a h}(K):CP Tryv.Y 139 (flat (Zx (post (flat (Za Tryz.f139))))) (MZ 41 [0,1,5,6] [S (some (c,0)) l0 c0 1,J d n1 none,.b e,I a]) h [0,1,5,6] K=(If (ltI a l0) (If e ((0<=a/\a<l0)/\1=1/\ ∃f,Zb h c ((0:Nat)+a.toNat*1) 1=some [.b f]/\If f ((0<=a/\a<l0)/\1=1/\ ∃g,Zi h c ((0:Nat)+a.toNat*1) [.b true]=some g/\K .normal 41 [S (some (c,0)) l0 c0 1,J d n1 none, .b true,I (wW (a+(1:Int)))] g) ((0<=a/\a<n1)/\ ∃g,Zr 1 (List.drop (a.toNat*1) d)=some [.b g]/\(0<=a/\a<l0)/\1=1/\ ∃i,Zi h c ((0:Nat)+a.toNat*1) [.b g]=some i/\K .normal 41 [S (some (c,0)) l0 c0 1,J d n1 none, .b true,I (wW (a+(1:Int)))] i)) ((0<=a/\a<n1)/\ ∃f,Zr 1 (List.drop (a.toNat*1) d)=some [.b f]/\If f ((0<=a/\a<l0)/\1=1/\ ∃g,Zb h c ((0:Nat)+a.toNat*1) 1=some [.b g]/\(0<=a/\a<l0)/\1=1/\ ∃i,Zb h c ((0:Nat)+a.toNat*1) 1=some [.b i]/\If i ((0<=a/\a<l0)/\1=1/\ ∃j,Zi h c ((0:Nat)+a.toNat*1) [.b true]=some j/\K .normal 41 [S (some (c,0)) l0 c0 1,J d n1 none, .b !g,I (wW (a+(1:Int)))] j) ((0<=a/\a<n1)/\ ∃j,Zr 1 (List.drop (a.toNat*1) d)=some [.b j]/\(0<=a/\a<l0)/\1=1/\ ∃l,Zi h c ((0:Nat)+a.toNat*1) [.b j]=some l/\K .normal 41 [S (some (c,0)) l0 c0 1,J d n1 none, .b !g,I (wW (a+(1:Int)))] l)) ((0<=a/\a<l0)/\1=1/\ ∃g,Zb h c ((0:Nat)+a.toNat*1) 1=some [.b g]/\If g ((0<=a/\a<l0)/\1=1/\ ∃i,Zi h c ((0:Nat)+a.toNat*1) [.b true]=some i/\K .normal 41 [S (some (c,0)) l0 c0 1,J d n1 none, .b false,I (wW (a+(1:Int)))] i) ((0<=a/\a<n1)/\ ∃i,Zr 1 (List.drop (a.toNat*1) d)=some [.b i]/\(0<=a/\a<l0)/\1=1/\ ∃j,Zi h c ((0:Nat)+a.toNat*1) [.b i]=some j/\K .normal 41 [S (some (c,0)) l0 c0 1,J d n1 none, .b false,I (wW (a+(1:Int)))] j)))) (K (.exit 0) 41 [S (some (c,0)) l0 c0 1,J d n1 none, .b e,I a] h)):=kr
theorem ZG4{a h}(K):CP Tryv.Y 139 ((post (flat (Za Tryz.f139))).drop 1) (MZ 41 [5] [.b a]) h [4] K=(K .ret 41 [.b a] h):=kr
theorem ZG5{a c b n1 h}(K):CP Tryv.Y 172 (pre (flat (Za Tryz.f172))) (J a c none::J b n1 none::Rp 19) h [0,1,5] K=(K .normal 21 [J a c none,J b n1 none,I 0] h):=kr
theorem ZG6{a n0 c n1 x5 h}(K):CP Tryv.Y 172 (flat (Zx (post (flat (Za Tryz.f172))))) (MZ 21 [0,1,5] [J a n0 none,J c n1 none,I x5]) h [0,1,4,5] K=(If (ltI x5 n0) ((0<=x5/\x5<n0)/\ ∃b,Zr 1 (List.drop (x5.toNat*1) a)=some [.b b]/\(0<=x5/\x5<n1)/\ ∃d,Zr 1 (List.drop (x5.toNat*1) c)=some [.b d]/\If (!b==d) (K .ret 21 [J a n0 none,J c n1 none, .b false,I x5] h) (K .normal 21 [J a n0 none,J c n1 none,Ud,I (wW (x5+(1:Int)))] h)) (K (.exit 0) 21 [J a n0 none,J c n1 none,Ud,I x5] h)):=kr
theorem ZG7{h}(K):CP Tryv.Y 172 ((post (flat (Za Tryz.f172))).drop 1) (MZ 21 [] []) h [4] K=(K .ret 21 [.b true] h):=kr
theorem ZNr{k0 p0 p1 p2 p3 a n0 d e m0 s1 i2 b3 b4 h}(K):CP Tryv.Y 61 (flat (Za Tryz.f61)) (.agg (R9 k0 p0 p1 p2 p3 a n0 none d e m0)::.s s1::I i2::.b b3::.b b4::Rp 24) h [10] K=(((0:Int)<=wW ((↑s1.length:Int)+(1:Int))/\wW ((↑s1.length:Int)+(1:Int))<=wW ((↑s1.length:Int)+(1:Int))/\wW ((↑s1.length:Int)+(1:Int))<=(most:Int)/\wW ((↑s1.length:Int)+(1:Int))*(↑(1:Nat):Int)<=(most:Int))/\ ∃c,(PCon Tryv.Y 42 [.agg (R9 k0 p0 p1 p2 p3 a n0 none d e m0)] λv=>v=.b c)/\If (!c) (K .ret 29 [S (some (h.nx,0)) (wW ((↑s1.length:Int)+(1:Int))).toNat (some (wW ((↑s1.length:Int)+(1:Int))).toNat) 1] (h.push (YObj.arr (List.replicate (wW ((↑s1.length:Int)+(1:Int))).toNat [.b false]).flatten true))) (((0:Int)<=i2/\i2<(↑(wW ((↑s1.length:Int)+(1:Int))).toNat:Int))/\1=1/\ ∃f,Zi (h.push (YObj.arr (List.replicate (wW ((↑s1.length:Int)+(1:Int))).toNat [.b false]).flatten true)) h.nx ((0:Nat)+i2.toNat*1) [.b true]=some f/\Con Tryv.Y 110 [.agg (R9 k0 p0 p1 p2 p3 a n0 none d e m0),.s s1,S (some (h.nx,0)) (wW ((↑s1.length:Int)+(1:Int))).toNat (some (wW ((↑s1.length:Int)+(1:Int))).toNat) 1,.b b3,.b b4] f fun(v:V) (k:Heap)=> ∃g i j,v=J g i j/\K .ret 29 [J g i j] k)):=kr
theorem ZNs{k0 p0 p1 p2 p3 a n0 d e m0 s1 b3 b4 h}(K):CP Tryv.Y 23 (flat (Za Tryz.f23)) (.agg (R9 k0 p0 p1 p2 p3 a n0 none d e m0)::.s s1::.b b3::.b b4::Rp 14) h [8] K=(∃c f g,(PCon Tryv.Y 61 [.agg (R9 k0 p0 p1 p2 p3 a n0 none d e m0),.s s1,I 0,.b b3,.b b4] λv=>v=J c f g)/\((0:Int)<=(↑s1.length:Int)/\(↑s1.length:Int)<(f:Int))/\ ∃i,Zr 1 (List.drop ((↑s1.length:Int).toNat*1) c)=some [.b i]/\K .ret 18 [.b i] h):=kr
theorem XD(l:List Bool):(row Zl l).length=l.length:=by
 have:=Xh (f:=Zl) (k:=1) (λ_=>rfl) l;omega
theorem Zcg(l:List Bool){i:Nat}(h:i<l.length):Zr 1 ((row Zl l).drop i)=some [.b l[i]]:=by
 have:=Xp (f:=Zl) (k:=1) (λ_=>rfl) h
 rwa [uY]at this
theorem QX(l:List Bool){i:Nat}(h:i<l.length):Zr 1 (List.drop ((i:Int).toNat*1) (row Zl l))=some [.b l[i]]:=by
 rw[qdq,uY];exact Zcg l h
theorem Zge(b:Bool)(l):row Zl (b::l)=V.b b::row Zl l:=rfl
theorem JC: ∀(l:List Bool) (i:Nat) (x:Bool),i<l.length->splice (row Zl l) i [.b x]=row Zl (l.set i x)
 | [],i,x,h=>by simp at h
 |b::l,0,x,h=>by rw[Zge];rfl
 |b::l,i+1,x,h=>by
  rw[Zge];show V.b b::splice (row Zl l) i [.b x]=_;rw[JC l i x (by simpa using h)];rfl
theorem XY(n:Nat):(List.replicate n [V.b false]).flatten=row Zl (Zy n):=by
 unfold row Zy;rw[List.map_replicate]
theorem Zmi(l):Xb (row Zl l)=true:=Je (f:=Zl) (λ_=>rfl) l
theorem Zh9: ∀ {x y:List Bool} (a b:Bool),x.length=y.length->XN (x++ [a]) (y++ [b])=XN x y++ [a||b]
 | [],[],a,b,_=>rfl
 |c::x,d::y,a,b,h=>by
  show(c||d)::XN (x++ [a]) (y++ [b])=(c||d)::XN x y++ [a||b]
  rw[Zh9 a b (by simpa using h)];rfl
theorem Zgf: ∀ {x y:List Bool} (a b:Bool),x.length=y.length->Xn (x++ [a]) (y++ [b])=(Xn x y||(b&& !a))
 | [],[],a,b,_=>by simp[Xn]
 |c::x,d::y,a,b,h=>by
  show((d&& !c)||Xn (x++ [a]) (y++ [b]))=(((d&& !c)||Xn x y)||(b&& !a))
  rw[Zgf a b (by simpa using h),Bool.or_assoc]
def JnI(a more:List Bool)(d:Nat)(c0:Option Nat)(h:Heap)(m:Nat)(e:List V)(c:Heap):Prop:=
 ∃i:Nat,e= [.sl (some (d,0)) a.length c0 1,lst Zl more, .b (Xn (a.take i) (more.take i)), .i .i64 (i:Nat)]/\i<=a.length/\m=a.length-i/\
  c.get d=some (.arr (row Zl (XN (a.take i) (more.take i)++a.drop i)) true)/\FrO h d c/\c.nx=h.nx
theorem JnI.step{a more:List Bool}{d:Nat}{c0:Option Nat}{h f:Heap}{i:Nat}(y:a.length=more.length)(g:i<a.length)(z:a.length<2 ^ 20)
  (u:f.get d=some (.arr (row Zl (XN (a.take i) (more.take i)++a.drop i)) true)) (n:FrO h d f) (x:f.nx=h.nx) {v fr:Bool} (t:v=(a[i]||more[i]' om)) (m:fr=(Xn (a.take i) (more.take i)||(more[i]' om&& !a[i]))):
  ∃r,Zi f d (0+(i:Int).toNat*1) [.b v]=some r/\JnI a more d c0 h (a.length-(i+1)) [.sl (some (d,0)) a.length c0 1,lst Zl more, .b fr,I (wW ((i:Int)+1))] r:=by
 have k:(a.take i).length=i:=by rw[uO];omega
 have o:(more.take i).length=i:=by rw[uO];omega
 have l:(XN (a.take i) (more.take i)).length=i:=by rw[XX,k]
 have c:(XN (a.take i) (more.take i)++a.drop i).length=a.length:=by rw[qf,l,vD];omega
 refine⟨_,ZM u (by rw[XD,c];simp;omega),i+1,?_,om,rfl,?_,?_,?_⟩
 .rw[Ze om,qa g,qa om,Zgf _ _ (by rw[k,o]),m]
 .rw[qc,uF rfl,show 0+(i:Int).toNat*1=i from sm,JC _ _ _ (by rw[c];exact g)]
  congr 3
  rw[qa g,qa om,Zh9 _ _ (by rw[k,o]),uM g,List.set_append_right _ _ (by rw[l];exact qnq _),l,vK,List.set_cons_zero,t,uU]
  rfl
 .exact⟨by rw[Heap.nx_set];exact n.1,λj w e=>by rw[qc,uE e];exact n.2 j w e⟩
 .rw[Heap.nx_set,x]
theorem ZG8{c more:List Bool}{u:Nat}{c0:Option Nat}{h:Heap}(B:c.length=more.length)(F:c.length<2 ^ 20)(H:h.get u=some (.arr (row Zl c) true)):
  Con Tryv.Y 139 [.sl (some (u,0)) c.length c0 1,lst Zl more] h λv A=>v= .b (Xn c more)/\A.get u=some (.arr (row Zl (XN c more)) true)/\FrO h u A/\A.nx=h.nx:=by
 refine Zv Tryv.Yok (fn:=Tryz.f139) ?_;refine Zh Tryv.Yok 41 ZG2 rfl ?_;refine⟨rfl,ZN [0,1,5,6] [0,1,5,6] (JnI c more u c0 h) c.length ZA ⟨0,rfl,om,rfl,H,⟨qnq _,λ_ _ _=>rfl⟩,rfl⟩ ?_⟩;rintro m O K ⟨i,rfl,N,rfl,t,w,y⟩;refine Zn Tryv.Yok ZG3 rfl ?_;refine Zq (λa=> ?_) (λG=> ?_)
 .have j:i<more.length:=om;have C:(XN (c.take i) (more.take i)).length=i:=by rw[XX,uO];omega
  have x:i<(XN (c.take i) (more.take i)++c.drop i).length:=by rw[qf,C,vD];omega
  have d:Zb K u (0+(i:Int).toNat*1) 1=some [.b c[i]]:=by
   rw[Zs t,show 0+(i:Int).toNat*1=i from sm,Zcg _ x,List.getElem_append_right om];simp[C]
  have z:=QX more j;have f:=fun(v fr:Bool) (L:v=(c[i]||more[i])) (E:fr=(Xn (c.take i) (more.take i)||(more[i]&& !c[i])))=>JnI.step (c0:=c0) B a F t w y L E
  have g:c.length-(i+1)<c.length-i:=om;refine Zf (λe=> ?_) (λe=> ?_)
  .refine⟨Zu a,rfl,_,d,Zf (λl=> ?_) (λl=>⟨Zu j,_,z,Zu a,rfl,?_⟩)⟩
   .obtain⟨r,n,k⟩:=f true true (by rw[l];rfl) (by rw[e];rfl);exact⟨Zu a,rfl,r,n,rfl,_,g,k⟩
   .obtain⟨r,n,k⟩:=f more[i] true (by rw[l];rfl) (by rw[e];rfl);exact⟨r,n,rfl,_,g,k⟩
  .refine⟨Zu j,_,z,Zf (λo=>⟨Zu a,rfl,_,d,Zu a,rfl,_,d,Zf (λl=> ?_) (λl=>⟨Zu j,_,z,Zu a,rfl,?_⟩)⟩) (λo=>⟨Zu a,rfl,_,d,Zf (λl=> ?_) (λl=>⟨Zu j,_,z,Zu a,rfl,?_⟩)⟩)⟩
   .obtain⟨r,n,k⟩:=f true (!c[i]) (by rw[l];rfl) (by rw[e,o];rfl);exact⟨Zu a,rfl,r,n,rfl,_,g,k⟩
   .obtain⟨r,n,k⟩:=f more[i] (!c[i]) (by rw[l];rfl) (by rw[e,o];rfl);exact⟨r,n,rfl,_,g,k⟩
   .obtain⟨r,n,k⟩:=f true false (by rw[l];rfl) (by rw[e,o];rfl);exact⟨Zu a,rfl,r,n,rfl,_,g,k⟩
   .obtain⟨r,n,k⟩:=f more[i] false (by rw[l];rfl) (by rw[e,o];rfl);exact⟨r,n,rfl,_,g,k⟩
 .have D:i=c.length:=om;subst D;rw[qm,B,qm,<-B]at t ⊢;rw[List.drop_length,qi]at t;refine Zj [5] ?_;refine Zo Tryv.Yok ZG4 rfl ?_;exact finC rr rfl (.now ⟨rfl,t,w,y⟩)
theorem ZA1(a b:List Bool)(n:a.length=b.length)(t:a.length<2 ^ 20):PCon Tryv.Y 172 [lst Zl a,lst Zl b] (· = .b (a==b)):=by
 refine ZG Tryv.Yok (fn:=Tryz.f172) rfl ?_;refine Zh Tryv.Yok 21 ZG5 rfl ?_;refine⟨rfl,ZN [0,1,5] [0,1,4,5] (λm k _=> ∃i:Nat,k= [lst Zl a,lst Zl b,I (i:Nat)]/\i<=a.length/\m=a.length-i/\a.take i=b.take i) a.length ZA ⟨0,rfl,om,rfl,rfl⟩ ?_⟩;rintro m k h ⟨i,rfl,r,rfl,f⟩;refine Zn Tryv.Yok ZG6 rfl ?_;refine Zq (λd=> ?_) (λo=> ?_)
 .have c:i<b.length:=om;refine⟨Zu d,_,QX a d,Zu c,_,QX b c,Zf (λj=> ?_) (λg=> ?_)⟩
  .refine ZZ rr rfl ⟨_, .b _,?_⟩;have:(a==b)=false:=by
    rw[Bool.eq_false_iff];intro e;have e:=eq_of_beq e;subst e;simp at j
   rw[this]
  .refine⟨rfl,a.length-(i+1),om,i+1,by rw[Ze om];rfl,om,rfl,?_⟩;rw[qa d,qa c,f];have:a[i]=b[i]:=by simpa using g
   rw[this]
 .have l:i=a.length:=om;subst l;rw[qm,n,qm]at f;refine Zj [] ?_;refine Zo Tryv.Yok ZG7 rfl ?_;exact ZB rr rfl (.b _) (by rw[f];simp)
theorem ZA2{k0 p0 p1 p2 p3 a n0 c d m0 s1 e n2 b3 b4 h}(K):CP Tryv.Y 140 (pre (flat (Za Tryz.f140))) (.agg (R9 k0 p0 p1 p2 p3 a n0 none c d m0)::.s s1::J e n2 none::.b b3::.b b4::Rp 79) h [1,3,4,5,9,11,12,13] K=(((0:Int)<=wW ((↑s1.length:Int)+(1:Int))/\wW ((↑s1.length:Int)+(1:Int))<=wW ((↑s1.length:Int)+(1:Int))/\wW ((↑s1.length:Int)+(1:Int))<=(most:Int)/\wW ((↑s1.length:Int)+(1:Int))*(↑(1:Nat):Int)<=(most:Int))/\ ∃f g,Zky Tryv.Y (h.push (YObj.arr (List.replicate (wW ((↑s1.length:Int)+(1:Int))).toNat [.b false]).flatten true)) 4 (S (some (h.nx,0)) (wW ((↑s1.length:Int)+(1:Int))).toNat (some (wW ((↑s1.length:Int)+(1:Int))).toNat) 1) (J e n2 none)=some (f,g)/\K .normal 84 [.s s1, .b b3, .b b4, .lb (R9 k0 p0 p1 p2 p3 a n0 none c d m0),Ud,S (some (h.nx,0)) (wW ((↑s1.length:Int)+(1:Int))).toNat (some (wW ((↑s1.length:Int)+(1:Int))).toNat) 1, .b false,I 0] f):=kr
theorem ZA3{k0 p0 p1 p2 p3 a k d j m0 s1 b3 b4 e f m g h}(K):CP Tryv.Y 140 (flat (Zx (post (flat (Za Tryz.f140))))) (MZ 84 [1,3,4,5,9,11,12,13] [.s s1,.b b3,.b b4,.lb (R9 k0 p0 p1 p2 p3 a k none d j m0),V.undef,J e f none,.b m,I g]) h [1,3,4,5,9,11,12,13] K=((λB=>If (ltI g d) (If (!m) (((0:Int)<=(0:Int)/\(0:Int)<(k:Int))/\ ∃c i l n o p q r t u w,Zr 9 a=some (R9 c i l n o p q r t u w)/\Con Tryv.Y 110 [.agg (R9 c i l n o p q r t u w),.s s1,J e f none,.b b3,.b b4] h fun(v:V) (C:Heap)=> ∃x y z,v=J x y z/\ ∃A,(PCon Tryv.Y 172 [J e f none,J x y z] fun(v:V)=>v=.b A)/\K .normal 84 [.s s1, .b b3, .b b4, .lb (R9 k0 p0 p1 p2 p3 a k none d j m0),Ud,J x y z, .b A,I (wW (g+(1:Int)))] C) B) B) (K (.exit 0) 84 [.s s1, .b b3, .b b4, .lb (R9 k0 p0 p1 p2 p3 a k none d j m0),Ud,J e f none, .b m,I g] h)):=kr
theorem ZA4{k0 p0 p1 p2 p3 e n0 a f m0 s1 c d g j h}(K):CP Tryv.Y 140 (pre ((post (flat (Za Tryz.f140))).drop 1)) (MZ 84 [1,3,4,5,9,11] [.s s1,.b g,.b j,.lb (R9 k0 p0 p1 p2 p3 e n0 none a f m0),V.undef,J c d none]) h [1,3,4,5,9,11,15,16,17] K=(((0:Int)<=wW ((↑s1.length:Int)+(1:Int))/\wW ((↑s1.length:Int)+(1:Int))<=wW ((↑s1.length:Int)+(1:Int))/\wW ((↑s1.length:Int)+(1:Int))<=(most:Int)/\wW ((↑s1.length:Int)+(1:Int))*(↑(1:Nat):Int)<=(most:Int))/\Con Tryv.Y 139 [S (some (h.nx,0)) (wW ((↑s1.length:Int)+(1:Int))).toNat (some (wW ((↑s1.length:Int)+(1:Int))).toNat) 1,J c d none] (h.push (YObj.arr (List.replicate (wW ((↑s1.length:Int)+(1:Int))).toNat [.b false]).flatten true)) fun(v:V) (k:Heap)=> ∃i,v=.b i/\K .normal 84 [.s s1, .b g, .b j, .lb (R9 k0 p0 p1 p2 p3 e n0 none a f m0),Ud,J c d none,S (some (h.nx,0)) (wW ((↑s1.length:Int)+(1:Int))).toNat (some (wW ((↑s1.length:Int)+(1:Int))).toNat) 1, .b i,I a] k):=kr
theorem ZA5{k0 p0 p1 p2 p3 a k m d m0 s1 b3 b4 o p e f g q j h}(K):CP Tryv.Y 140 (flat (Zx (post ((post (flat (Za Tryz.f140))).drop 1)))) (MZ 84 [1,3,4,5,9,11,15,16,17] [.s s1,.b b3,.b b4,.lb (R9 k0 p0 p1 p2 p3 a k none m d m0),V.undef,J o p none,S (some (e,0)) f (some g) 1,.b q,I j]) h [1,3,4,5,9,11,15,16,17] K=((λE=>(λF=>If (ltI d 0) F (If (ltI j d) F E)) (If q (((0:Int)<=(0:Int)/\(0:Int)<(k:Int))/\ ∃c i l n r t u w x y z,Zr 9 a=some (R9 c i l n r t u w x y z)/\Con Tryv.Y 110 [.agg (R9 c i l n r t u w x y z),.s s1,J o p none,.b b3,.b b4] h fun(v:V) (A:Heap)=> ∃B C D,v=J B C D/\Con Tryv.Y 139 [S (some (e,0)) f (some g) 1,J B C D] A fun(v:V) (A:Heap)=> ∃G,v=.b G/\K .normal 84 [.s s1, .b b3, .b b4, .lb (R9 k0 p0 p1 p2 p3 a k none m d m0),Ud,J B C D,S (some (e,0)) f (some g) 1, .b G,I (wW (j+(1:Int)))] A) E)) (K (.exit 2) 84 [.s s1, .b b3, .b b4, .lb (R9 k0 p0 p1 p2 p3 a k none m d m0),Ud,J o p none,S (some (e,0)) f (some g) 1, .b q,I j] h)):=kr
theorem ZA6{a b c h}(K):CP Tryv.Y 140 ((post ((post (flat (Za Tryz.f140))).drop 1)).drop 1) (MZ 84 [15] [S (some (a,0)) b (some c) 1]) h [10] K=(K .ret 84 [S (some (a,0)) b (some c) 1] h):=kr
theorem ZG9{h:Heap}{e n:Nat}{c:Option Nat}{x:Option Nat}(fr a:List Bool)(j:h.get e=some (.arr (row Zl a) true))(o:fr.length=n)(r:a.length=n):
  ∃k,Zky Tryv.Y h 4 (.sl (some (e,0)) n c 1) (.ts (row Zl fr) fr.length x)=some (h.set e (some (.arr (row Zl fr) true)),k):=by
 have f:Tryv.Y.ty 4=some ⟨1,1, .bool,[.b false]⟩:=kr;have m:QT ⟨[],[],h⟩ 1 (.ts (row Zl fr) fr.length x)=some (fr.length,row Zl fr):=by
  simp only[QT,XQ];rw[ZD (by rw[XD];omega)];rfl
 have d: ∀l:List Bool,Zp (row Zl l)=true:=by
  intro l
  induction l with
  |nil=>rfl
  |cons b l g=>rw[Zge];exact g
 refine⟨min fr.length n,?_⟩;unfold Zky;simp only[f,m,j];rw[o,Nat.min_self,uY,qt (by rw[XD];omega)];rw[uF ⟨trivial,dc,d fr⟩,uF (by rw[XD,XD];omega),Qy,qB (by rw[XD,XD];omega),qi]
theorem frzB{h:Heap}{a n:Nat}{c}{D:List Nat}(l:List Bool)(e:h.get a=some (.arr (row Zl l) true))(f:n=l.length)(g:a∈D):Frz (Ve h D) (.sl (some (a,0)) n c 1) (lst Zl l):=by
 subst f;exact .sl _ _ _ _ _ (row Zl l) true (row Zl l) _ none (by rw[QK,uF g,e]) (by rw[ql];exact ZD (by rw[XD];omega)) (λx d=>by cases d) dc (Xc _ (Zmi l))
theorem ZA7{h:Heap}{a n:Nat}{c}(l:List Bool)(d:h.get a=some (.arr (row Zl l) true))(e:n=l.length):Frz h (.sl (some (a,0)) n c 1) (lst Zl l):=by
 subst e;exact .sl _ _ _ _ _ (row Zl l) true (row Zl l) _ none d (by rw[ql];exact ZD (by rw[XD];omega)) (λx f=>by cases f) dc (Xc _ (Zmi l))
def OvR(s:List UInt8)(c a:Bool)(r:Re):Prop:= ∀fr:List Bool,fr.length=s.length+1->
 PCon Tryv.Y 110 [.agg (Zd r), .s s,lst Zl fr, .b c, .b a] (· =lst Zl (overF s c a r fr))
theorem OvR.con{s:List UInt8}{a c:Bool}{r}(o:OvR s a c r){fr:List Bool}(e:fr.length=s.length+1)(h):Con Tryv.Y 110 [.agg (Zd r), .s s,lst Zl fr, .b a, .b c] h λv d=>v=lst Zl (overF s a c r fr)/\d=XO h []:=
 Con.ofP [] (FrzAL.refl _) (o fr e)
theorem Zjx{to more:List Bool}{a:Nat}{c0:Option Nat}{h:Heap}{n:Nat}(d:n=to.length)(e:to.length=more.length)(f:to.length<2 ^ 20)(g:h.get a=some (.arr (row Zl to) true)):
  Con Tryv.Y 139 [.sl (some (a,0)) n c0 1,lst Zl more] h λv c=>v= .b (Xn to more)/\c.get a=some (.arr (row Zl (XN to more)) true)/\FrO h a c/\c.nx=h.nx:=by
 subst d;exact ZG8 e f g
def RepI(s:List UInt8)(e g:Bool)(R:List V)(f:List Bool->List Bool)(c:Int)(a:List Bool)(m:Nat)(d:List V)(_:Heap):Prop:=
 ∃(i:Nat) (now:List Bool) (b:Bool),d= [.s s, .b e, .b g, .lb R, .undef,lst Zl now, .b b, .i .i64 (i:Nat)]/\now.length=s.length+1/\(i:Int)<=c/\m=c.toNat-i/\
  (if b=true then now=a else rep1 f (c.toNat-i) now=a)
def RepJ(s:List UInt8)(j k:Bool)(R:List V)(f:List Bool->List Bool)(l g:Int)(c:List Bool)(m:Nat)(e:List V)(h:Heap):Prop:=
 ∃(i:Nat) (now a:List Bool) (b:Bool) (d:Nat),e= [.s s, .b j, .b k, .lb R, .undef,lst Zl now, .sl (some (d,0)) (s.length+1) (some (s.length+1)) 1, .b b, .i .i64 (i:Nat)]/\now.length=s.length+1/\a.length=s.length+1/\
  h.get d=some (.arr (row Zl a) true)/\rep2 f g m (i:Nat) now a b=c/\Zd0 a+(if b=true then 1 else 0)<=m/\i+m<=l.toNat+s.length+3
theorem Zxo{s:List UInt8}{E F:Bool}(hs:s.length<2 ^ 19){set:Set4}{x}{w hi n:Int}(h0:0<=w)(h8:w<=8)(hx:OvR s E F x){fr:List Bool}(hl:fr.length=s.length+1):
  PCon Tryv.Y 140 [.agg (Zd (.mk 6 set [x] w hi n)), .s s,lst Zl fr, .b E, .b F] (· =lst Zl (Vy (overF s E F x) (s.length+1) w hi fr)):=by
 obtain⟨B,y,C,g,j,A⟩:=x;have hf:=λt=>JB s E F (.mk B y C g j A) t;have a2:Zr 9 (row Zd [Re.mk B y C g j A])=some (Zd (.mk B y C g j A)):=by
  have:row Zd [Re.mk B y C g j A]=Zd (.mk B y C g j A):=by simp[row]
  rw[this,Zm];rfl
 rw[Zm]at a2;generalize a8:overF s E F (.mk B y C g j A)=f at hf;have L: ∀(now:List Bool) (h:Heap),now.length=s.length+1->Con Tryv.Y 110 [.agg [I B,U y.1,U y.2.1,U y.2.2.1,U y.2.2.2,lst Zd C,I g,I j,I A], .s s,lst Zl now, .b E, .b F] h λv h'=>v=lst Zl (f now)/\h'=h:=λnow h hn=>by
  have:=hx.con hn h;rw[Zm,a8]at this;exact this
 rw[Zm];refine ZG Tryv.Yok (fn:=Tryz.f140) rfl ?_;refine Zh Tryv.Yok 84 ZA2 rfl ?_;have hw:wW ((s.length:Int)+1)=((s.length+1:Nat):Int):=Ze om;have b5:most=1099511627776:=dc;rw[hw,qdq,XY];have gp: ∀h:Heap,(h.push (.arr (row Zl (Zy (s.length+1))) true)).get h.nx=some (.arr (row Zl (Zy (s.length+1))) true):=λh=>by rw[qk,uF rfl]
 obtain⟨kk,b6⟩:=ZG9 (c:=some (s.length+1)) (x:=none) fr _ (gp .empty) hl sm;refine⟨⟨om,om,om,om⟩,_,_,b6,rfl,?_⟩;have a9:((Heap.empty.push (.arr (row Zl (Zy (s.length+1))) true)).set Heap.empty.nx (some (.arr (row Zl fr) true))).get Heap.empty.nx=some (.arr (row Zl fr) true):=by rw[qc,uF rfl]
 refine Zcf [Heap.empty.nx] [1,3,4,5,9,11,12,13] kr (.cons _ _ _ _ (.same _) (.cons _ _ _ _ (.same _) (.cons _ _ _ _ (.same _) (.cons _ _ _ _ (.same _) (.cons _ _ _ _ (.same _) (.cons _ _ _ _ (.frz _ _ (frzB fr a9 hl.symm sm)) (.cons _ _ _ _ (.same _) (.cons _ _ _ _ (.same _) .nil)))))))) ?_;unfold Vy;obtain⟨z,K⟩: ∃z,z=rep1 f w.toNat fr:=⟨_,rfl⟩;rw[<-K];have d2:z.length=s.length+1:=by rw[K];exact Zjt hf _ _ hl
 refine ZN [1,3,4,5,9,11,12,13] [1,3,4,5,9,11,12,13] (RepI s E F [I 6,U set.1,U set.2.1,U set.2.2.1,U set.2.2.2,lst Zd [Re.mk B y C g j A],I w,I hi,I n] f w z) w.toNat ZA ⟨0,fr,false,rfl,hl,h0,rfl,K.symm⟩ ?_;rintro m vs h ⟨i,now,b,rfl,W,d1,rfl,d⟩;refine Zn Tryv.Yok ZA3 rfl ?_;have a7:now=z->XE Tryv.Y 84 [1,3,4,5,9,11,12,13] [1,3,4,5,9,11,12,13] (RepI s E F [I 6,U set.1,U set.2.1,U set.2.2.1,U set.2.2.2,lst Zd [Re.mk B y C g j A],I w,I hi,I n] f w z) (w.toNat-i) (Xd (post (flat (Za Tryz.f140)))) ((post (flat (Za Tryz.f140))).drop 1)
   (FinS Tryv.Y Tryz.f140 λv h=> ∃r,Frz h v r/\r=lst Zl (rep2 f hi (s.length+1+2) w z (XN (Zy (s.length+1)) z) (Xn (Zy (s.length+1)) z))) (.exit 0) 84 [.s s, .b E, .b F, .lb [I 6,U set.1,U set.2.1,U set.2.2.1,U set.2.2.2,lst Zd [Re.mk B y C g j A],I w,I hi,I n], .undef,lst Zl now, .b b,I i] h:=λe=>by
  subst e;refine Zj [1,3,4,5,9,11] ?_;refine Zh Tryv.Yok 84 ZA4 rfl ?_;rw[hw,qdq,XY];refine⟨⟨om,om,om,om⟩,(Zjx (n:=s.length+1) (c0:=some (s.length+1)) (to:=Zy (s.length+1)) (more:=now) sm (by rw[W];simp) (by simp;omega) (gp h)).mono λv h1 ⟨hv,b7,b9,c6⟩=>⟨_,hv,rfl,?_⟩⟩;have hj:=Wu (Zy (s.length+1)) now;have d3:=Zjw (Zy (s.length+1));have c5:(Zy (s.length+1)).length=s.length+1:=sm;obtain⟨u,rfl⟩: ∃k:Nat,w=(k:Nat):=⟨w.toNat,om⟩;refine ZN [1,3,4,5,9,11,15,16,17] [1,3,4,5,9,11,15,16,17] (RepJ s E F [I 6,U set.1,U set.2.1,U set.2.2.1,U set.2.2.2,lst Zd [Re.mk B y C g j A],I u,I hi,I n] f (u:Nat) hi _) (s.length+1+2) ZA
   ⟨u,now,XN (Zy (s.length+1)) now,Xn (Zy (s.length+1)) now,h.nx,rfl,W,by rw[XX];simp,b7,rfl,?_,by rw[qdq];omega⟩ ?_
  .cases a5:Xn (Zy (s.length+1)) now
   .simp;omega
   .have:=hj.2 a5;simp;omega
  rintro m2 d0 h2 ⟨Z,a,D,b2,a1,rfl,X,G,a6,l,a4,b4⟩;refine Zn Tryv.Yok ZA5 rfl ?_;have c8:Z<2 ^ 40:=by rw[qdq]at b4;omega
  have fin2:(¬((hi<0\/(Z:Int)<hi)/\b2=true))->XE Tryv.Y 84 [1,3,4,5,9,11,15,16,17] [1,3,4,5,9,11,15,16,17] (RepJ s E F [I 6,U set.1,U set.2.1,U set.2.2.1,U set.2.2.2,lst Zd [Re.mk B y C g j A],I u,I hi,I n] f (u:Nat) hi (rep2 f hi (s.length+1+2) (u:Nat) now (XN (Zy (s.length+1)) now) (Xn (Zy (s.length+1)) now))) m2 (Xd (post ((post (flat (Za Tryz.f140))).drop 1))) ((post ((post (flat (Za Tryz.f140))).drop 1)).drop 1)
    (FinS Tryv.Y Tryz.f140 λv h=> ∃r,Frz h v r/\r=lst Zl (rep2 f hi (s.length+1+2) (u:Nat) now (XN (Zy (s.length+1)) now) (Xn (Zy (s.length+1)) now))) (.exit 2) 84 [.s s, .b E, .b F, .lb [I 6,U set.1,U set.2.1,U set.2.2.1,U set.2.2.2,lst Zd [Re.mk B y C g j A],I u,I hi,I n], .undef,lst Zl a, .sl (some (a1,0)) (s.length+1) (some (s.length+1)) 1, .b b2,I Z] h2:=λb3=>by
   refine Zj [15] ?_;refine Zo Tryv.Yok ZA6 rfl ?_;refine ZB rr rfl (ZA7 D a6 G.symm) ?_
   cases m2 with
   |zero=>rw[rep2]at l;rw[<-l]
   |succ k=>rw[rep2,uE b3]at l;rw[<-l]
  have N:b2=true->(hi<0\/(Z:Int)<hi)->(((0:Int)<=(0:Int)/\(0:Int)<(([Re.mk B y C g j A].length:Nat):Int))/\True)/\1<=m2/\Zd0 D+1<=m2:=λo _=>by
   rw[uF o]at a4;exact⟨⟨⟨om,sm⟩,trivial⟩,om,a4⟩
  have next: ∀(hc:hi<0\/(Z:Int)<hi) (o:b2=true) (v1:V) (H:Heap),H=h2->Con Tryv.Y 139 [.sl (some (a1,0)) (s.length+1) (some (s.length+1)) 1,lst Zl (f a)] H λv h'=> ∃b,v= .b b/\
    (84=84/\ ∃m',m'<m2/\RepJ s E F [I 6,U set.1,U set.2.1,U set.2.2.1,U set.2.2.2,lst Zd [Re.mk B y C g j A],I u,I hi,I n] f (u:Nat) hi (rep2 f hi (s.length+1+2) (u:Nat) now (XN (Zy (s.length+1)) now) (Xn (Zy (s.length+1)) now)) m'
     [.s s, .b E, .b F, .lb [I 6,U set.1,U set.2.1,U set.2.2.1,U set.2.2.2,lst Zd [Re.mk B y C g j A],I u,I hi,I n], .undef,lst Zl (f a), .sl (some (a1,0)) (s.length+1) (some (s.length+1)) 1, .b b,I (wW ((Z:Int)+1))] h'):=λhc o v1 H e=>by
   subst e;obtain⟨_,b8,c4⟩:=N o hc;obtain⟨k,rfl⟩: ∃k,m2=k+1:=⟨m2-1,om⟩;have O:=hf a X;rw[rep2,uF ⟨hc,o⟩]at l;have b0:=Wu D (f a);refine(Zjx (n:=s.length+1) (c0:=some (s.length+1)) (to:=D) (more:=f a) G.symm (by rw[G,O]) om a6).mono λv h4 ⟨hv,b1,c9,c7⟩=>⟨_,hv,rfl,k,om,Z+1,f a,XN D (f a),Xn D (f a),a1,?_,O,by rw[XX];exact G,b1,?_,?_,om⟩
   .rw[Ze om]
   .rw[<-l];rfl
   .cases a5:Xn D (f a)
    .simp;omega
    .have:=b0.2 a5;simp;omega
  refine Zf (λP=>Zf (λo=> ?_) (λo=>fin2 (λh=>by rw[o]at h;exact absurd h.2 dc))) (λP=>Zf (λa3=>Zf (λo=> ?_) (λo=>fin2 (λh=>by rw[o]at h;exact absurd h.2 dc))) (λa0=>fin2 (λh=> ?_)))
  .have hc:hi<0\/(Z:Int)<hi:= .inl (by simpa[ltI]using P);refine⟨(N o hc).1.1,_,_,_,_,_,_,_,_,_,_,_,a2,(L a h2 X).mono λv H ⟨hv,hh⟩=>⟨_,_,_,hv,next hc o v H hh⟩⟩
  .have hc:hi<0\/(Z:Int)<hi:= .inr (by simpa[ltI]using a3);refine⟨(N o hc).1.1,_,_,_,_,_,_,_,_,_,_,_,a2,(L a h2 X).mono λv H ⟨hv,hh⟩=>⟨_,_,_,hv,next hc o v H hh⟩⟩
  .have h1: ¬hi<0:=by simpa[ltI]using P
   have h2: ¬(Z:Int)<hi:=by simpa[ltI]using a0
   rcases h.1 with H|H
   .exact h1 H
   .exact h2 H
 refine Zf (λa3=> ?_) (λa0=>a7 ?_)
 .have a3:(i:Int)<w:=by simpa[ltI]using a3
  refine Zf (λo=> ?_) (λo=>a7 ?_)
  .have o:b=false:=by simpa using o
   subst o;obtain⟨k,hk⟩: ∃k,w.toNat-i=k+1:=⟨w.toNat-i-1,om⟩;rw[hk,rep1]at d;have O:=hf now W;refine⟨⟨om,sm⟩,_,_,_,_,_,_,_,_,_,_,_,a2,(L now h W).mono λv H ⟨hv,hh⟩=>⟨_,_,_,hv,_,ZA1 now (f now) (by rw[W,O]) om,rfl,k,om,i+1,f now,(now==f now),?_,O,om,om,?_⟩⟩
   .rw[Ze om];rfl
   .rw[show w.toNat-(i+1)=k from om];simp only[uI,vF]at d;split at d
    .rename_i e;rw[uF e];exact d
    .rename_i e;rw[uE e];exact d
  .have o:b=true:=by simpa using o
   rw[uF o]at d;exact d
 .have a0: ¬(i:Int)<w:=by simpa[ltI]using a0
  by_cases o:b=true
  .rw[uF o]at d;exact d
  .rw[uE o,show w.toNat-i=0 from om,rep1]at d;exact d
end Go.Y
