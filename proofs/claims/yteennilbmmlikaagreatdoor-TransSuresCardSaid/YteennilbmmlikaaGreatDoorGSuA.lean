/- A part of the proof. -/
import Derived.Test.YteennilbmmlikaaGreatDoorEF7
import Derived.Test.YteennilbmmlikaaGreatDoorGTrL
import Derived.Test.YteennilbmmlikaaGreatDoorYAny3
import Derived.Test.YteennilbmmlikaaGreatDoorYLoop
import Derived.Test.YteennilbmmlikaaGreatDoorGDf5
import Derived.Test.YteennilbmmlikaaGreatDoorGRule
namespace Go.Y
open Go.Proofs Gl
set_option maxRecDepth 100000
set_option maxHeartbeats 4000000
abbrev Ztx:S4:=(18446744073709551615,18446744073709551615,18446744073709551615,18446744073709551615)
abbrev anyA:Re:= .mk 1 Ztx [] 0 0 0
abbrev ZB2:Re:= .mk 6 (0,0,0,0) [anyA] 0 (-1) 0
abbrev byA:Re:= .mk 1 (0,8589934592,0,0) [] 0 0 0
abbrev byB:Re:= .mk 1 (0,17179869184,0,0) [] 0 0 0
abbrev reX:Re:= .mk 4 (0,0,0,0) [byA,byB] 0 0 0
abbrev reA:Re:= .mk 4 (0,0,0,0) [ZB2,byA,byB,ZB2] 0 0 0
abbrev reB:Re:= .mk 4 (0,0,0,0) [ZB2,byA,anyA,ZB2] 0 0 0
abbrev auA:Au:=⟨[Ztx,(0,8589934592,0,0),(0,17179869184,0,0),Ztx],[0,1],[2,3],[[0,1],[2],[3],[3]],false⟩
abbrev auB:Au:=⟨[Ztx,(0,8589934592,0,0),Ztx,Ztx],[0,1],[2,3],[[0,1],[2],[3],[3]],false⟩
abbrev clA:List Nat:=List.replicate 97 0++(1::2::List.replicate 157 0)
abbrev clB:List Nat:=List.replicate 97 0++(1::List.replicate 158 0)
abbrev daA:Dn:=⟨clA,[[1,2,1],[1,2,1],[1,2,3],[4,5,4],[4,5,4],[4,5,6],[4,5,4]],[false,false,false,true,true,true,true]⟩
abbrev daB:Dn:=⟨clB,[[1,2],[1,2],[3,4],[5,6],[7,8],[5,6],[7,8],[5,6],[7,8]],[false,false,false,true,true,true,true,true,true]⟩
theorem wX:sevS 4 (Xl [97,98])=reX/\mayE reX=true/\textF reX= [97,98]:=by refine⟨?_,?_,?_⟩<;>kernel_rfl
theorem wA:Xz 0 [97,98]=(reA,0):=kr
theorem wB:Xz 1 [97,63]=(reB,0):=kr
theorem pA2:JF reA=(auA,0):=kr
theorem pB2:JF reB=(auB,0):=kr
theorem sA:srtS auA.sets 256=(clA,[0,97,98]):=kr
theorem sB:srtS auB.sets 256=(clB,[0,97]):=kr
theorem tA:tabD auA 50=some daA:=by
 unfold tabD;rw[sA]
 kernel_rfl
theorem tB:tabD auB 50=some daB:=by
 unfold tabD;rw[sB]
 kernel_rfl
theorem fAB:Qy daA daB=false:=kr
theorem fBA:Qy daB daA=true:=kr
theorem ZOx:Zbf 0 [97,98] 1 [97,63] 50=(true,0):=by unfold Zbf Zm6;rw[wA,wB,uF rfl,uF rfl,pA2,pB2];unfold Zm5;rw[uF rfl,uF rfl,tA,tB];show((!Qy daA daB),(0:Int))=_;rw[fAB];rfl
theorem ZOy:Zbf 1 [97,63] 0 [97,98] 50=(false,0):=by unfold Zbf Zm6;rw[wA,wB,uF rfl,uF rfl,pA2,pB2];unfold Zm5;rw[uF rfl,uF rfl,tA,tB];show((!Qy daB daA),(0:Int))=_;rw[fBA];rfl
end Go.Y
namespace Go.Y
open Go.Proofs
set_option maxRecDepth 1000000
set_option maxHeartbeats 0
theorem ZTa{h}(K):CP UY 12 (flat (Za Tryz.f12)) (Rp 45) h [0] K=(∃a b c d e f g i j l m n,(PCon UY 16 [.s #[(97:UInt8),(98:UInt8)].toList] fun(v:V)=>v=.tup [.agg (R9 a b c d e f g i j l m),I n])/\ ∃o p,(PCon UY 13 [.agg [I 0,.s #[(97:UInt8),(98:UInt8)].toList],.agg [I 1,.s #[(97:UInt8),(63:UInt8)].toList],I 50] λv=>v=.tup [.b o,I p])/\ ∃q r,(PCon UY 13 [.agg [I 1,.s #[(97:UInt8),(63:UInt8)].toList],.agg [I 0,.s #[(97:UInt8),(98:UInt8)].toList],I 50] λv=>v=.tup [.b q,I r])/\If (n==(0:Int)) (∃s,(PCon UY 37 [.agg (R9 a b c d e f g i j l m)] λv=>v=.s s)/\If (s== #[(97:UInt8),(98:UInt8)].toList) (If o (If (p==(0:Int)) (If (!q) (K .ret 45 [.b (r==(0:Int))] h) (K .ret 45 [.b false] h)) (K .ret 45 [.b false] h)) (K .ret 45 [.b false] h)) (K .ret 45 [.b false] h)) (K .ret 45 [.b false] h)):=kr
end Go.Y
namespace Go.Y
open Go.Proofs Gl
set_option maxRecDepth 100000
set_option maxHeartbeats 4000000
theorem ZH4(f:ZQ UY.P 75)(a:ZE UY.P 76):PCon UY 12 [] (· = .b true):=by
 have c0:=ZM1 [97,98] dc;have d:=Zrz f a 0 [97,98] 1 [97,63] (most:=50) dc dc;have e:=Zrz f a 1 [97,63] 0 [97,98] (most:=50) dc dc;have c:TxR reX:=Zo9 (B:=1000) dc reX ?_ ?_ ?_;rw[ZOx]at d;rw[ZOy]at e;rw[wX.1]at c0;unfold fitV at c0;rw[uF wX.2.1]at c0;unfold TxR at c;rw[wX.2.2]at c;rw[Zn]at c0 c;refine Zv UK (fn:=Tryz.f12) rfl ZTa rfl ?_;exact⟨_,_,_,_,_,_,_,_,_,_,_,_,c0,_,_,d,_,_,e,ifT rfl ⟨_,c,ifT rfl (ifT rfl (ifT rfl (ifT rfl (ZB rr rfl (.b _) rfl))))⟩⟩
 .have:=(Zf9 (s:= [97,98]) dc).re
  rwa [wX.1]at this
 .have:=Zmr (k:=4) (Zgk [97,98])
  rwa [wX.1]at this
 .have g:=Zdg 4 (Xl [97,98]);have h:=(Zf9 (s:= [97,98]) dc).cnt;rw[wX.1]at g;omega
end Go.Y
namespace Go.Y
set_option maxRecDepth 1000000
set_option maxHeartbeats 0
def XO:List Bool->List Bool->List Bool
 | [],_=> []
 |a::x,[]=>a::x
 |a::x,b::y=>(a||b)::XO x y
def Xo:List Bool->List Bool->Bool
 | [],_=>false
 |_::_,[]=>false
 |a::x,b::y=>(b&& !a)||Xo x y
abbrev Zy(n:Nat):List Bool:=List.replicate n false
def Jw(a:Set4):List UInt8->List Bool->List Bool
 | [],_=> []
 |_::_,[]=> []
 |c::s,f::fr=>(f&&hasN a c.toNat)::Jw a s fr
def rep1(f:List Bool->List Bool):Nat->List Bool->List Bool
 |0,a=>a
 |n+1,a=>if a==f a then f a else rep1 f n (f a)
def rep2(f:List Bool->List Bool)(c:Int):Nat->Int->List Bool->List Bool->Bool->List Bool
 |0,_,_,b,_=>b
 |k+1,i,a,b,d=>if(c<0\/i<c)/\d=true then rep2 f c k (i+1) (f a) (XO b (f a)) (Xo b (f a))else b
def VB(f:List Bool->List Bool)(n:Nat)(a c:Int)(b:List Bool):List Bool:=
 rep2 f c (n+2) a (rep1 f a.toNat b) (XO (Zy n) (rep1 f a.toNat b)) (Xo (Zy n) (rep1 f a.toNat b))
def overF(s:List UInt8)(bg en:Bool):Re->List Bool->List Bool
 | .mk k c a f e _,b=>
  if k=0 then b else if k=1 then false::Jw c s b else if k=2 then(b.getD 0 false&&bg)::Zy s.length
  else if k=3 then Zy s.length++ [b.getD s.length false&&en]else if k=4 then cats a b else if k=5 then alts a b (Zy (s.length+1))
  else if k=6 then VB (λt=>heads a t) (s.length+1) f e b else if k=7 then heads a b else Zy (s.length+1)
where
 cats:List Re->List Bool->List Bool
  | [],t=>t
  |r::l,t=>cats l (overF s bg en r t)
 alts:List Re->List Bool->List Bool->List Bool
  | [],_,d=>d
  |r::l,b,d=>alts l b (XO d (overF s bg en r b))
 heads:List Re->List Bool->List Bool
  | [],t=>t
  |r::_,t=>overF s bg en r t
theorem XY: ∀(x y:List Bool),(XO x y).length=x.length
 | [],y=>by rw[XO]
 |a::x,[]=>by rw[XO]
 |a::x,b::y=>by rw[XO,qh,qh,XY x y]
theorem Zm7: ∀(x y:List Bool) (i:Nat),(XO x y).getD i false=(x.getD i false||(decide (i<x.length)&&y.getD i false))
 | [],y,i=>by rw[XO];simp
 |a::x,[],i=>by rw[XO];simp
 |a::x,b::y,0=>by rw[XO];simp
 |a::x,b::y,i+1=>by
  rw[XO,List.getD_cons_succ,List.getD_cons_succ,List.getD_cons_succ,Zm7 x y i];simp
theorem Zgq(b): ∀(s:List UInt8) (a:List Bool),s.length<=a.length->(Jw b s a).length=s.length
 | [],a,_=>by rw[Jw];rfl
 |c::s,[],h=>by simp at h
 |c::s,f::a,h=>by rw[Jw,qh,qh,Zgq b s a (su h)]
theorem Zkd{f:List Bool->List Bool}{n:Nat}(a: ∀t,t.length=n->(f t).length=n): ∀(k:Nat) (t:List Bool),t.length=n->(rep1 f k t).length=n
 |0,t,h=>h
 |k+1,t,h=>by
  rw[rep1];split;exact a t h;exact Zkd a k _ (a t h)
theorem Zr0{f:List Bool->List Bool}{n:Nat}{d:Int} : ∀(k:Nat) (i:Int) (a b:List Bool) (c:Bool),b.length=n->(rep2 f d k i a b c).length=n
 |0,_,_,_,_,h=>h
 |k+1,i,a,b,c,h=>by
  rw[rep2];split;exact Zr0 k _ _ _ _ (by rw[XY];exact h);exact h
theorem Zpg(f:List Bool->List Bool)(n:Nat)(c b:Int)(a):(VB f n c b a).length=n:=by unfold VB;exact Zr0 _ _ _ _ _ (by rw[XY];simp)
mutual
theorem Jx(s:List UInt8)(c d:Bool): ∀(r:Re) (b:List Bool),b.length=s.length+1->(overF s c d r b).length=s.length+1
 | .mk k e a g f n,b,h=>by
  rw[overF];split;exact h;split;rw[qh,Zgq e s b om];split;simp;split;simp;split;exact Zke s c d a b h;split;exact Zkf s c d a b _ h sm;split;exact Zpg _ _ _ _ _;split;exact Zyo s c d a b h;simp
theorem Zke(s:List UInt8)(b c:Bool): ∀(l:List Re) (a:List Bool),a.length=s.length+1->(overF.cats s b c l a).length=s.length+1
 | [],a,h=>by rw[overF.cats];exact h
 |r::l,a,h=>by rw[overF.cats];exact Zke s b c l _ (Jx s b c r a h)
theorem Zkf(s:List UInt8)(c d:Bool): ∀(l:List Re) (a b:List Bool),a.length=s.length+1->b.length=s.length+1->(overF.alts s c d l a b).length=s.length+1
 | [],a,b,_,h=>by rw[overF.alts];exact h
 |r::l,a,b,h,g=>by rw[overF.alts];exact Zkf s c d l _ _ h (by rw[XY];exact g)
theorem Zyo(s:List UInt8)(b c:Bool): ∀(l:List Re) (a:List Bool),a.length=s.length+1->(overF.heads s b c l a).length=s.length+1
 | [],a,h=>by rw[overF.heads];exact h
 |r::l,a,h=>by rw[overF.heads];exact Jx s b c r a h
end
theorem Zm8(s)(a b:Bool)(r): ∀(l:List Re) (t:List Bool),overF.cats s a b (l++ [r]) t=overF s a b r (overF.cats s a b l t)
 | [],t=>by rw[qy,overF.cats,overF.cats,overF.cats]
 |x::l,t=>by rw[qs,overF.cats,overF.cats,Zm8 s a b r l]
theorem Zm9(s)(a b:Bool)(r)(c): ∀(l:List Re) (t:List Bool),overF.alts s a b (l++ [r]) c t=XO (overF.alts s a b l c t) (overF s a b r c)
 | [],t=>by rw[qy,overF.alts,overF.alts,overF.alts]
 |x::l,t=>by rw[qs,overF.alts,overF.alts,Zm9 s a b r c l]
def Zed:List Bool->Nat
 | []=>0
 |b::l=>(if b then 0 else 1)+Zed l
theorem Zkg: ∀l:List Bool,Zed l<=l.length
 | []=>qnq _
 |b::l=>by
  have:=Zkg l;rw[Zed,qh];split<;>omega
theorem Wx: ∀(x y:List Bool),Zed (XO x y)<=Zed x/\(Xo x y=true->Zed (XO x y)<Zed x)
 | [],y=>by rw[XO,Xo];simp
 |a::x,[]=>by rw[XO,Xo];simp
 |a::x,b::y=>by
  obtain⟨d,c⟩:=Wx x y;rw[XO,Zed,Zed,Xo];cases a<;>cases b<;>simp at c ⊢
  .exact⟨d,c⟩
  .omega
  .exact⟨d,c⟩
  .exact⟨d,c⟩
theorem Zyp{h}{v:V}{cs}(f:FrzA h v (.lb cs)):v= .lb cs:=by
 cases f with
 |same=>rfl
 |frz _ _ a=>cases a
theorem Zty{h}{a:V}{cs}(f:FrzA h (.lb cs) a):a= .lb cs:=by
 cases f with
 |same=>rfl
 |frz _ _ b=>cases b
theorem Ztz{h}{a:V}(f:FrzA h .rf a):a= .rf:=by
 cases f with
 |same=>rfl
 |frz _ _ b=>cases b
theorem ZB3{Y}{e e'}{h}{c}{Q}(D)(A:FrzAL (Vi h D) e e')(F:Tri Y c ⟨e',[],XP h D⟩ Q):Tri Y c ⟨e,[],h⟩ Q:=by
 intro W a w W0 own0 w0 o hs;have O:=(o.heap.frzD D).1;have P:=(o.heap.frzD D).2;have z:=Fz.of o.heap D;have q:=Vj o.heap D;have j: ∀b,¬W.own b->W.snap b=none->(W.frzD D w).snap b=none:=λb d k=>by
  unfold Vw.frzD;simp only;rw[uE (fun⟨i,_,l,n⟩=>d ⟨i,l,n⟩)];exact k
 have g: ∀b,(W.frzD D w).own b->W.own b:=λb ⟨id,d,k⟩=>⟨id,d.1,k⟩;have f: ∀t b,QJ ⟨e',[],XP h D⟩ a t b->QJ ⟨e,[],h⟩ a t b:=by
  rintro t b ⟨⟨m,d⟩,k⟩;obtain⟨v,l,n⟩:=A.get d;exact⟨⟨m,by rw[Zyp n]at l;exact l⟩,k⟩
 have C:Rel (W.frzD D w) ⟨e',[],XP h D⟩ a w:=by
  refine⟨O,by rw[o.size];exact A.length,λt v F=> ?_,λt t' b d k=>o.box t t' b (f _ _ d) (f _ _ k),λ_ _ _ hm=>by simp at hm,?_⟩
  .obtain⟨G,l,n⟩:=A.get F;obtain⟨u,X,H⟩:=o.env t G l;refine⟨u,X,?_⟩;by_cases p: ∃m,v= .lb m;obtain⟨m,rfl⟩:=p;have L:=Zyp n;subst L;obtain⟨b,K,N,hu,x,hv,E,y⟩:=H;exact⟨b,K,N,hu,x,hv.mono q,j b y E,λB=>y (g b B)⟩
   .by_cases s:v= .rf;subst s;trivial
    .have Z:VR W G u:=by
      cases G with
      |lb m=>exact absurd ⟨m,Zty n⟩ p
      |rf=>exact absurd (Ztz n) s
      |_=>exact H
     have h8:=n.vr z q Z
     cases v with
     |lb m=>exact absurd ⟨m,rfl⟩ p
     |rf=>exact absurd rfl s
     |_=>exact h8
  .exact o.defers.turn λr d k l=>⟨rfl,j r l k,λB=>l (g r B)⟩
 refine F (W.frzD D w) a w W0 own0 w0 C (hs.trans ⟨q,qnq _,λb _ _=>rfl,λb x=> .inl ?_,λb x=> ?_, .refl w⟩);rcases x with d|⟨t,d⟩|d;exact .inl (g b d);exact .inr (.inl ⟨t,f _ _ d⟩);exact .inr (.inr d);rcases P.new b x with d|d|d;exact .inl d;exact .inr (.inl (.inl d));exact .inr (.inr d)
theorem FrzAL.set{h} : ∀ {l b:List V} (t:Nat) {v c:V},FrzAL h l b->FrzA h v c->FrzAL h (l.set t v) (b.set t c)
 |_,_,_,_,_, .nil,_=> .nil
 |_,_,0,_,_, .cons _ _ _ _ _ a,f=> .cons _ _ _ _ f a
 |_,_,t+1,_,_, .cons _ _ _ _ d a,f=> .cons _ _ _ _ d (a.set t f)
theorem FrzAL.mk{h}{n:Nat} : ∀(a:List Nat) {b vs'},FrzAL h b vs'->FrzAL h (Go.Y.mk n (a.zip b)) (Go.Y.mk n (a.zip vs')):=by
 intro a b vs' f;have d: ∀(a:List Nat) {b vs':List V} {e e':List V},FrzAL h b vs'->FrzAL h e e'->FrzAL h ((a.zip b).foldl (λe p=>e.set p.1 p.2) e) ((a.zip vs').foldl (λe p=>e.set p.1 p.2) e'):=by
  intro a
  induction a with
  |nil=>intro b vs' e e' _ c;simpa using c
  |cons s a j=>
   intro b vs' e e' f c
   cases f with
   |nil=>simpa using c
   |cons v m l k i g=>simp only[List.zip_cons_cons,uR];exact j g (c.set s i)
 exact d a f (FrzAL.refl _)
theorem Zcn{Y:YP}{n:Nat}(D)(b:List Nat){vs vs'}{l:List Code}{h}{Q:Out->St->Prop}(d:l.isEmpty=false)(e:FrzAL (Vi h D) vs vs')
  (a:TriL Y l ⟨mk n (b.zip vs'),[],XP h D⟩ Q):TriL Y l ⟨mk n (b.zip vs),[],h⟩ Q:=by
 match l,d,a with
 |c::r,_,a=>exact ZB3 D (e.mk b) a
end Go.Y
namespace Go.Y
open Go.Proofs
set_option maxRecDepth 1000000
set_option maxHeartbeats 0
def Tryv.modes:List Nat:=(((Tryz.modes.set 110 4).set 140 4).set 139 0).set 172 2
noncomputable def vY_:YP:=⟨Go.Proofs.Tryz.prog,Tryz.tys,Tryz.locs,Tryv.modes,[182,5],[(185,1),(197,2)],[26,27,28]⟩
theorem vK_:YOK vY_:=Vk kr Tryz.extok
theorem PCon.vz{f}{a}{Q:V->Prop}(c:PCon vY_ f a Q):PCon UY f a Q:=⟨c.body,c.tr⟩
theorem PCon.zv{f}{a}{Q:V->Prop}(c:PCon UY f a Q):PCon vY_ f a Q:=⟨c.body,c.tr⟩
theorem ZH5{a l0 c0 c n1 h}(K):CP vY_ 139 (pre (flat (Za Tryz.f139))) (S (some (a,0)) l0 c0 1::J c n1 none::Rp 39) h [0,1,5,6] K=(K .normal 41 [S (some (a,0)) l0 c0 1,J c n1 none, .b false,I 0] h):=kr
theorem ZH6{c l0 c0 d n1 e a h}(K):CP vY_ 139 (lp_ (flat (Za Tryz.f139))) (MZ 41 [0,1,5,6] [S (some (c,0)) l0 c0 1,J d n1 none,.b e,I a]) h [0,1,5,6] K=(If (ltI a l0) (If e ((0<=a/\a<l0)/\1=1/\ ∃f,Zb h c ((0:Nat)+a.toNat*1) 1=some [.b f]/\If f ((0<=a/\a<l0)/\1=1/\ ∃g,Zi h c ((0:Nat)+a.toNat*1) [.b true]=some g/\K .normal 41 [S (some (c,0)) l0 c0 1,J d n1 none, .b true,I (wW (a+(1:Int)))] g) ((0<=a/\a<n1)/\ ∃g,Zs 1 (List.drop (a.toNat*1) d)=some [.b g]/\(0<=a/\a<l0)/\1=1/\ ∃i,Zi h c ((0:Nat)+a.toNat*1) [.b g]=some i/\K .normal 41 [S (some (c,0)) l0 c0 1,J d n1 none, .b true,I (wW (a+(1:Int)))] i)) ((0<=a/\a<n1)/\ ∃f,Zs 1 (List.drop (a.toNat*1) d)=some [.b f]/\If f ((0<=a/\a<l0)/\1=1/\ ∃g,Zb h c ((0:Nat)+a.toNat*1) 1=some [.b g]/\(0<=a/\a<l0)/\1=1/\ ∃i,Zb h c ((0:Nat)+a.toNat*1) 1=some [.b i]/\If i ((0<=a/\a<l0)/\1=1/\ ∃j,Zi h c ((0:Nat)+a.toNat*1) [.b true]=some j/\K .normal 41 [S (some (c,0)) l0 c0 1,J d n1 none, .b !g,I (wW (a+(1:Int)))] j) ((0<=a/\a<n1)/\ ∃j,Zs 1 (List.drop (a.toNat*1) d)=some [.b j]/\(0<=a/\a<l0)/\1=1/\ ∃l,Zi h c ((0:Nat)+a.toNat*1) [.b j]=some l/\K .normal 41 [S (some (c,0)) l0 c0 1,J d n1 none, .b !g,I (wW (a+(1:Int)))] l)) ((0<=a/\a<l0)/\1=1/\ ∃g,Zb h c ((0:Nat)+a.toNat*1) 1=some [.b g]/\If g ((0<=a/\a<l0)/\1=1/\ ∃i,Zi h c ((0:Nat)+a.toNat*1) [.b true]=some i/\K .normal 41 [S (some (c,0)) l0 c0 1,J d n1 none, .b false,I (wW (a+(1:Int)))] i) ((0<=a/\a<n1)/\ ∃i,Zs 1 (List.drop (a.toNat*1) d)=some [.b i]/\(0<=a/\a<l0)/\1=1/\ ∃j,Zi h c ((0:Nat)+a.toNat*1) [.b i]=some j/\K .normal 41 [S (some (c,0)) l0 c0 1,J d n1 none, .b false,I (wW (a+(1:Int)))] j)))) (K (.exit 0) 41 [S (some (c,0)) l0 c0 1,J d n1 none, .b e,I a] h)):=kr
theorem ZH7{a h}(K):CP vY_ 139 ((post (flat (Za Tryz.f139))).drop 1) (MZ 41 [5] [.b a]) h [4] K=(K .ret 41 [.b a] h):=kr
theorem ZH8{a c b n1 h}(K):CP vY_ 172 (pre (flat (Za Tryz.f172))) (J a c none::J b n1 none::Rp 19) h [0,1,5] K=(K .normal 21 [J a c none,J b n1 none,I 0] h):=kr
theorem ZH9{a n0 c n1 x5 h}(K):CP vY_ 172 (lp_ (flat (Za Tryz.f172))) (MZ 21 [0,1,5] [J a n0 none,J c n1 none,I x5]) h [0,1,4,5] K=(If (ltI x5 n0) ((0<=x5/\x5<n0)/\ ∃b,Zs 1 (List.drop (x5.toNat*1) a)=some [.b b]/\(0<=x5/\x5<n1)/\ ∃d,Zs 1 (List.drop (x5.toNat*1) c)=some [.b d]/\If (!b==d) (K .ret 21 [J a n0 none,J c n1 none, .b false,I x5] h) (K .normal 21 [J a n0 none,J c n1 none,Ud,I (wW (x5+(1:Int)))] h)) (K (.exit 0) 21 [J a n0 none,J c n1 none,Ud,I x5] h)):=kr
theorem ZIa{h}(K):CP vY_ 172 ((post (flat (Za Tryz.f172))).drop 1) (MZ 21 [] []) h [4] K=(K .ret 21 [.b true] h):=kr
theorem ZOz{k0 p0 p1 p2 p3 a n0 d e m0 s1 i2 b3 b4 h}(K):CP vY_ 61 (flat (Za Tryz.f61)) (.agg (R9 k0 p0 p1 p2 p3 a n0 none d e m0)::.s s1::I i2::.b b3::.b b4::Rp 24) h [10] K=(((0:Int)<=wW ((↑s1.length:Int)+(1:Int))/\wW ((↑s1.length:Int)+(1:Int))<=wW ((↑s1.length:Int)+(1:Int))/\wW ((↑s1.length:Int)+(1:Int))<=(most:Int)/\wW ((↑s1.length:Int)+(1:Int))*(↑(1:Nat):Int)<=(most:Int))/\ ∃c,(PCon vY_ 42 [.agg (R9 k0 p0 p1 p2 p3 a n0 none d e m0)] λv=>v=.b c)/\If (!c) (K .ret 29 [S (some (h.nx,0)) (wW ((↑s1.length:Int)+(1:Int))).toNat (some (wW ((↑s1.length:Int)+(1:Int))).toNat) 1] (h.push (YObj.arr (List.replicate (wW ((↑s1.length:Int)+(1:Int))).toNat [.b false]).flatten true))) (((0:Int)<=i2/\i2<(↑(wW ((↑s1.length:Int)+(1:Int))).toNat:Int))/\1=1/\ ∃f,Zi (h.push (YObj.arr (List.replicate (wW ((↑s1.length:Int)+(1:Int))).toNat [.b false]).flatten true)) h.nx ((0:Nat)+i2.toNat*1) [.b true]=some f/\Con vY_ 110 [.agg (R9 k0 p0 p1 p2 p3 a n0 none d e m0),.s s1,S (some (h.nx,0)) (wW ((↑s1.length:Int)+(1:Int))).toNat (some (wW ((↑s1.length:Int)+(1:Int))).toNat) 1,.b b3,.b b4] f fun(v:V) (k:Heap)=> ∃g i j,v=J g i j/\K .ret 29 [J g i j] k)):=kr
theorem XE(l:List Bool):(row Zl l).length=l.length:=by have:=Xf (f:=Zl) (k:=1) (λ_=>rfl) l;omega
theorem Zco(l:List Bool){i:Nat}(h:i<l.length):Zs 1 ((row Zl l).drop i)=some [.b l[i]]:=by
 have:=Xw (f:=Zl) (k:=1) (λ_=>rfl) h
 rwa [uY]at this
theorem Jy(l:List Bool){i:Nat}(h:i<l.length):Zs 1 (List.drop ((i:Int).toNat*1) (row Zl l))=some [.b l[i]]:=by rw[qdq,uY];exact Zco l h
theorem Zgr(b:Bool)(l):row Zl (b::l)=V.b b::row Zl l:=rfl
theorem Jz: ∀(l:List Bool) (i:Nat) (x:Bool),i<l.length->splice (row Zl l) i [.b x]=row Zl (l.set i x)
 | [],i,x,h=>by simp at h
 |b::l,0,x,h=>by rw[Zgr];rfl
 |b::l,i+1,x,h=>by
  rw[Zgr];show V.b b::splice (row Zl l) i [.b x]=_;rw[Jz l i x (su h)];rfl
theorem XZ(n:Nat):(List.replicate n [V.b false]).flatten=row Zl (Zy n):=by unfold row Zy;rw[List.map_replicate]
theorem Zna(l):ZZ (row Zl l)=true:=Jc (f:=Zl) (λ_=>rfl) l
theorem Zio: ∀ {x y:List Bool} (a b:Bool),x.length=y.length->XO (x++ [a]) (y++ [b])=XO x y++ [a||b]
 | [],[],a,b,_=>rfl
 |c::x,d::y,a,b,h=>by
  show(c||d)::XO (x++ [a]) (y++ [b])=(c||d)::XO x y++ [a||b]
  rw[Zio a b (su h)];rfl
theorem Zgs: ∀ {x y:List Bool} (a b:Bool),x.length=y.length->Xo (x++ [a]) (y++ [b])=(Xo x y||(b&& !a))
 | [],[],a,b,_=>by simp[Xo]
 |c::x,d::y,a,b,h=>by
  show((d&& !c)||Xo (x++ [a]) (y++ [b]))=(((d&& !c)||Xo x y)||(b&& !a))
  rw[Zgs a b (su h),Bool.or_assoc]
def JnI(a more:List Bool)(d:Nat)(c0:Option Nat)(h:Heap)(m:Nat)(e:List V)(c:Heap):Prop:=
 ∃i:Nat,e= [.sl (some (d,0)) a.length c0 1,lst Zl more, .b (Xo (a.take i) (more.take i)), .i .i64 (i:Nat)]/\i<=a.length/\m=a.length-i/\
  c.get d=some (.arr (row Zl (XO (a.take i) (more.take i)++a.drop i)) true)/\FrO h d c/\c.nx=h.nx
theorem JnI.step{a more:List Bool}{e:Nat}{c0:Option Nat}{h f:Heap}{i:Nat}(x:a.length=more.length)(g:i<a.length)(w:a.length<2 ^ 20)
  (r:f.get e=some (.arr (row Zl (XO (a.take i) (more.take i)++a.drop i)) true)) (p:FrO h e f) (t:f.nx=h.nx) {v n:Bool} (u:v=(a[i]||more[i]' om)) (k:n=(Xo (a.take i) (more.take i)||(more[i]' om&& !a[i]))):
  ∃o,Zi f e (0+(i:Int).toNat*1) [.b v]=some o/\JnI a more e c0 h (a.length-(i+1)) [.sl (some (e,0)) a.length c0 1,lst Zl more, .b n,I (wW ((i:Int)+1))] o:=by
 have l:(a.take i).length=i:=by rw[uO];omega
 have q:(more.take i).length=i:=by rw[uO];omega
 have m:(XO (a.take i) (more.take i)).length=i:=by rw[XY,l]
 have c:(XO (a.take i) (more.take i)++a.drop i).length=a.length:=by rw[qf,m,vD];omega
 refine⟨_,ZL r (by rw[XE,c];simp;omega),i+1,?_,om,rfl,?_,?_,?_⟩;rw[Ze om,qa g,qa om,Zgs _ _ (by rw[l,q]),k]
 .rw[qc,uF rfl,show 0+(i:Int).toNat*1=i from sm,Jz _ _ _ (by rw[c];exact g)]
  congr 3
  rw[qa g,qa om,Zio _ _ (by rw[l,q]),uM g,List.set_append_right _ _ (by rw[m];exact qnq _),m,vM,List.set_cons_zero,u,uU]
  rfl
 .exact⟨by rw[Heap.nx_set];exact p.1,λj s d=>by rw[qc,uE d];exact p.2 j s d⟩
 .rw[Heap.nx_set,t]
theorem ZIb{c more:List Bool}{r:Nat}{c0:Option Nat}{h:Heap}(y:c.length=more.length)(E:c.length<2 ^ 20)(G:h.get r=some (.arr (row Zl c) true)):
  Con vY_ 139 [.sl (some (r,0)) c.length c0 1,lst Zl more] h λv x=>v= .b (Xo c more)/\x.get r=some (.arr (row Zl (XO c more)) true)/\FrO h r x/\x.nx=h.nx:=by
 refine Zx vK_ (fn:=Tryz.f139) ?_;refine Zh vK_ 41 ZH5 rfl ?_;refine⟨rfl,ZM [0,1,5,6] [0,1,5,6] (JnI c more r c0 h) c.length ZA ⟨0,rfl,om,rfl,G,⟨qnq _,λ_ _ _=>rfl⟩,rfl⟩ ?_⟩;rintro m L D ⟨i,rfl,K,rfl,l,s,u⟩;refine Zm vK_ ZH6 rfl ?_;refine Zq (λa=> ?_) (λH=> ?_)
 .have n:i<more.length:=om;have z:(XO (c.take i) (more.take i)).length=i:=by rw[XY,uO];omega
  have t:i<(XO (c.take i) (more.take i)++c.drop i).length:=by rw[qf,z,vD];omega
  have d:Zb D r (0+(i:Int).toNat*1) 1=some [.b c[i]]:=by
   rw[Zr l,show 0+(i:Int).toNat*1=i from sm,Zco _ t,List.getElem_append_right om];simp[z]
  have w:=Jy more n;have f:=fun(v C:Bool) (A:v=(c[i]||more[i])) (B:C=(Xo (c.take i) (more.take i)||(more[i]&& !c[i])))=>JnI.step (c0:=c0) y a E l s u A B
  have g:c.length-(i+1)<c.length-i:=om;refine Zf (λe=> ?_) (λe=> ?_);refine⟨Zu a,rfl,_,d,Zf (λk=> ?_) (λk=>⟨Zu n,_,w,Zu a,rfl,?_⟩)⟩;obtain⟨j,p,q⟩:=f true true (by rw[k];rfl) (by rw[e];rfl);exact⟨Zu a,rfl,j,p,rfl,_,g,q⟩;obtain⟨j,p,q⟩:=f more[i] true (by rw[k];rfl) (by rw[e];rfl);exact⟨j,p,rfl,_,g,q⟩;refine⟨Zu n,_,w,Zf (λo=>⟨Zu a,rfl,_,d,Zu a,rfl,_,d,Zf (λk=> ?_) (λk=>⟨Zu n,_,w,Zu a,rfl,?_⟩)⟩) (λo=>⟨Zu a,rfl,_,d,Zf (λk=> ?_) (λk=>⟨Zu n,_,w,Zu a,rfl,?_⟩)⟩)⟩;obtain⟨j,p,q⟩:=f true (!c[i]) (by rw[k];rfl) (by rw[e,o];rfl);exact⟨Zu a,rfl,j,p,rfl,_,g,q⟩;obtain⟨j,p,q⟩:=f more[i] (!c[i]) (by rw[k];rfl) (by rw[e,o];rfl);exact⟨j,p,rfl,_,g,q⟩;obtain⟨j,p,q⟩:=f true false (by rw[k];rfl) (by rw[e,o];rfl);exact⟨Zu a,rfl,j,p,rfl,_,g,q⟩;obtain⟨j,p,q⟩:=f more[i] false (by rw[k];rfl) (by rw[e,o];rfl);exact⟨j,p,rfl,_,g,q⟩
 .have F:i=c.length:=om;subst F;rw[qm,y,qm,<-y]at l ⊢;rw[List.drop_length,qi]at l;refine Zj [5] ?_;refine Zo vK_ ZH7 rfl ?_;exact finC rr rfl (.now ⟨rfl,l,s,u⟩)
theorem ZB4(a b:List Bool)(o:a.length=b.length)(p:a.length<2 ^ 20):PCon vY_ 172 [lst Zl a,lst Zl b] (· = .b (a==b)):=by
 refine ZF vK_ (fn:=Tryz.f172) rfl ?_;refine Zh vK_ 21 ZH8 rfl ?_;refine⟨rfl,ZM [0,1,5] [0,1,4,5] (λm k _=> ∃i:Nat,k= [lst Zl a,lst Zl b,I (i:Nat)]/\i<=a.length/\m=a.length-i/\a.take i=b.take i) a.length ZA ⟨0,rfl,om,rfl,rfl⟩ ?_⟩;rintro m k h ⟨i,rfl,q,rfl,j⟩;refine Zm vK_ ZH9 rfl ?_;refine Zq (λd=> ?_) (λn=> ?_)
 .have c:i<b.length:=om;refine⟨Zu d,_,Jy a d,Zu c,_,Jy b c,Zf (λg=> ?_) (λf=> ?_)⟩
  .refine Xc rr rfl ⟨_, .b _,?_⟩;have:(a==b)=false:=by
    rw[Bool.eq_false_iff];intro e;have e:=eq_of_beq e;subst e;simp at g
   rw[this]
  .refine⟨rfl,a.length-(i+1),om,i+1,by rw[Ze om];rfl,om,rfl,?_⟩;rw[qa d,qa c,j];have:a[i]=b[i]:=su f;rw[this]
 .have l:i=a.length:=om;subst l;rw[qm,o,qm]at j;refine Zj [] ?_;refine Zo vK_ ZIa rfl ?_;exact ZB rr rfl (.b _) (by rw[j];simp)
theorem ZB5{k0 p0 p1 p2 p3 a n0 c d m0 s1 e n2 b3 b4 h}(K):CP vY_ 140 (pre B_140) (.agg (R9 k0 p0 p1 p2 p3 a n0 none c d m0)::.s s1::J e n2 none::.b b3::.b b4::Rp 79) h [1,3,4,5,9,11,12,13] K=(((0:Int)<=wW ((↑s1.length:Int)+(1:Int))/\wW ((↑s1.length:Int)+(1:Int))<=wW ((↑s1.length:Int)+(1:Int))/\wW ((↑s1.length:Int)+(1:Int))<=(most:Int)/\wW ((↑s1.length:Int)+(1:Int))*(↑(1:Nat):Int)<=(most:Int))/\ ∃f g,Zlk vY_ (h.push (YObj.arr (List.replicate (wW ((↑s1.length:Int)+(1:Int))).toNat [.b false]).flatten true)) 4 (S (some (h.nx,0)) (wW ((↑s1.length:Int)+(1:Int))).toNat (some (wW ((↑s1.length:Int)+(1:Int))).toNat) 1) (J e n2 none)=some (f,g)/\K .normal 84 [.s s1, .b b3, .b b4, .lb (R9 k0 p0 p1 p2 p3 a n0 none c d m0),Ud,S (some (h.nx,0)) (wW ((↑s1.length:Int)+(1:Int))).toNat (some (wW ((↑s1.length:Int)+(1:Int))).toNat) 1, .b false,I 0] f):=kr
theorem ZB6{k0 p0 p1 p2 p3 a k d j m0 s1 b3 b4 e f m g h}(K):CP vY_ 140 (lp_ B_140) (MZ 84 [1,3,4,5,9,11,12,13] [.s s1,.b b3,.b b4,.lb (R9 k0 p0 p1 p2 p3 a k none d j m0),V.undef,J e f none,.b m,I g]) h [1,3,4,5,9,11,12,13] K=((λA=>If (ltI g d) (If (!m) (((0:Int)<=(0:Int)/\(0:Int)<(k:Int))/\ ∃c i l n o p q r t u w,Zs 9 a=some (R9 c i l n o p q r t u w)/\Con vY_ 110 [.agg (R9 c i l n o p q r t u w),.s s1,J e f none,.b b3,.b b4] h fun(v:V) (C:Heap)=> ∃x y z,v=J x y z/\ ∃B,(PCon vY_ 172 [J e f none,J x y z] fun(v:V)=>v=.b B)/\K .normal 84 [.s s1, .b b3, .b b4, .lb (R9 k0 p0 p1 p2 p3 a k none d j m0),Ud,J x y z, .b B,I (wW (g+(1:Int)))] C) A) A) (K (.exit 0) 84 [.s s1, .b b3, .b b4, .lb (R9 k0 p0 p1 p2 p3 a k none d j m0),Ud,J e f none, .b m,I g] h)):=kr
theorem ZB7{k0 p0 p1 p2 p3 e n0 a f m0 s1 c d g j h}(K):CP vY_ 140 (pre ((post B_140).drop 1)) (MZ 84 [1,3,4,5,9,11] [.s s1,.b g,.b j,.lb (R9 k0 p0 p1 p2 p3 e n0 none a f m0),V.undef,J c d none]) h [1,3,4,5,9,11,15,16,17] K=(((0:Int)<=wW ((↑s1.length:Int)+(1:Int))/\wW ((↑s1.length:Int)+(1:Int))<=wW ((↑s1.length:Int)+(1:Int))/\wW ((↑s1.length:Int)+(1:Int))<=(most:Int)/\wW ((↑s1.length:Int)+(1:Int))*(↑(1:Nat):Int)<=(most:Int))/\Con vY_ 139 [S (some (h.nx,0)) (wW ((↑s1.length:Int)+(1:Int))).toNat (some (wW ((↑s1.length:Int)+(1:Int))).toNat) 1,J c d none] (h.push (YObj.arr (List.replicate (wW ((↑s1.length:Int)+(1:Int))).toNat [.b false]).flatten true)) fun(v:V) (k:Heap)=> ∃i,v=.b i/\K .normal 84 [.s s1, .b g, .b j, .lb (R9 k0 p0 p1 p2 p3 e n0 none a f m0),Ud,J c d none,S (some (h.nx,0)) (wW ((↑s1.length:Int)+(1:Int))).toNat (some (wW ((↑s1.length:Int)+(1:Int))).toNat) 1, .b i,I a] k):=kr
theorem ZB8{k0 p0 p1 p2 p3 a k m d m0 s1 b3 b4 o p e f g q j h}(K):CP vY_ 140 (lp_ ((post B_140).drop 1)) (MZ 84 [1,3,4,5,9,11,15,16,17] [.s s1,.b b3,.b b4,.lb (R9 k0 p0 p1 p2 p3 a k none m d m0),V.undef,J o p none,S (some (e,0)) f (some g) 1,.b q,I j]) h [1,3,4,5,9,11,15,16,17] K=((λF=>(λE=>If (ltI d 0) E (If (ltI j d) E F)) (If q (((0:Int)<=(0:Int)/\(0:Int)<(k:Int))/\ ∃c i l n r t u w x y z,Zs 9 a=some (R9 c i l n r t u w x y z)/\Con vY_ 110 [.agg (R9 c i l n r t u w x y z),.s s1,J o p none,.b b3,.b b4] h fun(v:V) (D:Heap)=> ∃A B C,v=J A B C/\Con vY_ 139 [S (some (e,0)) f (some g) 1,J A B C] D fun(v:V) (D:Heap)=> ∃G,v=.b G/\K .normal 84 [.s s1, .b b3, .b b4, .lb (R9 k0 p0 p1 p2 p3 a k none m d m0),Ud,J A B C,S (some (e,0)) f (some g) 1, .b G,I (wW (j+(1:Int)))] D) F)) (K (.exit 2) 84 [.s s1, .b b3, .b b4, .lb (R9 k0 p0 p1 p2 p3 a k none m d m0),Ud,J o p none,S (some (e,0)) f (some g) 1, .b q,I j] h)):=kr
theorem ZB9{a b c h}(K):CP vY_ 140 ((post ((post B_140).drop 1)).drop 1) (MZ 84 [15] [S (some (a,0)) b (some c) 1]) h [10] K=(K .ret 84 [S (some (a,0)) b (some c) 1] h):=kr
theorem ZIc{h:Heap}{g n:Nat}{c:Option Nat}{x:Option Nat}(a e:List Bool)(m:h.get g=some (.arr (row Zl e) true))(i:a.length=n)(p:e.length=n):
  ∃k,Zlk vY_ h 4 (.sl (some (g,0)) n c 1) (.ts (row Zl a) a.length x)=some (h.set g (some (.arr (row Zl a) true)),k):=by
 have f:vY_.ty 4=some ⟨1,1, .bool,[.b false]⟩:=kr;have j:QS ⟨[],[],h⟩ 1 (.ts (row Zl a) a.length x)=some (a.length,row Zl a):=by
  simp only[QS,XS];rw[ZC (by rw[XE];omega)];rfl
 have d: ∀l:List Bool,Zp (row Zl l)=true:=by
  intro l
  induction l with
  |nil=>rfl
  |cons b l o=>rw[Zgr];exact o
 refine⟨min a.length n,?_⟩;unfold Zlk;simp only[f,j,m];rw[i,Nat.min_self,uY,qt (by rw[XE];omega)];rw[uF ⟨trivial,dc,d a⟩,uF (by rw[XE,XE];omega),Qv,qB (by rw[XE,XE];omega),qi]
theorem frzB{h:Heap}{a n:Nat}{c}{D:List Nat}(l:List Bool)(d:h.get a=some (.arr (row Zl l) true))(e:n=l.length)(b:a∈D):Frz (Vi h D) (.sl (some (a,0)) n c 1) (lst Zl l):=by subst e;exact .sl _ _ _ _ _ (row Zl l) true (row Zl l) _ none (by rw[QK,uF b,d]) (by rw[ql];exact ZC (by rw[XE];omega)) (λx f=>by cases f) dc (Xa _ (Zna l))
theorem ZCa{h:Heap}{a n:Nat}{c}(l:List Bool)(b:h.get a=some (.arr (row Zl l) true))(d:n=l.length):Frz h (.sl (some (a,0)) n c 1) (lst Zl l):=by
 subst d;exact .sl _ _ _ _ _ (row Zl l) true (row Zl l) _ none b (by rw[ql];exact ZC (by rw[XE];omega)) (λx e=>by cases e) dc (Xa _ (Zna l))
def OvR(s:List UInt8)(c d:Bool)(r:Re):Prop:= ∀a:List Bool,a.length=s.length+1->
 PCon vY_ 110 [.agg (Zd r), .s s,lst Zl a, .b c, .b d] (· =lst Zl (overF s c d r a))
theorem OvR.con{s:List UInt8}{c d:Bool}{r}(o:OvR s c d r){a:List Bool}(f:a.length=s.length+1)(h):Con vY_ 110 [.agg (Zd r), .s s,lst Zl a, .b c, .b d] h λv e=>v=lst Zl (overF s c d r a)/\e=XP h []:=
 Con.ofP [] (FrzAL.refl _) (o a f)
theorem Zkh{to more:List Bool}{a:Nat}{c0:Option Nat}{h:Heap}{n:Nat}(g:n=to.length)(f:to.length=more.length)(d:to.length<2 ^ 20)(e:h.get a=some (.arr (row Zl to) true)):
  Con vY_ 139 [.sl (some (a,0)) n c0 1,lst Zl more] h λv c=>v= .b (Xo to more)/\c.get a=some (.arr (row Zl (XO to more)) true)/\FrO h a c/\c.nx=h.nx:=by
 subst g;exact ZIb f d e
def RepI(s:List UInt8)(e g:Bool)(R:List V)(f:List Bool->List Bool)(d:Int)(c:List Bool)(m:Nat)(h:List V)(_:Heap):Prop:=
 ∃(i:Nat) (a:List Bool) (b:Bool),h= [.s s, .b e, .b g, .lb R, .undef,lst Zl a, .b b, .i .i64 (i:Nat)]/\a.length=s.length+1/\(i:Int)<=d/\m=d.toNat-i/\
  (if b=true then a=c else rep1 f (d.toNat-i) a=c)
def RepJ(s:List UInt8)(g j:Bool)(R:List V)(f:List Bool->List Bool)(l k:Int)(d:List Bool)(m:Nat)(n:List V)(h:Heap):Prop:=
 ∃(i:Nat) (a c:List Bool) (b:Bool) (e:Nat),n= [.s s, .b g, .b j, .lb R, .undef,lst Zl a, .sl (some (e,0)) (s.length+1) (some (s.length+1)) 1, .b b, .i .i64 (i:Nat)]/\a.length=s.length+1/\c.length=s.length+1/\
  h.get e=some (.arr (row Zl c) true)/\rep2 f k m (i:Nat) a c b=d/\Zed c+(if b=true then 1 else 0)<=m/\i+m<=l.toNat+s.length+3
theorem Zyq{s:List UInt8}{D E:Bool}(hs:s.length<2 ^ 19){set:Set4}{x}{u hi n:Int}(h0:0<=u)(h8:u<=8)(hx:OvR s D E x){Y:List Bool}(hl:Y.length=s.length+1):
  PCon vY_ 140 [.agg (Zd (.mk 6 set [x] u hi n)), .s s,lst Zl Y, .b D, .b E] (· =lst Zl (VB (overF s D E x) (s.length+1) u hi Y)):=by
 obtain⟨z,y,A,l,j,B⟩:=x;have hf:=λt=>Jx s D E (.mk z y A l j B) t;have a2:Zs 9 (row Zd [Re.mk z y A l j B])=some (Zd (.mk z y A l j B)):=by
  have:row Zd [Re.mk z y A l j B]=Zd (.mk z y A l j B):=by simp[row]
  rw[this,Zn];rfl
 rw[Zn]at a2;generalize b0:overF s D E (.mk z y A l j B)=f at hf;have K: ∀(a:List Bool) (h:Heap),a.length=s.length+1->Con vY_ 110 [.agg [I z,U y.1,U y.2.1,U y.2.2.1,U y.2.2.2,lst Zd A,I l,I j,I B], .s s,lst Zl a, .b D, .b E] h λv h'=>v=lst Zl (f a)/\h'=h:=λa h hn=>by
  have:=hx.con hn h;rw[Zn,b0]at this;exact this
 rw[Zn];refine ZF vK_ (fn:=Tryz.f140) rfl ?_;refine Zh vK_ 84 ZB5 rfl ?_;have hw:wW ((s.length:Int)+1)=((s.length+1:Nat):Int):=Ze om;have b6:most=1099511627776:=dc;rw[hw,qdq,XZ];have gp: ∀h:Heap,(h.push (.arr (row Zl (Zy (s.length+1))) true)).get h.nx=some (.arr (row Zl (Zy (s.length+1))) true):=λh=>by rw[qk,uF rfl]
 obtain⟨kk,a9⟩:=ZIc (c:=some (s.length+1)) (x:=none) Y _ (gp .empty) hl sm;refine⟨⟨om,om,om,om⟩,_,_,a9,rfl,?_⟩;have a8:((Heap.empty.push (.arr (row Zl (Zy (s.length+1))) true)).set Heap.empty.nx (some (.arr (row Zl Y) true))).get Heap.empty.nx=some (.arr (row Zl Y) true):=by rw[qc,uF rfl]
 refine Zcn [Heap.empty.nx] [1,3,4,5,9,11,12,13] kr (.cons _ _ _ _ (.same _) (.cons _ _ _ _ (.same _) (.cons _ _ _ _ (.same _) (.cons _ _ _ _ (.same _) (.cons _ _ _ _ (.same _) (.cons _ _ _ _ (.frz _ _ (frzB Y a8 hl.symm sm)) (.cons _ _ _ _ (.same _) (.cons _ _ _ _ (.same _) .nil)))))))) ?_;unfold VB;obtain⟨w,W⟩: ∃w,w=rep1 f u.toNat Y:=⟨_,rfl⟩;rw[<-W];have c9:w.length=s.length+1:=by rw[W];exact Zkd hf _ _ hl
 refine ZM [1,3,4,5,9,11,12,13] [1,3,4,5,9,11,12,13] (RepI s D E [I 6,U set.1,U set.2.1,U set.2.2.1,U set.2.2.2,lst Zd [Re.mk z y A l j B],I u,I hi,I n] f u w) u.toNat ZA ⟨0,Y,false,rfl,hl,h0,rfl,W.symm⟩ ?_;rintro m vs h ⟨i,a,b,rfl,O,c2,rfl,g⟩;refine Zm vK_ ZB6 rfl ?_;have a7:a=w->XF vY_ 84 [1,3,4,5,9,11,12,13] [1,3,4,5,9,11,12,13] (RepI s D E [I 6,U set.1,U set.2.1,U set.2.2.1,U set.2.2.2,lst Zd [Re.mk z y A l j B],I u,I hi,I n] f u w) (u.toNat-i) (Xb (post B_140)) ((post B_140).drop 1)
   (FinS vY_ Tryz.f140 λv h=> ∃r,Frz h v r/\r=lst Zl (rep2 f hi (s.length+1+2) u w (XO (Zy (s.length+1)) w) (Xo (Zy (s.length+1)) w))) (.exit 0) 84 [.s s, .b D, .b E, .lb [I 6,U set.1,U set.2.1,U set.2.2.1,U set.2.2.2,lst Zd [Re.mk z y A l j B],I u,I hi,I n], .undef,lst Zl a, .b b,I i] h:=λe=>by
  subst e;refine Zj [1,3,4,5,9,11] ?_;refine Zh vK_ 84 ZB7 rfl ?_;rw[hw,qdq,XZ];refine⟨⟨om,om,om,om⟩,(Zkh (n:=s.length+1) (c0:=some (s.length+1)) (to:=Zy (s.length+1)) (more:=a) sm (by rw[O];simp) (by simp;omega) (gp h)).mono λv h1 ⟨hv,b1,b8,c7⟩=>⟨_,hv,rfl,?_⟩⟩;have hj:=Wx (Zy (s.length+1)) a;have c6:=Zkg (Zy (s.length+1));have c5:(Zy (s.length+1)).length=s.length+1:=sm;obtain⟨q,rfl⟩: ∃k:Nat,u=(k:Nat):=⟨u.toNat,om⟩;refine ZM [1,3,4,5,9,11,15,16,17] [1,3,4,5,9,11,15,16,17] (RepJ s D E [I 6,U set.1,U set.2.1,U set.2.2.1,U set.2.2.2,lst Zd [Re.mk z y A l j B],I q,I hi,I n] f (q:Nat) hi _) (s.length+1+2) ZA
   ⟨q,a,XO (Zy (s.length+1)) a,Xo (Zy (s.length+1)) a,h.nx,rfl,O,by rw[XY];simp,b1,rfl,?_,by rw[qdq];omega⟩ ?_
  .cases a5:Xo (Zy (s.length+1)) a;simp;omega;have:=hj.2 a5;simp;omega
  rintro m2 d0 h2 ⟨X,d,C,b2,a3,rfl,P,F,a6,o,a4,b4⟩;refine Zm vK_ ZB8 rfl ?_;have c1:X<2 ^ 40:=by rw[qdq]at b4;omega
  have fin2:(¬((hi<0\/(X:Int)<hi)/\b2=true))->XF vY_ 84 [1,3,4,5,9,11,15,16,17] [1,3,4,5,9,11,15,16,17] (RepJ s D E [I 6,U set.1,U set.2.1,U set.2.2.1,U set.2.2.2,lst Zd [Re.mk z y A l j B],I q,I hi,I n] f (q:Nat) hi (rep2 f hi (s.length+1+2) (q:Nat) a (XO (Zy (s.length+1)) a) (Xo (Zy (s.length+1)) a))) m2 (Xb (post ((post B_140).drop 1))) ((post ((post B_140).drop 1)).drop 1)
    (FinS vY_ Tryz.f140 λv h=> ∃r,Frz h v r/\r=lst Zl (rep2 f hi (s.length+1+2) (q:Nat) a (XO (Zy (s.length+1)) a) (Xo (Zy (s.length+1)) a))) (.exit 2) 84 [.s s, .b D, .b E, .lb [I 6,U set.1,U set.2.1,U set.2.2.1,U set.2.2.2,lst Zd [Re.mk z y A l j B],I q,I hi,I n], .undef,lst Zl d, .sl (some (a3,0)) (s.length+1) (some (s.length+1)) 1, .b b2,I X] h2:=λb7=>by
   refine Zj [15] ?_;refine Zo vK_ ZB9 rfl ?_;refine ZB rr rfl (ZCa C a6 F.symm) ?_
   cases m2 with
   |zero=>rw[rep2]at o;rw[<-o]
   |succ k=>rw[rep2,uE b7]at o;rw[<-o]
  have H:b2=true->(hi<0\/(X:Int)<hi)->(((0:Int)<=(0:Int)/\(0:Int)<(([Re.mk z y A l j B].length:Nat):Int))/\True)/\1<=m2/\Zed C+1<=m2:=λp _=>by
   rw[uF p]at a4;exact⟨⟨⟨om,sm⟩,trivial⟩,om,a4⟩
  have next: ∀(Z:hi<0\/(X:Int)<hi) (p:b2=true) (v1:V) (G:Heap),G=h2->Con vY_ 139 [.sl (some (a3,0)) (s.length+1) (some (s.length+1)) 1,lst Zl (f d)] G λv h'=> ∃b,v= .b b/\
    (84=84/\ ∃m',m'<m2/\RepJ s D E [I 6,U set.1,U set.2.1,U set.2.2.1,U set.2.2.2,lst Zd [Re.mk z y A l j B],I q,I hi,I n] f (q:Nat) hi (rep2 f hi (s.length+1+2) (q:Nat) a (XO (Zy (s.length+1)) a) (Xo (Zy (s.length+1)) a)) m'
     [.s s, .b D, .b E, .lb [I 6,U set.1,U set.2.1,U set.2.2.1,U set.2.2.2,lst Zd [Re.mk z y A l j B],I q,I hi,I n], .undef,lst Zl (f d), .sl (some (a3,0)) (s.length+1) (some (s.length+1)) 1, .b b,I (wW ((X:Int)+1))] h'):=λZ p v1 G e=>by
   subst e;obtain⟨_,c3,c4⟩:=H p Z;obtain⟨k,rfl⟩: ∃k,m2=k+1:=⟨m2-1,om⟩;have L:=hf d P;rw[rep2,uF ⟨Z,p⟩]at o;have b5:=Wx C (f d);refine(Zkh (n:=s.length+1) (c0:=some (s.length+1)) (to:=C) (more:=f d) F.symm (by rw[F,L]) om a6).mono λv h4 ⟨hv,b3,b9,c8⟩=>⟨_,hv,rfl,k,om,X+1,f d,XO C (f d),Xo C (f d),a3,?_,L,by rw[XY];exact F,b3,?_,?_,om⟩;rw[Ze om];rw[<-o];rfl;cases a5:Xo C (f d);simp;omega;have:=b5.2 a5;simp;omega
  refine Zf (λN=>Zf (λp=> ?_) (λp=>fin2 (λh=>by rw[p]at h;exact absurd h.2 dc))) (λN=>Zf (λa1=>Zf (λp=> ?_) (λp=>fin2 (λh=>by rw[p]at h;exact absurd h.2 dc))) (λa0=>fin2 (λh=> ?_)));have Z:hi<0\/(X:Int)<hi:= .inl (by simpa[ltI]using N);refine⟨(H p Z).1.1,_,_,_,_,_,_,_,_,_,_,_,a2,(K d h2 P).mono λv G ⟨hv,hh⟩=>⟨_,_,_,hv,next Z p v G hh⟩⟩;have Z:hi<0\/(X:Int)<hi:= .inr (by simpa[ltI]using a1);refine⟨(H p Z).1.1,_,_,_,_,_,_,_,_,_,_,_,a2,(K d h2 P).mono λv G ⟨hv,hh⟩=>⟨_,_,_,hv,next Z p v G hh⟩⟩
  .have h1: ¬hi<0:=by simpa[ltI]using N
   have h2: ¬(X:Int)<hi:=by simpa[ltI]using a0
   rcases h.1 with G|G;exact h1 G;exact h2 G
 refine Zf (λa1=> ?_) (λa0=>a7 ?_)
 .have a1:(i:Int)<u:=by simpa[ltI]using a1
  refine Zf (λp=> ?_) (λp=>a7 ?_);have p:b=false:=su p;subst p;obtain⟨k,hk⟩: ∃k,u.toNat-i=k+1:=⟨u.toNat-i-1,om⟩;rw[hk,rep1]at g;have L:=hf a O;refine⟨⟨om,sm⟩,_,_,_,_,_,_,_,_,_,_,_,a2,(K a h O).mono λv G ⟨hv,hh⟩=>⟨_,_,_,hv,_,ZB4 a (f a) (by rw[O,L]) om,rfl,k,om,i+1,f a,(a==f a),?_,L,om,om,?_⟩⟩;rw[Ze om];rfl;rw[show u.toNat-(i+1)=k from om];simp only[uI,vF]at g;split at g;rename_i e;rw[uF e];exact g;rename_i e;rw[uE e];exact g;have p:b=true:=su p;rw[uF p]at g;exact g
 .have a0: ¬(i:Int)<u:=by simpa[ltI]using a0
  by_cases p:b=true;rw[uF p]at g;exact g;rw[uE p,show u.toNat-i=0 from om,rep1]at g;exact g
end Go.Y
