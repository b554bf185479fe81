/- A part of the proof. -/
import Derived.Test.YteennilbmmlikaaGreatDoorGRule
import Derived.Test.YteennilbmmlikaaGreatDoorYLoop
import Derived.Test.YteennilbmmlikaaGreatDoorGTrA
import Derived.Test.YteennilbmmlikaaGreatDoorYAny3
import Derived.Test.YteennilbmmlikaaGreatDoorNTa
namespace Go.Y
set_option maxRecDepth 1000000
set_option maxHeartbeats 0
mutual
inductive WkD:V->V->Prop
 |same (v:V):WkD v v
 |nil (c:Option Nat) (k:Nat):WkD (.sl none 0 c k) (.ts [] 0 none)
 |ts (cs cs':List V) (n:Nat) (c:Option Nat) (h:WkDs cs cs'):WkD (.ts cs n c) (.ts cs' n none)
 |agg (cs cs':List V) (h:WkDs cs cs'):WkD (.agg cs) (.agg cs')
inductive WkDs:List V->List V->Prop
 |nil:WkDs [] []
 |cons (v v':V) (l l':List V) (h:WkD v v') (hl:WkDs l l'):WkDs (v::l) (v'::l')
end
mutual
theorem WkD.vr{W}{v v'}(h:WkD v v'){u}(r:VR W v u):VR W v' u:=by
 cases h with
 |same=>exact r
 |nil c k=>cases r;exact .tsz _ (λc h=>by cases h)
 |ts o f n c h=>
  cases r with
  |tsn _ _ a b i g=>cases h;exact .tsn _ _ a b i (λc h=>by cases h)
  |tsz _ g=>cases h;exact .tsz _ (λc h=>by cases h)
  |ts _ _ _ b d j c e p m i l t g s=>exact .ts _ _ _ b d j c e p m i (λc h=>by cases h) t g (WkDs.vr h s)
 |agg o f h=>cases r with|agg _ m q=>exact .agg _ _ (WkDs.vr h q)
theorem WkDs.vr{W}{l a}(h:WkDs l a){b:List Value}(r:VRs W l b):VRs W a b:=by
 cases h with
 |nil=>cases r;exact .nil
 |cons v v' l a h e=>cases r with|cons _ _ _ _ c d=>exact .cons _ _ _ _ (WkD.vr h c) (WkDs.vr e d)
end
theorem PCon.wkD{Y}{f}{args args'}{P:V->Prop}(d:WkDs args args')(h:PCon Y f args' P):PCon Y f args P:=
 ⟨h.body,λW w e b a c=>h.tr W w e b a (d.vr c)⟩
end Go.Y
namespace Go.Y
open Go.Proofs
set_option maxRecDepth 1000000
set_option maxHeartbeats 0
theorem LX.frz{o:Type}{f:o->List V}{k:Nat}{h}{a}{l:Nat}{c}{n:Nat}{b:List o}(s:k≠0)(i: ∀x,(f x).length=k)(e: ∀x,ZZ (f x)=true)(j:LX f k h a l c n b):
  Frz h (.sl a l c n) (lst f b):=by
 have d:=j.len;by_cases g:b= [];have p:=j.nil g;subst g p d;exact .sln _ _ _ (λx m=>by cases m);obtain⟨t,rfl,rfl,r,q,_⟩:=j.cells g;subst d;exact .sl _ _ _ _ _ (row f b) true (row f b) _ _ q (by rw[ql];exact ZC (Xf i b).symm) (λx m=>by cases m) s (Xa _ (Jc e b))
theorem Vz(x){f}{args}(c:PCon UY f args (· = .agg (Zd x))){K:Int->Int->Int->Int->Int->List V->Nat->Option Nat->Int->Int->Int->Prop}
  (u: ∀k q r s t a l m p o n,Zd x= [I k,U q,U r,U s,U t, .ts a l m,I p,I o,I n]->K k q r s t a l m p o n):
  ∃n b d e g a l c h i j,(PCon UY f args λv=>v= .agg [I n,U b,U d,U e,U g, .ts a l c,I h,I i,I j])/\K n b d e g a l c h i j:=by
 obtain⟨A,D,B,z,y,C⟩:=x;exact⟨_,_,_,_,_,_,_,_,_,_,_,c.mono λv w=>by rw[w];exact ZJ _ _ _ _ _ _,u _ _ _ _ _ _ _ _ _ _ _ (Zn _ _ _ _ _ _)⟩
theorem Zo2(h)(x:Re){cs}(a:Zd x=cs):Frz h (.agg cs) (.agg (Zd x)):=by rw[<-a];exact Zcg h x
theorem Zxo(b a:Int)(e:0<=b/\b<256)(d:0<=a/\a<256):PCon UY 94 [.ts [.i .u8 b, .i .u8 a] 1 (some 1)] (· = .agg (Zd (Vv [⟨b,a⟩]))):=
 PCon.wkD (.cons _ _ _ _ (.ts _ _ _ _ (.cons _ _ _ _ (.same _) (.cons _ _ _ _ (.same _) .nil))) .nil) (ZDq [⟨b,a⟩] sm (λx c=>by simp at c;subst c;exact⟨e,d⟩))
theorem anyT:PCon UY 100 [] (· = .agg (Zd Vx)):=by refine Zv UK (fn:=Tryz.f100) rfl ZLx rfl ?_;have h:=Zxo 0 255 dc dc;rw[Zth]at h;exact Vz Vx h λk f g i j c l b e d n a=>ZB rr rfl (Zo2 _ _ a) rfl
theorem ZGo:PCon UY 53 [] (· = .agg (Zd ZU)):=by
 refine Zv UK (fn:=Tryz.f53) rfl ZRu rfl ?_;refine Vz Vx anyT λk h j m o d l c g f n a=>ZB rr rfl ?_ rfl;have e:Zd ZU= [I 6,U 0,U 0,U 0,U 0,lst Zd [Vx],I 0,I (-1),I 0]:=by unfold ZU;rw[Zn]
 rw[e,Zot,a];exact .agg _ _ (.cons _ _ _ _ (.i _ _) (.cons _ _ _ _ (.i _ _) (.cons _ _ _ _ (.i _ _) (.cons _ _ _ _ (.i _ _) (.cons _ _ _ _ (.i _ _) (.cons _ _ _ _ (.ts _ _ _ none (λx b=>by cases b)) (.cons _ _ _ _ (.i _ _) (.cons _ _ _ _ (.i _ _) (.cons _ _ _ _ (.i _ _) .nil)))))))))
theorem ZDs(s:List UInt8)(B:s.length<2 ^ 28):PCon UY 44 [.s s] (· =lst Zd (Xl s)):=by
 refine ZF UK (fn:=Tryz.f44) rfl ?_;refine Zh UK 24 ZRo rfl ?_;refine⟨rfl,ZM [0,3,6,7] [0,3,6,7] (λm q h=> ∃(i:Nat) (a:Option (Nat×Nat)) (l:Nat) (c:Option Nat) (k:Nat),q= [.s s, .sl a l c k,I (s.length:Nat),I (i:Nat)]/\i<=s.length/\m=s.length-i/\LX Zd 9 h a l c k (Xl (s.take i))) s.length ZA ⟨0,none,0,some 0,0,rfl,om,om,LX.start _ _ _ _ _⟩ ?_⟩;rintro m q h ⟨i,a,l,c,k,rfl,A,rfl,e⟩;refine Zm UK ZRp rfl ?_;refine Zq (λb=> ?_) (λt=> ?_);have z:=s[i].toNat_lt;have d:=Zxo (s[i].toNat:Nat) (s[i].toNat:Nat) ⟨om,om⟩ ⟨om,om⟩;rw[Ztg]at d;refine⟨s[i],Za4 b,s[i],Za4 b,Vz (Ws s[i]) d λC H K L N y D x E u n f=> ?_⟩;obtain⟨g,p,j,o,r,v,w,F,G⟩:=Zhy (Ws s[i]) f e (by rw[Wt,uO];omega);exact⟨g,p,j,o,r,v,rfl,s.length-(i+1),om,i+1,g,p,j,o,by rw[Ze om];rfl,om,rfl,by rw[Zoz s b];exact w⟩;have f:i=s.length:=om;subst f;rw[qm]at e;refine Zj [3] ?_;refine Zo UK ZRq rfl ?_;exact ZB rr rfl (e.frz dc ZT XK) rfl
theorem ZMt(d:List Glob)(hl:d.length<2 ^ 28)(G:okG d)(Z: ∀g∈d,(0<=g.b/\g.b<256)/\ ∀x∈g.sp,(0<=x.lo/\x.lo<256)/\(0<=x.hi/\x.hi<256)):PCon UY 49 [lst encG d] (· =lst Zd (ZX d)):=by
 refine ZF UK (fn:=Tryz.f49) rfl ?_;refine Zh UK 48 ZRr rfl ?_;refine⟨rfl,ZM [3,6,7,8] [3,6,7,8] (λm E h=> ∃(i:Nat) (a:Option (Nat×Nat)) (l:Nat) (c:Option Nat) (k:Nat),E= [.sl a l c k,lst encG d,I (d.length:Nat),I (i:Nat)]/\i<=d.length/\m=d.length-i/\LX Zd 9 h a l c k (ZX (d.take i))) d.length ZA ⟨0,none,0,some 0,0,rfl,om,om,LX.start _ _ _ _ _⟩ ?_⟩;rintro m E h ⟨i,a,l,c,k,rfl,hi,rfl,D⟩;refine Zm UK ZRs rfl ?_;refine Zq (λo=> ?_) (λa0=> ?_)
 .have H:=Z d[i] (qe o);have z:(ZX (d.take i)).length<2 ^ 29:=by
   have:=Zdk (d.take i);rw[uO]at this;omega
  refine⟨Zu o,d[i].k,d[i].b,row encS d[i].sp,d[i].sp.length,none,by rw[qdq,Xw (f:=encG) (k:=3) VT o],?_⟩;have step: ∀(x:Re),XX d[i]= [x]-> ∀s:List V,Zd x=s-> ∃(w:Option (Nat×Nat)) (B:Nat) (y:Option Nat) (A:Nat) (C:Heap),Zk UY h 26 26 (.sl a l c k) (.ts s 1 (some 1))=some (.sl w B y A,C)/\
    XF UY 48 [3,6,7,8] [3,6,7,8] (λm E h=> ∃(i:Nat) (a:Option (Nat×Nat)) (l:Nat) (c:Option Nat) (k:Nat),E= [.sl a l c k,lst encG d,I (d.length:Nat),I (i:Nat)]/\i<=d.length/\m=d.length-i/\LX Zd 9 h a l c k (ZX (d.take i))) (d.length-i) (Xb (post B_49)) ((post B_49).drop 1) (FinS UY Tryz.f49 λv h=> ∃r,Frz h v r/\r=lst Zd (ZX d)) .normal 48 [.sl w B y A,lst encG d,I (d.length:Nat),I (wW ((i:Nat)+1))] C:=by
   intro x K s p;obtain⟨w,B,y,A,C,q1,q2,q3,q4⟩:=Zhy x p D z;exact⟨w,B,y,A,C,q1,rfl,d.length-(i+1),om,i+1,w,B,y,A,by rw[Ze om];rfl,om,rfl,by rw[Zf7 d o,K];exact q2⟩
  refine Zf (λe=> ?_) (λe=>Zf (λj=> ?_) (λj=>Zf (λq=> ?_) (λq=>Zf (λt=> ?_) (λt=> ?_))));have e:d[i].k=0:=su e;exact Vz _ (Zxo d[i].b d[i].b H.1 H.1) λL P W X Y s N F O u n p=>step _ (by unfold XX;rw[uF e]) _ p;have e:d[i].k≠0:=su e;have j:d[i].k=1:=su j;exact Vz _ anyT λL P W X Y s N F O u n p=>step _ (by unfold XX;rw[uE e,uF j]) _ p;have e:d[i].k≠0:=su e;have j:d[i].k≠1:=su j;have q:d[i].k=2:=su q;exact Vz _ ZGo λL P W X Y s N F O u n p=>step _ (by unfold XX;rw[uE e,uE j,uF q]) _ p;have e:d[i].k≠0:=su e;have j:d[i].k≠1:=su j;have q:d[i].k≠2:=su q;have t:d[i].k=3:=su t;exact Vz _ (ZDq d[i].sp (by have:=G.2 d[i] (qe o);omega) H.2) λL P W X Y s N F O u n p=>step _ (by unfold XX;rw[uE e,uE j,uE q,uF t]) _ p
  .have e:d[i].k≠0:=su e;have j:d[i].k≠1:=su j;have q:d[i].k≠2:=su q;have t:d[i].k≠3:=su t;refine⟨rfl,d.length-(i+1),om,i+1,a,l,c,k,by rw[Ze om];rfl,om,rfl,?_⟩;rw[Zf7 d o];have:XX d[i]= []:=by unfold XX;rw[uE e,uE j,uE q,uE t]
   rw[this,qi];exact D
 .have p:i=d.length:=om;subst p;rw[qm]at D;refine Zj [3] ?_;refine Zo UK ZRt rfl ?_;exact ZB rr rfl (D.frz dc ZT XK) rfl
theorem Zdp{Y}{fn}{a:List Nat}{o:Out}{n:Nat}{vs}{h}{v1 c r1 b R:V}(f:o= .normal\/o= .ret)(i:resV Y fn (a.zip vs)=some (.tup [v1,c]))(d:Frz h v1 r1)(e:Frz h c b)(g: .tup [r1,b]=R):
  Go.Y.Fin Y fn a (λv h=> ∃r,Frz h v r/\r=R) o n vs h:=⟨f,_,i,_, .tup _ _ (.cons _ _ _ _ d (.cons _ _ _ _ e .nil)),g⟩
theorem ZMu{a:List Re}(h:a.length≠0)(b:a.length≠1):sevS 4 a= .mk 4 (0,0,0,0) a 0 0 0:=Zeu 4 om
theorem rowT{l}(h:FewL l):PCon UY 43 [lst Zd l] (· =fitV (sevS 4 l)):=by
 have d:=Zox (B:=1000) dc h.re h.txt;refine Zv UK (fn:=Tryz.f43) rfl ZRn rfl ?_;unfold fitV;generalize b:sevS 4 l=S at d;refine Zf (λc=> ?_) (λc=>Zf (λa=> ?_) (λa=> ?_));have c:l.length=0:=su c;have o:l= []:=qg c;subst o;have b:S=XG:=b.symm;subst b;refine⟨mayE XG,PCon.wkD (.cons _ _ _ _ (.agg _ _ ?_) .nil) d,?_⟩;unfold XG;rw[Zn];exact .cons _ _ _ _ (.same _) (.cons _ _ _ _ (.same _) (.cons _ _ _ _ (.same _) (.cons _ _ _ _ (.same _) (.cons _ _ _ _ (.same _) (.cons _ _ _ _ (.nil _ _) (.cons _ _ _ _ (.same _) (.cons _ _ _ _ (.same _) (.cons _ _ _ _ (.same _) .nil))))))));cases mayE XG;exact ifT rfl (Zdp rr rfl (QH _) (.i _ _) rfl);exact ifF rfl (Zdp rr rfl (QH _) (.i _ _) rfl)
 .have a:l.length=1:=by
   have a:(l.length:Int)=1:=su a;omega
  obtain⟨x,rfl⟩:=List.length_eq_one_iff.1 a;have b:S=x:=b.symm;subst b;obtain⟨j,n,k,f,e,m⟩:=S;rw[ZJ]at d;have g:=QO j n k f e m;rw[ql]at g;refine⟨⟨om,sm⟩,_,_,_,_,_,_,_,_,_,_,_,g,_,d,?_⟩;cases mayE (.mk j n k f e m);exact ifT rfl (Zdp rr rfl (QH _) (.i _ _) rfl);refine ifF rfl ?_;refine Zdp rr rfl ?_ (.i _ _) rfl;rw[<-ZJ];exact Zcg _ _
 .have c:l.length≠0:=su c;have a:l.length≠1:=by
   have a: ¬(l.length:Int)=1:=su a;omega
  rw[ZMu c a]at b;subst b;rw[ZJ]at d;refine⟨_,d,?_⟩;cases mayE (.mk 4 (0,0,0,0) l 0 0 0);exact ifT rfl (Zdp rr rfl (QH _) (.i _ _) rfl);refine ifF rfl ?_;refine Zdp rr rfl ?_ (.i _ _) rfl;exact Zo2 _ _ (by rw[Zn])
theorem ZR9{k s0 s1 s2 s3 b nk lo hi gn h}(K):CP UY 57 (pre B_57) (.agg (R9 k s0 s1 s2 s3 b nk none lo hi gn)::Rp 37) h [1,2,23,24,25] K=(If (k==(7:Int)) (If (ltI 0 gn) (((10:Int)=(0:Int)->False)/\((Con UY 109 [J b nk none] h fun(v:V) (f:Heap)=> ∃a c d e,v=S a c d e/\K .normal 38 [.lb [I k,U s0,U s1,U s2,U s3,S a c d e,I lo,I hi,I ((wW (gn+(1:Int))).tmod (10:Int))], .lb R0,S a c d e,I (c:Int),I 0] f)\/ ∃a c d,(PCon UY 109 [J b nk none] λv=>v=J a c d)/\K .normal 38 [.lb [I k,U s0,U s1,U s2,U s3,J a c d,I lo,I hi,I ((wW (gn+(1:Int))).tmod (10:Int))], .lb R0,J a c d,I (c:Int),I 0] h)) ((Con UY 109 [J b nk none] h fun(v:V) (f:Heap)=> ∃a c d e,v=S a c d e/\K .normal 38 [.lb [I k,U s0,U s1,U s2,U s3,S a c d e,I lo,I hi,I gn], .lb R0,S a c d e,I (c:Int),I 0] f)\/ ∃a c d,(PCon UY 109 [J b nk none] λv=>v=J a c d)/\K .normal 38 [.lb (R9 k s0 s1 s2 s3 a c d lo hi gn), .lb R0,J a c d,I (c:Int),I 0] h)) ((Con UY 109 [J b nk none] h fun(v:V) (f:Heap)=> ∃a c d e,v=S a c d e/\K .normal 38 [.lb [I k,U s0,U s1,U s2,U s3,S a c d e,I lo,I hi,I gn], .lb R0,S a c d e,I (c:Int),I 0] f)\/ ∃a c d,(PCon UY 109 [J b nk none] λv=>v=J a c d)/\K .normal 38 [.lb (R9 k s0 s1 s2 s3 a c d lo hi gn), .lb R0,J a c d,I (c:Int),I 0] h)):=kr
theorem ZSa{k s0 s1 s2 s3 lo hi q l c g2 l2 i h}(K):CP UY 57 (lp_ B_57) (MZ 38 [1,2,23,24,25] [.lb [I k,U s0,U s1,U s2,U s3,S (some (q,0)) l c 9,I lo,I hi,I g2],.lb R0,S (some (q,0)) l c 9,I l2,I i]) h [1,2,23,24,25] K=(If (ltI i l2) ((0<=i/\i<l)/\9=9/\ ∃a b d e f g j m n o p,Zb h q ((0:Nat)+i.toNat*9) 9=some (R9 a b d e f g j m n o p)/\ ∃r s t u w x y z A B C,(PCon UY 57 [.agg (R9 a b d e f g j m n o p)] fun(v:V)=>v=.agg (R9 r s t u w x y z A B C))/\(0<=i/\i<l)/\9=9/\ ∃D,Zi h q ((0:Nat)+i.toNat*9) (R9 r s t u w x y z A B C)=some D/\K .normal 38 [.lb [I k,U s0,U s1,U s2,U s3,S (some (q,0)) l c 9,I lo,I hi,I g2], .lb R0,S (some (q,0)) l c 9,I l2,I (wW (i+(1:Int)))] D) (K (.exit 0) 38 [.lb [I k,U s0,U s1,U s2,U s3,S (some (q,0)) l c 9,I lo,I hi,I g2], .lb R0,S (some (q,0)) l c 9,I l2,I i] h)):=kr
theorem ZSb(k s0 s1 s2 s3 lo hi g2)(i:Int)(a b c d h K):CP UY 57 ((post B_57).drop 1) (MZ 38 [1,2] [.lb [I k,U s0,U s1,U s2,U s3,S a b c d,I lo,I hi,I g2],.lb R0]) h [2] K=(K .ret 38 [.lb [I k,U s0,U s1,U s2,U s3,S a b c d,I lo,I hi,I g2]] h):=kr
theorem ZMv{k s0 s1 s2 s3 lo hi g2 l2 i h}(K):CP UY 57 (lp_ B_57) (MZ 38 [1,2,23,24,25] [.lb [I k,U s0,U s1,U s2,U s3,J [] 0 none,I lo,I hi,I g2],.lb R0,J [] 0 none,I l2,I i]) h [1,2,23,24,25] K=(If (ltI i l2) (((0:Int)<=i/\i<(↑(0:Nat):Int))/\ ∃a b c d e f g j l m n,Zs 9 (List.drop (i.toNat*9) [])=some (R9 a b c d e f g j l m n)/\ ∃o p q r s t u w x y z,(PCon UY 57 [.agg (R9 a b c d e f g j l m n)] fun(v:V)=>v=.agg (R9 o p q r s t u w x y z))/\((0:Int)<=i/\i<(↑(0:Nat):Int))/\False) (K (.exit 0) 38 [.lb [I k,U s0,U s1,U s2,U s3,J [] 0 none,I lo,I hi,I g2], .lb R0,J [] 0 none,I l2,I i] h)):=kr
theorem ZMw(k s0 s1 s2 s3 lo hi g2)(i:Int)(h K):CP UY 57 ((post B_57).drop 1) (MZ 38 [1,2] [.lb [I k,U s0,U s1,U s2,U s3,J [] 0 none,I lo,I hi,I g2],.lb R0]) h [2] K=(K .ret 38 [.lb [I k,U s0,U s1,U s2,U s3,J [] 0 none,I lo,I hi,I g2]] h):=kr
theorem ZDt{b g h}(K):CP UY 109 (flat (Za Tryz.f109)) (J b g none::Rp 7) h [2] K=((g=0->K .ret 8 [S0] h)/\((∃a c d e f,Zk UY h 26 26 (J [] 0 (some 0)) (J b g none)=some (S a c d e,f)/\K .ret 8 [S a c d e] f)\/Zk UY h 26 26 (J [] 0 (some 0)) (J b g none)=some (J [] 0 (some 0),h)/\K .ret 8 [J [] 0 (some 0)] h)):=kr
theorem ZSc{c d h}(K):CP UY 52 (flat (Za Tryz.f52)) (.agg [I c,.s d]::Rp 10) h [2] K=(Con UY 104 [.agg [I c,.s d]] h fun(v:V) (e:Heap)=> ∃a b,v=.tup [.p a,.b b]/\K .ret 11 [.b b] e):=kr
theorem ZMx{a d h}(K):CP UY 104 (flat (Za Tryz.f104)) (.agg [I a,.s d]::Rp 55) h [2,3] K=(If (a==(0:Int)) (K .ret 56 [p_P h.nx, .b (leI (↑d.length:Int) (200:Int))] (h.push (YObj.arr [I a,.s d,S0,I 0,U 0,U 0,U 0,U 0,S0,I 0,I 0,I 0] true))) (If (a==(1:Int)) (∃b c e f g,(PCon UY 54 [.s d] fun(v:V)=>v=.tup [J b c e,I f,I g])/\ ∃i,Zi (h.push (YObj.arr [I a,.s d,S0,I 0,U 0,U 0,U 0,U 0,S0,I 0,I 0,I 0] true)) h.nx 2 [J b c e]=some i/\K .ret 56 [p_P h.nx, .b (g==(0:Int))] i) (If (a==(2:Int)) (∃b c e f g i j l m n o q r,(PCon UY 55 [.s d] fun(v:V)=>v=.tup [.agg (R9 b c e f g i j l m n o),I q,I r])/\ ∃t,Zi (h.push (YObj.arr [I a,.s d,S0,I 0,U 0,U 0,U 0,U 0,S0,I 0,I 0,I 0] true)) h.nx 3 (R9 b c e f g i j l m n o)=some t/\If (r==(0:Int)) (∃u w x y z k p A B C D,Zb t h.nx 3 9=some (R9 u w x y z k p A B C D)/\ ∃E,(PCon UY 29 [.agg (R9 u w x y z k p A B C D)] λv=>v=.b E)/\K .ret 56 [p_P h.nx, .b E] t) (K .ret 56 [p_P h.nx, .b false] t)) (K .ret 56 [p_P h.nx, .b false] (h.push (YObj.arr [I a,.s d,S0,I 0,U 0,U 0,U 0,U 0,S0,I 0,I 0,I 0] true)))))):=kr
theorem ZSd{a d h}(K):CP UY 15 (flat (Za Tryz.f15)) (.agg [I a,.s d]::Rp 43) h [2] K=(If (a==(0:Int)) (K .ret 44 [.b (leI (↑d.length:Int) (200:Int))] h) (If (a==(1:Int)) (∃b c e f g,(PCon UY 24 [.s d] fun(v:V)=>v=.tup [J b c e,I f,I g])/\K .ret 44 [.b (g==(0:Int))] h) (If (a==(2:Int)) (∃b c e f g i j l m n o p q,(PCon UY 8 [.s d] fun(v:V)=>v=.tup [.agg (R9 b c e f g i j l m n o),I p,I q])/\If (q==(0:Int)) (∃r,(PCon UY 42 [.agg (R9 b c e f g i j l m n o)] λv=>v=.b r)/\K .ret 44 [.b r] h) (K .ret 44 [.b false] h)) (K .ret 44 [.b false] h)))):=kr
theorem Zdq{d:Type} : ∀(a b c:List d),splice (a++b) a.length c=a++splice b 0 c
 | [],b,c=>rfl
 |x::a,b,c=>by
  show x::splice (a++b) a.length c=_;rw[Zdq a b c];rfl
theorem ZGp{d:Type}{f:d->List V}{k:Nat}(c: ∀x,(f x).length=k): ∀(l:List d) (i:Nat) (x:d),i<l.length->splice (row f l) (i*k) (f x)=row f (l.set i x):=by
 intro l i x m;have g:row f l=row f (l.take i)++(f l[i]++row f (l.drop (i+1))):=by
  have e:l=l.take i++(l[i]::l.drop (i+1)):=by rw[List.getElem_cons_drop,vN]
  conv=>lhs;rw[e]
  rw[XA];rfl
 have h:(row f (l.take i)).length=i*k:=by rw[Xf c,uO,Nat.min_eq_left om]
 have j:splice (f l[i]++row f (l.drop (i+1))) 0 (f x)=f x++row f (l.drop (i+1)):=by
  have: ∀(b a:List V),splice b 0 a=a++b.drop a.length:=λb a=>by cases b<;>rfl
  rw[this,c,<-c l[i],List.drop_left]
 rw[g,<-h,Zdq,j];have e:l.set i x=l.take i++(x::l.drop (i+1)):=by rw[List.set_eq_take_append_cons_drop,uF m]
 rw[e,XA];rfl
def Zo3(k n:Int):Int:=if(k==7)=true then(if ltI 0 n=true then(wW (n+1)).tmod 10 else n)else n
def laterF:Re->Re
 | .mk k s a c b n=> .mk k s (latersF a) c b (Zo3 k n)
where
 latersF:List Re->List Re
  | []=> []
  |r::l=>laterF r::latersF l
theorem Zh6: ∀l:List Re,laterF.latersF l=l.map laterF
 | []=>by rw[laterF.latersF];rfl
 |r::l=>by rw[laterF.latersF,Zh6 l];rfl
theorem Zex(k:Int)(s)(a:List Re)(c b n:Int):laterF (.mk k s a c b n)= .mk k s (a.map laterF) c b (Zo3 k n):=by rw[laterF,Zh6]
theorem Zmn:PCon UY 109 [.ts [] 0 none] (· = .ts [] 0 none):=by refine Zv UK (fn:=Tryz.f109) rfl ZDt rfl ?_;exact⟨λ_=>ZB rr rfl (.sln _ _ none (λx a=>by cases a)) rfl, .inr ⟨kr,ZB rr rfl (.ts _ _ _ none (λx a=>by cases a)) rfl⟩⟩
theorem Zd1: ∀a b:List V,Zp a=true->Zp b=true->Zp (a++b)=true
 | [],b,_,h=>h
 |x::a,b,c,d=>by
  simp only[Zp,qrq]at c;simp only[qs,Zp,qrq];exact⟨c.1,Zd1 a b c.2 d⟩
theorem Zgf: ∀l:List Re,Zp (row Zd l)=true
 | []=>rfl
 |x::l=>by
  have e:row Zd (x::l)=Zd x++row Zd l:=rfl;rw[e];exact Zd1 _ _ (Zfr x) (Zgf l)
theorem ZBh(l:List Re){m:Nat}(b:l.length=m+1)(f:l.length<2 ^ 29)(h:Heap):Con UY 109 [.ts (row Zd l) l.length none] h λv d=>v= .sl (some (h.nx,0)) l.length none 9/\d=h.push (.arr (row Zd l) true):=by
 refine Zx UK (fn:=Tryz.f109) (Zo UK ZDt rfl ?_);refine⟨λe=>absurd e om, .inl ?_⟩;have a:=Zlq (Y:=UY) (st:=26) (e:=28) (te:=⟨9,88, .struct [(0,3),(1,25),(5,26),(6,3),(7,3),(8,3)],[I 0,U 0,U 0,U 0,U 0, .sl none 0 (some 0) 0,I 0,I 0,I 0]⟩) kr kr dc dc (cs:=row Zd l) (c:=row Zd l) (n:=m) (cap:=none) (by rw[<-b];exact ZC (Xf ZT l).symm) (Zgf l) om h;rw[<-b]at a;exact⟨_,_,_,_,_,a,finC rr rfl (.now ⟨rfl,rfl⟩)⟩
def LaR(r:Re):Prop:=PCon UY 57 [.agg (Zd r)] (· = .agg (Zd (laterF r)))
def laL(a:List Re)(i:Nat):List Re:=(a.take i).map laterF++a.drop i
theorem ZGq(a:List Re)(i:Nat)(b:i<=a.length):(laL a i).length=a.length:=by simp[laL];omega
theorem ZGr(a:List Re){i:Nat}(d:i<a.length)(h:i<(laL a i).length):(laL a i)[i]=a[i]:=by
 have c:(laL a i)[i]? =some a[i]:=by
  have b:((a.take i).map laterF).length=i:=by simp;omega
  unfold laL;rw[vB om,b,vM,uz,Nat.add_zero];simp[d]
 exact(qb.1 c).2
theorem ZGs(a:List Re){i:Nat}(c:i<a.length):(laL a i).set i (laterF a[i])=laL a (i+1):=by
 unfold laL;have b:((a.take i).map laterF).length=i:=by simp;omega
 rw[List.set_append_right _ _ (by rw[b];exact qnq _),b,vM,uM c,List.set_cons_zero,qa c,uV];simp
theorem Zxp{B:Nat}(hB:B<2 ^ 20){k:Int}{s}{b:List Re}{t q n:Int}(hl:b.length<=B)(ih: ∀x∈b,LaR x):LaR (.mk k s b t q n):=by
 unfold LaR;rw[ZJ,Zex];refine ZF UK (fn:=Tryz.f57) rfl ?_;refine Zh UK 38 ZR9 rfl ?_;generalize Y:PreV UY 38 [1,2,23,24,25] (post B_57) (FinS UY Tryz.f57 λv h=> ∃r,Frz h v r/\r= .agg (Zd (.mk k s (b.map laterF) t q (Zo3 k n))))=G;have o: ∀p:Int,p=Zo3 k n->
   (Con UY 109 [.ts (row Zd b) b.length none] .empty λv O=> ∃(a:Option (Nat×Nat)) (l:Nat) (c:Option Nat) (u:Nat),v= .sl a l c u/\G .normal 38 [.lb [I k,U s.1,U s.2.1,U s.2.2.1,U s.2.2.2, .sl a l c u,I t,I q,I p],Ztk, .sl a l c u,I (l:Nat),I 0] O)\/
   ∃(C:List V) (l:Nat) (c:Option Nat),(PCon UY 109 [.ts (row Zd b) b.length none] λv=>v= .ts C l c)/\G .normal 38 [.lb [I k,U s.1,U s.2.1,U s.2.2.1,U s.2.2.2, .ts C l c,I t,I q,I p],Ztk, .ts C l c,I (l:Nat),I 0] .empty:=by
  rintro p w;subst Y;by_cases P:b= [];subst P;refine .inr ⟨[],0,none,Zmn,rfl,ZM [1,2,23,24,25] [1,2,23,24,25] (λm A h=>A= [.lb [I k,U s.1,U s.2.1,U s.2.2.1,U s.2.2.2, .ts [] 0 none,I t,I q,I p],Ztk, .ts [] 0 none,I 0,I 0]) 0 ZA rfl ?_⟩;rintro m A h rfl;refine Zm UK ZMv rfl ?_;refine Xr (λf=>absurd f dc) (λ_=> ?_);refine Zj [1,2] ?_;refine Zo UK (λK=>ZMw k s.1 s.2.1 s.2.2.1 s.2.2.2 t q p 0 h K) rfl ?_;refine ZB rr rfl ?_ rfl;rw[Zn,w];exact .agg _ _ (.cons _ _ _ _ (.i _ _) (.cons _ _ _ _ (.i _ _) (.cons _ _ _ _ (.i _ _) (.cons _ _ _ _ (.i _ _) (.cons _ _ _ _ (.i _ _) (.cons _ _ _ _ (.ts _ _ _ none (λx N=>by cases N)) (.cons _ _ _ _ (.i _ _) (.cons _ _ _ _ (.i _ _) (.cons _ _ _ _ (.i _ _) .nil)))))))))
  .have W:0<b.length:=List.length_pos_iff.2 P;obtain⟨m,hm⟩: ∃m,b.length=m+1:=⟨b.length-1,om⟩;refine .inl ((ZBh b hm om .empty).mono λv O ⟨hv,hh⟩=>⟨_,_,_,_,hv,?_⟩);refine⟨rfl,ZM [1,2,23,24,25] [1,2,23,24,25] (λm A h=> ∃i:Nat,A= [.lb [I k,U s.1,U s.2.1,U s.2.2.1,U s.2.2.2, .sl (some (Heap.empty.nx,0)) b.length none 9,I t,I q,I p],Ztk, .sl (some (Heap.empty.nx,0)) b.length none 9,I (b.length:Nat),I (i:Nat)]/\i<=b.length/\m=b.length-i/\h.get Heap.empty.nx=some (.arr (row Zd (laL b i)) true)) b.length ZA ⟨0,rfl,om,om,by rw[hh,qk,uF rfl];simp[laL]⟩ ?_⟩;rintro m A h ⟨i,rfl,H,rfl,E⟩;refine Zm UK ZSa rfl ?_;have z:=ZGq b i H;refine Zq (λf=> ?_) (λZ=> ?_)
   .have d:Zb h Heap.empty.nx (0+(((i:Nat):Int)).toNat*9) 9=some (Zd b[i]):=by
     rw[qdq,uJ];refine(Zr E _ _).trans ?_;rw[Xw ZT om,ZGr b f om]
    have j:=ih b[i] (qe f);unfold LaR at j;have g:=ZGp ZT (laL b i) i (laterF b[i]) om;rw[ZGs b f]at g;generalize laterF b[i]=y at j g;generalize b[i]=x at d j;obtain⟨xk,xs,xl,a3,a2,xn⟩:=x;rw[Zn]at d;rw[ZJ]at j;refine⟨Zu f,rfl,_,_,_,_,_,_,_,_,_,_,_,d,Vz y j λk0 s0 s1 s2 s3 C l0 cc a1 a0 n0 F=>⟨Zu f,rfl,h.set Heap.empty.nx (some (.arr (row Zd (laL b (i+1))) true)),?_,rfl,b.length-(i+1),om,i+1,by rw[Ze om];rfl,om,rfl,by rw[qc,uF rfl]⟩⟩;rw[qdq,uJ];rw[F]at g;simp only[Zi,E];rw[uF (by rw[Xf ZT,z];simp;omega),g]
   .have F:i=b.length:=om;subst F;refine Zj [1,2] ?_;refine Zo UK (λK=>ZSb k s.1 s.2.1 s.2.2.1 s.2.2.2 t q p 0 (some (Heap.empty.nx,0)) b.length none 9 h K) rfl ?_;refine ZB rr rfl ?_ rfl;have e:laL b b.length=b.map laterF:=by simp[laL]
    rw[e]at E;have X:lst Zd (b.map laterF)= .ts (row Zd (b.map laterF)) b.length none:=by
     show V.ts _ _ _=_;rw[qC]
    rw[Zn,w,X];exact .agg _ _ (.cons _ _ _ _ (.i _ _) (.cons _ _ _ _ (.i _ _) (.cons _ _ _ _ (.i _ _) (.cons _ _ _ _ (.i _ _) (.cons _ _ _ _ (.i _ _) (.cons _ _ _ _ (.sl _ _ _ _ _ (row Zd (b.map laterF)) true (row Zd (b.map laterF)) _ _ E (by rw[ql];exact ZC (by rw[Xf ZT,qC])) (λx N=>by cases N) dc (Xa _ (Jc XK _))) (.cons _ _ _ _ (.i _ _) (.cons _ _ _ _ (.i _ _) (.cons _ _ _ _ (.i _ _) .nil)))))))))
 refine Zf (λD=>Zf (λL=>⟨sm,o _ ?_⟩) (λL=>o _ ?_)) (λD=>o _ ?_);unfold Zo3;rw[uF D,uF L];unfold Zo3;rw[uF D,uE (by rw[L];decide)];unfold Zo3;rw[uE (by rw[D];decide)]
mutual
theorem ZDu{B:Nat}(b:B<2 ^ 20): ∀r:Re,wfRe B r->LaR r
 | .mk k s a d c n,h=>by
  rw[wfRe]at h;exact Zxp b h.2.2.1 (Zxq b a h.2.2.2)
theorem Zxq{B:Nat}(b:B<2 ^ 20): ∀l:List Re,wfRe.wfRes B l-> ∀x∈l,LaR x
 | [],_,x,a=>by cases a
 |r::l,h,x,a=>by
  rw[wfRe.wfRes]at h;have c:=ZDu b r h.1;have d:=Zxq b l h.2;rcases qu.1 a with e|a;exact e▸c;exact d x a
end
theorem ZGt{c n h}(K):CP UY 117 (pre B_117) (J c n none::V.fn (.func 56) [] []::Rp 17) h [0,1,7,8] K=(K .normal 19 [J c n none, .fn (Fn.func 56) [] [],I (n:Int),I 0] h):=kr
theorem ZGu{c n x8 h}(K):CP UY 117 (lp_ B_117) (MZ 19 [0,1,7,8] [J c n none,V.fn (Fn.func 56) [] [],I (n:Int),I x8]) h [0,1,4,7,8] K=(If (ltI x8 n) ((0<=x8/\x8<n)/\ ∃a b d e f g i j l m o,Zs 9 (List.drop (x8.toNat*9) c)=some (R9 a b d e f g i j l m o)/\ ∃p,(PCon UY 56 [.agg (R9 a b d e f g i j l m o)] λv=>v=.b p)/\If p (K .ret 19 [J c n none, .fn (Fn.func 56) [] [],I x8,I (n:Int),I x8] h) (K .normal 19 [J c n none, .fn (Fn.func 56) [] [],Ud,I (n:Int),I (wW (x8+(1:Int)))] h)) (K (.exit 0) 19 [J c n none, .fn (Fn.func 56) [] [],Ud,I (n:Int),I x8] h)):=kr
theorem ZGv{h}(K):CP UY 117 ((post B_117).drop 1) (MZ 19 [] []) h [4] K=(K .ret 19 [I (-1)] h):=kr
theorem ZMy{c n h}(K):CP UY 70 (flat (Za Tryz.f70)) (J c n none::V.fn (.func 56) [] []::Rp 7) h [4] K=(Con UY 117 [J c n none,V.fn (Fn.func 56) [] []] h fun(v:V) (d:Heap)=> ∃a,v=I a/\K .ret 9 [.b (leI 0 a)] d):=kr
theorem ZSe{a e f g j c d l m n h}(K):CP UY 56 (flat (Za Tryz.f56)) (.agg (R9 a e f g j c d none l m n)::Rp 15) h [2] K=(If (a==(2:Int)) (K .ret 16 [.b true] h) (If (a==(3:Int)) (K .ret 16 [.b true] h) (Con UY 70 [J c d none,V.fn (Fn.func (56:Nat)) [] []] h fun(v:V) (i:Heap)=> ∃b,v=.b b/\K .ret 16 [.b b] i))):=kr
theorem ZGw{B:Nat}(y:B<2 ^ 20){a:List Re}(A:a.length<=B)(t: ∀x∈a,PCon UY 56 [.agg (Zd x)] (· = .b (anchB x)))(h:Heap):
  Con UY 117 [lst Zd a, .fn (.func 56) [] []] h λv q=> ∃n:Int,v= I n/\leI 0 n=a.any anchB/\q=h:=by
 refine Zx UK (fn:=Tryz.f117) (Zh UK 19 ZGt rfl ?_);refine⟨rfl,ZM [0,1,7,8] [0,1,4,7,8] (λm p g=> ∃i:Nat,p= [lst Zd a, .fn (.func 56) [] [],I a.length,I (i:Nat)]/\i<=a.length/\m=a.length-i/\(a.take i).any anchB=false/\g=h) a.length ZA ⟨0,rfl,om,om,sm,rfl⟩ ?_⟩;rintro m p g ⟨i,rfl,z,rfl,k,rfl⟩;refine Zm UK ZGu rfl ?_;refine Zq (λc=> ?_) (λs=> ?_)
 .have o:=t a[i] (qe c);have d:=Za7 c;have j:(a.take (i+1)).any anchB=anchB a[i]:=by rw[qa c,uj,k];simp
  have f:anchB a[i]=true->a.any anchB=true:=λe=>List.any_eq_true.2 ⟨_,qe c,e⟩;generalize a[i]=x at o d j f;obtain⟨C,F,D,w,u,E⟩:=x;rw[Zn]at o d;refine⟨Zu c,_,_,_,_,_,_,_,_,_,_,_,d,_,o,Zf (λl=> ?_) (λl=> ?_)⟩;exact Xc rr rfl (AfterZ.now ⟨_,rfl,by rw[f l];simp[leI],rfl⟩);exact⟨rfl,a.length-(i+1),om,i+1,by rw[Ze om];rfl,om,rfl,by rw[j,l],rfl⟩
 .have r:i=a.length:=om;subst r;rw[qm]at k;refine Zj [] ?_;refine Zo UK ZGv rfl ?_;exact finC rr rfl (.now ⟨-1,rfl,by rw[k];rfl,rfl⟩)
structure AXt(r:Re):Prop where
 c:PCon UY 56 [.agg (Zd r)] (· = .b (anchB r))
theorem Ztl{B:Nat}(j:B<2 ^ 20){k:Int}{s}{a:List Re}{i h n:Int}(l:a.length<=B)(p: ∀x∈a,PCon UY 56 [.agg (Zd x)] (· = .b (anchB x))):PCon UY 56 [.agg (Zd (.mk k s a i h n))] (· = .b (anchB (.mk k s a i h n))):=by
 rw[Zn,anchB,Zf1];refine Zv UK (fn:=Tryz.f56) rfl ZSe rfl ?_;refine Zf (λc=>ZB rr rfl (.b _) (by rw[c];rfl)) (λc=>Zf (λe=>ZB rr rfl (.b _) (by rw[c,e];rfl)) (λe=> ?_));have d:Con UY 70 [lst Zd a, .fn (.func 56) [] []] .empty λv g=>v= .b (a.any anchB):=by
  refine Zx UK (fn:=Tryz.f70) (Zo UK ZMy rfl ?_);exact(ZGw j l p .empty).mono λv g ⟨m,f,o,_⟩=>⟨m,f,finC rr rfl (.now (by rw[o];rfl))⟩
 exact d.mono λv g f=>⟨_,f,ZB rr rfl (.b _) (by rw[c,e];rfl)⟩
mutual
theorem Zxr{B:Nat}(b:B<2 ^ 20): ∀r:Re,wfRe B r->AXt r
 | .mk k s a g f n,h=>by
  rw[wfRe]at h;have e:=Zrd b a h.2.2.2;exact⟨Ztl b h.2.2.1 λx d=>(e x d).c⟩
theorem Zrd{B:Nat}(b:B<2 ^ 20): ∀l:List Re,wfRe.wfRes B l-> ∀x∈l,AXt x
 | [],_,x,a=>by cases a
 |r::l,h,x,a=>by
  rw[wfRe.wfRes]at h;have c:=Zxr b r h.1;have d:=Zrd b l h.2;rcases qu.1 a with e|a;rw[e];exact c;exact d x a
end
def RowJ(n:Heap)(f:Nat)(s:List UInt8)(d:Nat)(R:PR Re)(N m:Nat)(o:List V)(h:Heap):Prop:=
 ∃(a:Option (Nat×Nat)) (l:Nat) (c:Option Nat) (k:Nat) (b:List Re) (i g:Nat) (e:Int),o= [p_P f, .i .i64 (d:Nat), .undef,Zgc, .sl a l c k]/\LX Zd 9 h a l c k b/\(∀j,a=some (j,0)->n.nx<=j)/\
  RdE h f s i g e/\FrO n f h/\b.length<=s.length+1/\((e=0/\i<=s.length/\g<=i/\b.length<=i/\6*(s.length-i)+5<=m/\m<=N/\rowE m d s i g b=R)\/(e≠0/\R= .error (e,i)))
theorem Zxs(k:Int){p}{h}{a}{l:Nat}{c}{t:Nat}(z:LX Zd 9 h a l c t p){r:Func}{u:Nat}{o:List Nat}{F:V->Heap->Prop}
  (A: ∀D:List Nat,(∀j,j∈D->a=some (j,0))-> ∀x:Re,x=sevS k p-> ∀(n b d e f:Int) (q:List V) (l:Nat) (c:Option Nat) (g i m:Int),V.agg (Zd x)= .agg [I n,U b,U d,U e,U f, .ts q l c,I g,I i,I m]->
   Go.Y.Fin UY r o F .ret u [.lb [I n,U b,U d,U e,U f, .ts q l c,I g,I i,I m]] (XP h D)):
  Con UY 138 [I k, .sl a l c t] h λv w=> ∃(n b d e f:Int) (q:List V) (l:Nat) (c:Option Nat) (g i m:Int),v= .agg [I n,U b,U d,U e,U f, .ts q l c,I g,I i,I m]/\
   Go.Y.Fin UY r o F .ret u [.lb [I n,U b,U d,U e,U f, .ts q l c,I g,I i,I m]] w:=by
 refine ZGn k z λD y=> ?_;obtain⟨x,s⟩: ∃x,sevS k p=x:=⟨_,rfl⟩;have:=A D y x s.symm;rw[s];obtain⟨E,K,G,C,B,H⟩:=x;exact⟨_,_,_,_,_,_,_,_,_,_,_,ZJ _ _ _ _ _ _,this _ _ _ _ _ _ _ _ _ _ _ (ZJ _ _ _ _ _ _)⟩
theorem rowR{n:Nat}(ih: ∀m,m<n->AllR m){h}{C:Nat}{s:List UInt8}{i g d:Nat}(r:RdE h C s i g 0)(hs:s.length<2 ^ 27)(hi:i<=s.length)(hg:g<=i)(hd:d<=64)(hn:6*(s.length-i)+5<=n):
  Con UY 135 [p_P C,I d] h (reQ (rowE n d s i g []) h C s):=by
 refine Zx UK (fn:=Tryz.f135) (Zh UK 21 ZMm rfl ?_);generalize p:rowE n d s i g []=R;refine⟨rfl,ZM [0,1,2,4,5] [0,1,2,4,5] (RowJ h C s d R n) n ZA ⟨none,0,some 0,0,[],i,g,0,rfl,LX.start _ _ _ _ _,sm,r, .refl _ _,sm, .inl ⟨rfl,hi,hg,sm,hn,qnq _,p⟩⟩ ?_⟩;have w:=r.lt;clear r hi hg hn p;rintro m vs h1 ⟨a,l,c,k,W,j,gg,e,rfl,hL,f,hr,A,a4,z⟩;refine Zm UK ZMn rfl ?_;have stop:((e=0/\R= .ok (sevS 4 W,j,gg))\/(e≠0/\R= .error (e,j)))->XF UY 21 [0,1,2,4,5] [0,1,2,4,5] (RowJ h C s d R n) m (Xb (post B_135)) ((post B_135).drop 1) (FinS UY Tryz.f135 (AfterZ (reQ R h C s))) (.exit 0) 21
   [p_P C,I d, .undef,Zgc, .sl a l c k] h1:=λhf=>by
  refine Zj [4,5] ?_;refine Zo UK ZMo rfl ?_;refine Zxs 4 hL λD hD x E n n1 n2 n3 n4 cs P G n5 n6 n7 hv=>finC rr rfl (.now ?_);rw[<-hv];have K: ∀x,x∈D->h.nx<=x:=λx E=>f x (hD x E);exact⟨x,j,gg,e,rfl,hr.kill K w,A.kill K,by rw[E];exact hf⟩
 refine⟨_,ZGf hr,Zf (λhb=> ?_) (λhb=>stop ?_)⟩
 rotate_left
 .rcases z with ⟨rfl,hj,B,a2,hm,a1,p⟩|z
  .obtain⟨m,rfl⟩: ∃m',m=m'+1:=⟨m-1,om⟩;have a3: ¬j<s.length:=by simpa using hb
   rw[rowE,qq om]at p;exact .inl ⟨rfl,p.symm⟩
  .exact .inr z
 have b:e=0/\j<s.length:=by simpa using hb
 obtain⟨rfl,L⟩:=b;rcases z with ⟨_,hj,B,a2,hm,a1,p⟩|⟨he,_⟩
 rotate_left
 .exact absurd rfl he
 obtain⟨m,rfl⟩: ∃m',m=m'+1:=⟨m-1,om⟩;have O:s[j]? =some s[j]:=by simp[L]
 rw[rowE,O]at p;simp only[]at p;have N:pk s j [124,41]=true↔(s[j]=124\/s[j]=41):=by rw[Vy O];simp
 refine⟨_,Za9 hr [124,41],Zf (λb=> ?_) (λb=>stop (.inl ⟨rfl,?_⟩))⟩
 .have b:pk s j [124,41]=false:=by simpa using b
  rw[uE (λhc=>by rw[N.2 hc]at b;cases b)]at p;refine((ih m om).piece hr hs L B hd om).mono λv h2 ⟨x,j2,g2,e2,hv,u1,u2,u3⟩=> ?_;subst hv;obtain⟨xk,xs,xl,Z,Y,xn⟩:=x;obtain⟨F,P,G,k',h3,q1,q2,q3,q,q4,q5⟩:=Zhy (.mk xk xs xl Z Y xn) (Zn _ _ _ _ _ _) (hL.keep f w u2) om;have u: ∀x,F=some (x,0)->h.nx<=x:=λx E=>by rw[q4]at E;cases E;have:=A.1;have:=u2.1;omega
  have X:=u1.app q3 λo=>hL.ne f w;have H:=(hL.keep f w u2).frO f (A.trans u2) q3;have t:(W++ [Re.mk xk xs xl Z Y xn]).length<=s.length+1:=by simp;omega
  rcases u3 with ⟨rfl,y⟩|⟨a0,y⟩;rw[y]at p;simp only[]at p;have hp:=(XT s m).2.2.2.1 y om B;exact⟨_,_,_,_,_,_,_,_,_,_,_,ZJ _ _ _ _ _ _,F,P,G,k',h3,q1,rfl,m,om,F,P,G,k',_,j2,g2,0,rfl,q2,u,X,H,t, .inl ⟨rfl,om,om,by simp;omega,om,om,p⟩⟩;rw[y]at p;exact⟨_,_,_,_,_,_,_,_,_,_,_,ZJ _ _ _ _ _ _,F,P,G,k',h3,q1,rfl,m,om,F,P,G,k',_,j2,g2,e2,rfl,q2,u,X,H,t, .inr ⟨a0,p.symm⟩⟩
 .have b:pk s j [124,41]=true:=by simpa using b
  rw[uF (N.1 b)]at p;exact p.symm
theorem altR{n:Nat}(ih: ∀m,m<n->AllR m){h}{B:Nat}{s:List UInt8}{i g d:Nat}(r:RdE h B s i g 0)(hs:s.length<2 ^ 27)(hi:i<=s.length)(hg:g<=i)(hd:d<=64)(hn:6*(s.length-i)+6<=n):
  Con UY 106 [p_P B,I d] h (reQ (altE n d s i g) h B s):=by
 obtain⟨n,rfl⟩: ∃m,n=m+1:=⟨n-1,om⟩;refine Zx UK (fn:=Tryz.f106) (Zh UK 22 ZMj rfl ?_);generalize f:altE (n+1) d s i g=R;rw[altE]at f;refine((ih n om).row r hs hi hg hd om).mono λv F ⟨x,j,Z,e,L,W,C,u3⟩=> ?_;subst L;obtain⟨N,t,O,p,k,P⟩:=x;have y:=r.lt;have G:LX Zd 9 (F.push (.arr (Zd (.mk N t O p k P)) true)) (some (F.nx,0)) 1 (some 1) 9 [.mk N t O p k P]:=LX.one _ _ _ _;rw[Zn]at G;have w:RdE (F.push (.arr [I N,U t.1,U t.2.1,U t.2.2.1,U t.2.2.2,lst Zd O,I p,I k,I P] true)) B s j Z e:=⟨by rw[qk,uE (by have:=W.lt;omega)];exact W.get,by have:=W.lt;simp;omega⟩;have a6:FrO h B (F.push (.arr [I N,U t.1,U t.2.1,U t.2.2.1,U t.2.2.2,lst Zd O,I p,I k,I P] true)):=⟨by have:=C.1;simp;omega,λq hq a2=>by rw[qk,uE (by have:=C.1;omega)];exact C.2 q hq a2⟩;refine⟨_,_,_,_,_,_,_,_,_,_,_,ZJ _ _ _ _ _ _,rfl,ZM [0,1,4,5] [0,1,4,5] (AltI h B s d R (n+1)) n ZA ⟨F.nx,1,some 1,_,j,Z,e,rfl,G,sm,C.1,w,a6,sm,?_⟩ ?_⟩;rcases u3 with ⟨rfl,E⟩|⟨he,E⟩;have hp:=(XT s n).2.2.1 E hi hg;rw[E]at f;exact .inl ⟨rfl,om,om,sm,om,om,f⟩;rw[E]at f;exact .inr ⟨he,f.symm⟩;clear r hi hg hn f W C u3 G w a6;rintro m vs F ⟨q,l,c,a5,j,Z,e,rfl,hL,a2,b3,E,K,b6,A⟩;refine Zm UK ZMk rfl ?_;have b: ∀x,(some (q,0):Option (Nat×Nat))=some (x,0)->h.nx<=x:=λx hx=>by cases hx;exact b3
 have stop:((e=0/\R= .ok (sevS 5 a5,j,Z))\/(e≠0/\R= .error (e,j)))->XF UY 22 [0,1,4,5] [0,1,4,5] (AltI h B s d R (n+1)) m (Xb (post B_106)) ((post B_106).drop 1) (FinS UY Tryz.f106 (AfterZ (reQ R h B s))) (.exit 0) 22
   [p_P B,I d,Zgc, .sl (some (q,0)) l c 9] F:=λhf=>by
  refine Zj [4,5] ?_;refine Zo UK ZMl rfl ?_;refine Zxs 5 hL λD hD x hx n n1 n2 n3 n4 cs l' X n5 n6 n7 L=>finC rr rfl (.now ?_);rw[<-L];have a1: ∀x,x∈D->h.nx<=x:=λx hx=>b x (hD x hx);exact⟨x,j,Z,e,rfl,E.kill a1 y,K.kill a1,by rw[hx];exact hf⟩
 refine⟨_,Za9 E [124],Zf (λhb=> ?_) (λhb=>stop ?_)⟩
 .have h0:e=0/\s[j]? =some 124:=by rw[Qu]at hb;simpa using hb
  obtain⟨rfl,a⟩:=h0;rcases A with ⟨_,hj,a9,b2,hm,b1,f⟩|⟨he,_⟩
  .obtain⟨m,rfl⟩: ∃m',m=m'+1:=⟨m-1,om⟩;rw[WJ,uF a]at f;have b5:=(qb.1 a).1;refine(Zg5 E om).mono λv h2 hq=> ?_;rcases hq with ⟨dd,_,b4,L,g2,g3⟩|⟨_,a3,_⟩|⟨he,_⟩
   rotate_left
   .rw[a]at a3;cases a3
   .exact absurd rfl he
   have a7:=hL.keep b y g3;refine⟨_,L,?_⟩;refine((ih m om).row g2 hs om om hd om).mono λv h3 ⟨x,j2,a0,e2,L,W,C,u3⟩=> ?_;subst L;obtain⟨N,t,O,p,k,P⟩:=x;have H:=a7.keep b y C;obtain⟨a',l',X,k',h4,q1,q2,q3,q',q4,q5⟩:=Zhy (.mk N t O p k P) (Zn _ _ _ _ _ _) H om;subst q4;obtain⟨_,_,b0,_⟩:=q2.cells sm;subst b0;have a4:h.nx<=q':=by have:=K.1;have:=g3.1;have:=C.1;omega
   have w:=W.app q3 λo=>H.ne b y;have Y:=H.frO b ((K.trans g3).trans C) q3;have u:(a5++ [Re.mk N t O p k P]).length<=s.length+2:=by simp;omega
   rcases u3 with ⟨rfl,z⟩|⟨a8,z⟩;rw[z]at f;simp only[]at f;have hp:=(XT s m).2.2.1 z om om;exact⟨_,_,_,_,_,_,_,_,_,_,_,ZJ _ _ _ _ _ _,_,l',X,_,h4,q1,rfl,m,om,q',l',X,_,j2,a0,0,rfl,q2,sm,a4,w,Y,u, .inl ⟨rfl,om,om,by simp;omega,om,om,f⟩⟩;rw[z]at f;exact⟨_,_,_,_,_,_,_,_,_,_,_,ZJ _ _ _ _ _ _,_,l',X,_,h4,q1,rfl,m,om,q',l',X,_,j2,a0,e2,rfl,q2,sm,a4,w,Y,u, .inr ⟨a8,f.symm⟩⟩
  .exact absurd rfl he
 .rcases A with ⟨rfl,hj,a9,b2,hm,b1,f⟩|A
  .have a:s[j]? ≠some 124:=by rw[Qu]at hb;simpa using hb
   obtain⟨m,rfl⟩: ∃m',m=m'+1:=⟨m-1,om⟩;rw[WJ,uE a]at f;exact .inl ⟨rfl,f.symm⟩
  .exact .inr A
theorem allR(n:Nat):AllR n:=by
 induction n using Nat.strongRecOn with
 |ind n a=>exact⟨altR a,rowR a,ZMs a,ZR8 a⟩
theorem Zh7(s):PCon UY 55 [.s s] (· =Zdm s):=by
 refine Zv UK (fn:=Tryz.f55) rfl ZR7 rfl ?_;unfold Zdm;generalize b:Qx s=P;unfold Qx at b;refine Xr (λk=> ?_) (λO=> ?_);rw[uF om]at b;subst b;exact Zju rr rfl (QH _) (.i _ _) (.i _ _) rfl;rw[uE om]at b;have r:RdE (Heap.empty.push (.arr [.s s,I 0,I 0,I 0] true)) Heap.empty.nx s 0 0 0:=⟨by rw[qk,uF rfl];rfl,sm⟩;refine((allR (6*s.length+10)).alt (d:=0) r om om om om om).mono λv y ⟨x,j,g,e,H,z,Z,W⟩=> ?_;subst H;obtain⟨A,f,B,m,l,C⟩:=x;have o: ∀a:Heap,P= .ok (.mk A f B m l C)->Go.Y.Fin UY Tryz.f55 [2,3,4] (λv h=> ∃r,Frz h v r/\r=erV P) .ret 35
   [.lb [I A,U f.1,U f.2.1,U f.2.2.1,U f.2.2.2,lst Zd B,I m,I l,I C],I 0,I 0] a:=λa F=>by
  subst F;refine Zju rr rfl ?_ (.i _ _) (.i _ _) rfl;rw[<-ZJ];exact Zcg _ _
 have D: ∀(a:Heap) (p:Nat) (e:Int),P= .error (e,p)->Go.Y.Fin UY Tryz.f55 [2,3,4] (λv h=> ∃r,Frz h v r/\r=erV P) .ret 35
   [.lb [I 0,U 0,U 0,U 0,U 0, .sl none 0 (some 0) 0,I 0,I 0,I 0],I (p:Nat),I e] a:=λa p e F=>by
  subst F;exact Zju rr rfl (QH _) (.i _ _) (.i _ _) rfl
 have c: ∀(a:Heap) (p K:Nat) (e:Int),RdE a Heap.empty.nx s p K e->(e=0->P= .ok (.mk A f B m l C))->(e≠0->P= .error (e,p))->
   ∃t:Int,Zb a Heap.empty.nx 3 1=some [I t]/\If (t !=0) (∃n:Int,Zb a Heap.empty.nx 1 1=some [I n]/\ ∃u:Int,Zb a Heap.empty.nx 3 1=some [I u]/\Go.Y.Fin UY Tryz.f55 [2,3,4] (λv h=> ∃r,Frz h v r/\r=erV P) .ret 35
    [.lb [I 0,U 0,U 0,U 0,U 0, .sl none 0 (some 0) 0,I 0,I 0,I 0],I n,I u] a)
    (Go.Y.Fin UY Tryz.f55 [2,3,4] (λv h=> ∃r,Frz h v r/\r=erV P) .ret 35
    [.lb [I A,U f.1,U f.2.1,U f.2.2.1,U f.2.2.2,lst Zd B,I m,I l,I C],I 0,I 0] a):=λa p K e w N y=>
  ⟨_,w.c3,Zf (λE=>⟨_,w.c1,_,w.c3,D a p e (y (by simpa using E))⟩) (λE=>o a (N (by simpa using E)))⟩
 refine⟨_,_,_,_,_,_,_,_,_,_,_,ZJ _ _ _ _ _ _,_,ZGf z,?_⟩;rcases W with ⟨rfl,G⟩|⟨L,G⟩
 .rw[G]at b;simp only[]at b;refine Zf (λq=> ?_) (λq=> ?_)
  .have k:j<s.length:=by simpa using q
   rw[uF k]at b;refine(Zo1 z 1).mono λv a ⟨H,X,w2⟩=>⟨H,c a j g 1 (by simpa using X) (λh=>by cases h) (λ_=>b.symm)⟩
  .have k: ¬j<s.length:=by simpa using q
   rw[uE k]at b;exact c y j g 0 z (λ_=>b.symm) (λh=>absurd rfl h)
 .rw[G]at b;refine Zf (λq=>absurd ((by simpa using q:e=0/\j<s.length)).1 L) (λ_=>c y j g e z (λh=>absurd h L) (λ_=>b.symm))
end Go.Y
