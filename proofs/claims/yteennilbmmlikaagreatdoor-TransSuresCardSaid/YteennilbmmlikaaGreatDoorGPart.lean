/- A part of the proof. -/
import Derived.Test.YteennilbmmlikaaGreatDoorNTa
import Derived.Test.YteennilbmmlikaaGreatDoorYLoop
import Derived.Test.YteennilbmmlikaaGreatDoorYAny3
import Derived.Test.YteennilbmmlikaaGreatDoorGRise
import Derived.Test.YteennilbmmlikaaGreatDoorGReD
namespace Go.Y
open Go.Proofs Go.Sort
set_option maxRecDepth 100000
set_option maxHeartbeats 2000000
def Zca(r:Re):Prop:= ∀ {h:Heap} {a:Nat} {A:Au0},AuB A->MkA h a A->A.sets.length+cntRe r<=300->
 ∃b,(Con UY 32 [p_P a, .agg (Zd r)] h λv c=>v= .agg (XL (partF boS r A).2)/\c=b)/\MkA b a (partF boS r A).1
abbrev JL:V:= .lb [.sl none 0 (some 0) 0, .sl none 0 (some 0) 0, .b false]
abbrev ZFc:V:= .lb [.sl none 0 (some 0) 0, .sl none 0 (some 0) 0, .b true]
abbrev reLb(k:Int)(s:S4)(a:List Re)(c b n:Int):V:= .lb [I k,U s.1,U s.2.1,U s.2.2.1,U s.2.2.2,lst Zd a,I c,I b,I n]
theorem Zqy(a:List (List Nat)):row (λv:V=> [v]) (a.map λl=>lst encI (ints l))=row Qe a:=by
 induction a with
 |nil=>rfl
 |cons l a d=>
  have b:row Qe (l::a)=Qe l++row Qe a:=rfl;have c:row (λv:V=> [v]) ((l::a).map λl=>lst encI (ints l))= [lst encI (ints l)]++row (λv:V=> [v]) (a.map λl=>lst encI (ints l)):=rfl;rw[b,c,d]
theorem LX.mapV{h}{a}{l:Nat}{c}{f:Nat}{b:List (List Nat)}(d:LX Qe 1 h a l c f b):LX (λv:V=> [v]) 1 h a l c f (b.map λl=>lst encI (ints l)):=
 ⟨λe=>d.nil (su e),λe=>by
  obtain⟨j,g,i,k,m,n⟩:=d.cells (λe'=>e (by rw[e'];rfl));exact⟨j,g,i,k,by rw[Zqy];exact m,n⟩,by rw[d.len];simp⟩
theorem ZAy{s}{lo hi n:Int} :Zca (.mk 1 s [] lo hi n):=by
 intro h d A hA hM hn;rw[cntRe,uF rfl]at hn;have b2:partF boS (.mk 1 s [] lo hi n) A=(⟨A.sets++ [s],A.fol++ [[]]⟩,⟨[A.sets.length],[A.sets.length],false⟩):=by rw[partF];rfl
 rw[b2];obtain⟨a7,a1,l1,c1,k1,F,l2,H,k2,hg,K,r,a9,P,b0⟩:=hM;have m:=K.len;have a8:=r.len;have b5:=hA.wf;obtain⟨b1,B,u,w,g1,q1,q2,q3,r1,q4,q5⟩:=LX.app (Y:=UY) (st:=31) (e:=25) (te:=⟨4,32, .arr 4 23,[U 0,U 0,U 0,U 0]⟩) s rfl Zeq kr kr rfl dc rfl dc K om;subst q4;have a3:g1.get d=some (.arr [.sl a1 l1 c1 k1, .sl none 0 (some 0) 0, .sl none 0 (some 0) 0, .sl F l2 H k2, .b false] true):=by rw[q3.2 d a7 λo i=>a9 _ _ i rfl];exact hg
 obtain⟨y,a⟩: ∃y,y=g1.set d (some (.arr [.sl (some (r1,0)) B u w, .sl none 0 (some 0) 0, .sl none 0 (some 0) 0, .sl F l2 H k2, .b false] true)):=⟨_,rfl⟩;have X:Zi g1 d 0 [.sl (some (r1,0)) B u w]=some y:=by rw[a];simp[Zi,a3,splice]
 have N:y.get d=some (.arr [.sl (some (r1,0)) B u w, .sl none 0 (some 0) 0, .sl none 0 (some 0) 0, .sl F l2 H k2, .b false] true):=by rw[a,qc,uF rfl]
 have D:r1≠d:=om;have z:LX setC 4 y (some (r1,0)) B u w (A.sets++ [s]):=q2.fr (by rw[a];simp) λj g t=>by
  cases g;rw[a,qc,uE D]
 have L:LX Qe 1 y F l2 H k2 A.fol:=r.fr (by rw[a];simp;exact q3.1) λj g t=>by
  rw[a,qc,uE (P j 0 g),q3.2 j t λo i=>b0 j o 0 i g]
 obtain⟨b3,m3,d3,e3,g3,u1,u2,u3,q,u4,u5⟩:=LX.app (f:=λv:V=> [v]) (k:=1) (new:= [.sl none 0 (some 0) 0]) (out:=A.fol.map λl=>lst encI (ints l)) (Y:=UY) (st:=33) (e:=32) (te:=⟨1,24, .slice 3,[.sl none 0 (some 0) 0]⟩) (.sl none 0 (some 0) 0:V) rfl (λ_=>rfl) kr kr rfl dc rfl dc L.mapV (by simp;omega);subst u4;have C:d<y.nx:=by rw[a];simp;have:=q3.1;omega
 have a4:g3.get d=some (.arr [.sl (some (r1,0)) B u w, .sl none 0 (some 0) 0, .sl none 0 (some 0) 0, .sl F l2 H k2, .b false] true):=by rw[u3.2 d C λo i=>P _ _ i rfl];exact N
 obtain⟨G,c⟩: ∃G,G=g3.set d (some (.arr [.sl (some (r1,0)) B u w, .sl none 0 (some 0) 0, .sl none 0 (some 0) 0, .sl (some (q,0)) m3 d3 e3, .b false] true)):=⟨_,rfl⟩;have Z:Zi g3 d 3 [.sl (some (q,0)) m3 d3 e3]=some G:=by rw[c];simp[Zi,a4,splice]
 have a5:G.get d=some (.arr [.sl (some (r1,0)) B u w, .sl none 0 (some 0) 0, .sl none 0 (some 0) 0, .sl (some (q,0)) m3 d3 e3, .b false] true):=by rw[c,qc,uF rfl]
 have E:q≠d:=om;obtain⟨j3,v1,v2,v3,v4,v5⟩:=u2.cells sm;cases v1;subst v2;have b4:r1<y.nx:=by
  obtain⟨j,w1,w2,w3,w4,w5⟩:=z.cells sm;cases w1;exact w3
 have p:r1≠q:=om;have a0: ∀o,F≠some (r1,o):=λo i=>by
  by_cases he:A.fol= [];rw[r.nil he]at i;cases i;obtain⟨j,w1,w2,w3,w4,w5⟩:=r.cells he;rw[w1]at i;cases i;omega
 have O:G.get q=some (.arr (row Qe A.fol++ [.sl none 0 (some 0) 0]) true):=by
  rw[c,qc,uE E,v4,XA,Zqy];rfl
 have W:row Qe (A.fol++ [[]])=row Qe A.fol++ [.ts [] 0 none]:=by rw[XA];rfl
 refine⟨G.set q (some (.arr (row Qe (A.fol++ [[]])) true)),?_,?_⟩;refine Con.weakH (Zx UK (fn:=Tryz.f32) ?_);rw[Zn];refine Zh UK 105 Zs8 rfl ?_;refine⟨rfl,QX (n:=105) [4,5] kr ?_⟩;refine Zh UK 105 Zs9 rfl ?_;refine⟨rfl,Zz (b:=true) kr kr ?_⟩;refine Zm UK ZQz rfl ?_;refine⟨_,_,_,_,(Zr hg 0 1).trans rfl,_,_,_,_,(Zr hg 0 1).trans rfl,_,_,_,_,_,q1,_,X,_,_,_,_,(Zr N 3 1).trans rfl,_,_,_,_,_,u1,_,Z,?_⟩;refine Xc rr rfl ?_;refine⟨[], .agg (XL ⟨[A.sets.length],[A.sets.length],false⟩), .inl (.agg _ _ (.cons _ _ _ _ (.frz _ _ ?_) (.cons _ _ _ _ (.frz _ _ ?_) (.cons _ _ _ _ (.same _) .nil)))), .inr ⟨q,_,_,O,?_,rfl,rfl⟩⟩;rw[m];exact .ts _ _ _ none (λx hx=>by cases hx);rw[m];exact .ts _ _ _ none (λx hx=>by cases hx);rw[W];exact(WkL.refl _).append (.cons _ _ _ _ (.inr (.inl ⟨_,_,_,rfl,rfl,λx hx=>by cases hx⟩)) .nil)
 .refine⟨by simp[c];have:=u3.1;omega,some (r1,0),B,u,w,some (q,0),m3,d3,1,by rw[qc,uE (Ne.symm E)];exact a5,?_,?_,λj o g=>by cases g;exact D,λj o g=>by cases g;exact E,λj o o' g a6=>by cases g;cases a6;exact p rfl⟩
  .exact z.fr (by simp[c];exact u3.1) λj g t=>by
    cases g;rw[qc,uE p,c,qc,uE D,u3.2 r1 t λo i=>by
     exact a0 o i]
  .exact⟨λe=>by simp at e,λ_=>⟨q,rfl,rfl,by simp[c];exact v3,by rw[qc,uF rfl],v5⟩,by have:=u2.len;simp at this ⊢;omega⟩
end Go.Y
namespace Go.Y
open Go.Proofs Go.Sort
set_option maxRecDepth 100000
set_option maxHeartbeats 2000000
theorem Zqz{a:List Re}{i:Nat}(b:i<a.length):Zs 9 (List.drop ((i:Int).toNat*9) (row Zd a))=some (Zd a[i]):=by
 rw[qdq];exact Xw (f:=Zd) (k:=9) ZT b
theorem Zf2(b:Bool):Wk (.lb [.sl none 0 (some 0) 0, .sl none 0 (some 0) 0, .b b]) (.lb (XL ⟨[],[],b⟩)):=
 .inr ⟨_,_,rfl,rfl, .cons _ _ _ _ (.inr (.inl ⟨_,_,_,rfl,rfl,λx a=>by cases a⟩)) (.cons _ _ _ _ (.inr (.inl ⟨_,_,_,rfl,rfl,λx a=>by cases a⟩)) (.cons _ _ _ _ (.refl _) .nil))⟩
abbrev altS(A:Au0)(a:List Re)(i:Nat):Au0×Part:=partF.altF boS (a.take i) A ⟨[],[],false⟩
abbrev catS(A:Au0)(a:List Re)(i:Nat):Au0×Part:=partF.catF boS (a.take i) A ⟨[],[],true⟩
theorem ZAz(O:ZQ UY.P 75)(q:ZE UY.P 76){B:Nat}(hB:B<2 ^ 20){s}{a:List Re}{W d n:Int}(k:wfRe.wfRes B a)(a1:a.length<=B)(ih: ∀x∈a,Zca x):Zca (.mk 5 s a W d n):=by
 intro h l A N hM hn;rw[cntRe,uE dc,uE dc]at hn;have F:partF boS (.mk 5 s a W d n) A=altS A a a.length:=by rw[partF,altS,qm];rfl
 rw[F];have bnd: ∀i,AuB (altS A a i).1/\PaB (altS A a i).1.sets.length (altS A a i).2/\(altS A a i).1.sets.length<=300:=λi=>by
  obtain⟨X,Y,L⟩:=ZAr (a.take i) (VY k i) A N ⟨[],[],false⟩ (PaB.nil _ _);have L:(altS A a i).1.sets.length=A.sets.length+cntRe.cnts (a.take i):=L;exact⟨X,Y,by have:=Zb8 a i;omega⟩
 have u: ∀ {i} (d:i<a.length),altS A a (i+1)=((partF boS a[i] (altS A a i).1).1,⟨boS (altS A a i).2.first (partF boS a[i] (altS A a i).1).2.first,boS (altS A a i).2.last (partF boS a[i] (altS A a i).1).2.last,(altS A a i).2.empty||(partF boS a[i] (altS A a i).1).2.empty⟩):=λ{i} d=>by
  show partF.altF boS (a.take (i+1)) A ⟨[],[],false⟩=_;rw[qa d,Zmb]
 have o: ∀ {i} (d:i<a.length),(altS A a i).1.sets.length+cntRe a[i]<=300:=λ{i} d=>by
  have h1:(altS A a i).1.sets.length=A.sets.length+cntRe.cnts (a.take i):=(ZAr (a.take i) (VY k i) A N ⟨[],[],false⟩ (PaB.nil _ _)).2.2;have h2:=Zb8 a (i+1);rw[qa d,Zb9]at h2;omega
 obtain⟨H,h0,hP,hR⟩:=Wq (λi g=>MkA g l (altS A a i).1) (λi g w=> ∀d:i<a.length,Con UY 32 [p_P l, .agg (Zd a[i])] g λv C=>v= .agg (XL (partF boS a[i] (altS A a i).1).2)/\C=w) h a.length (by
  show MkA h l (altS A a 0).1;rw[altS,uQ,partF.altF];exact hM) (λi d g E=>by
  obtain⟨w,Z,c2⟩:=ih a[i] (qe d) (bnd i).1 E (o d);exact⟨w,λ_=>Z,by show MkA w l (altS A a (i+1)).1;rw[u d];exact c2⟩)
 refine⟨H a.length,?_,hP _ (qnq _)⟩;refine Zx UK (fn:=Tryz.f32) ?_;rw[Zn];refine Zh UK 105 Zs8 rfl ?_;refine⟨rfl,QX (n:=105) [4,5] kr ?_⟩;refine Zh UK 105 Zs9 rfl ?_;refine⟨rfl,Zz (b:=false) kr kr ?_⟩;refine Zh UK 105 Zwk rfl ?_;refine⟨rfl,Zz (b:=true) kr kr ?_⟩;refine Zh UK 105 ZQ0 rfl ?_;refine⟨rfl,Zwj [0,4,5,12,55,56,57] [0,4,5,12,55,56,57] (λm z g=> ∃i:Nat,z= [p_P l,JL, .lb (XL (altS A a i).2), .agg [.sl none 0 (some 0) 0, .sl none 0 (some 0) 0, .b true],lst Zd a,I a.length,I (i:Nat)]/\i<=a.length/\m=a.length-i/\g=H i) a.length ZA ?_ ?_⟩;refine⟨_, .cons _ _ _ _ (.refl _) (.cons _ _ _ _ (.refl _) (.cons _ _ _ _ (Zf2 false) (WkE.refl _))),0,?_,om,om,h0.symm⟩;rw[altS,uQ,partF.altF];rfl;rintro m z g ⟨i,rfl,d,rfl,rfl⟩;refine Zm UK ZQ1 rfl ?_;refine Zq (λc=> ?_) (λa0=> ?_)
 .have p:=hR i c c;have j:=u c;have y:=bnd i;have e:=Zap a[i] (Zdd k _ (qe c)) _ y.1;have r:=o c;have f:=Zqz c;generalize a[i]=x at p j e r f;obtain⟨xk,xs,xl,K,G,xn⟩:=x;rw[Zn]at p f;generalize altS A a i=S at y p j e r;generalize partF boS (.mk xk xs xl K G xn) S.1=T at p j e;refine⟨Zu c,_,_,_,_,_,_,_,_,_,_,_,f,p.mono λv g ⟨hv,E⟩=> ?_⟩;subst hv E;have l1:=y.2.1.fi.len;have l2:=y.2.1.la.len;have l3:=e.2.1.fi.len;have l4:=e.2.1.la.len;refine⟨_,_,_,_,_,_,_,rfl,_,_,_,Zb6 O q S.2.first T.2.first om om,_,_,_,Zb6 O q S.2.last T.2.last om om,?_⟩;have next: ∀b:Bool,b=(S.2.empty||T.2.empty)->Zde 105 [0,4,5,12,55,56,57] [0,4,5,12,55,56,57] (λm z g=> ∃i:Nat,z= [p_P l,JL, .lb (XL (altS A a i).2), .agg [.sl none 0 (some 0) 0, .sl none 0 (some 0) 0, .b true],lst Zd a,I a.length,I (i:Nat)]/\i<=a.length/\m=a.length-i/\g=H i) (a.length-i) (Xb (post (flat (QT (post (flat (ZP (post (bk_ B_32)))))))))
    (VQ [4,5] (Zd6 UY 105 [4,5] (JV (post B_32)) ((post B_32).drop 1) (FinS UY Tryz.f32 (AfterZ λv C=>v= .agg (XL (altS A a a.length).2)/\C=H a.length))))
    .normal 105 [p_P l,JL, .lb [lst encI (ints (boS S.2.first T.2.first)),lst encI (ints (boS S.2.last T.2.last)), .b b], .agg [.sl none 0 (some 0) 0, .sl none 0 (some 0) 0, .b true],lst Zd a,I a.length,I (wW (((i:Nat):Int)+1))] (H (i+1)):=λb D=>
   ⟨rfl,a.length-(i+1),om,_,WkE.refl _,i+1,by rw[Ze om,j,D];rfl,om,rfl,rfl⟩
  exact Zf (λt=>next _ (by rw[t];rfl)) (λt=>next _ (by rw[t];rfl))
 .have t:i=a.length:=om;subst t;refine Vr kr (ZR rfl ⟨rfl,[4,5],rfl,?_⟩);refine Zo UK Zqx rfl ?_;exact finC rr rfl (.now ⟨rfl,rfl⟩)
end Go.Y
namespace Go.Y
open Go.Proofs Go.Sort
set_option maxRecDepth 100000
set_option maxHeartbeats 2000000
theorem Zwl(hs:ZQ UY.P 75)(u:ZE UY.P 76){B:Nat}(hB:B<2 ^ 20){s}{a:List Re}{C c n:Int}(o:wfRe.wfRes B a)(a1:a.length<=B)(ih: ∀x∈a,Zca x):Zca (.mk 4 s a C c n):=by
 intro h j A L N hn;rw[cntRe,uE dc,uE dc]at hn;have w:partF boS (.mk 4 s a C c n) A=catS A a a.length:=by rw[partF,catS,qm];rfl
 rw[w];have bnd: ∀i,AuB (catS A a i).1/\PaB (catS A a i).1.sets.length (catS A a i).2/\(catS A a i).1.sets.length=A.sets.length+cntRe.cnts (a.take i):=λi=>
  Zqp (a.take i) (VY o i) A L ⟨[],[],true⟩ (PaB.nil _ _)
 have p: ∀ {i} (c:i<a.length),catS A a (i+1)=catP boS (partF boS a[i] (catS A a i).1).1 (catS A a i).2 (partF boS a[i] (catS A a i).1).2:=λ{i} c=>by
  show partF.catF boS (a.take (i+1)) A ⟨[],[],true⟩=_;rw[qa c,Zf0]
 have k: ∀ {i} (c:i<a.length),(catS A a i).1.sets.length+cntRe a[i]<=300:=λ{i} c=>by
  have h1:=(bnd i).2.2;have K:=Zb8 a (i+1);rw[qa c,Zb9]at K;omega
 obtain⟨H,G,O,W⟩:=Wq (λi g=>MkA g j (catS A a i).1) (λi g F=> ∀c:i<a.length,∃f,(Con UY 32 [p_P j, .agg (Zd a[i])] g λv r=>v= .agg (XL (partF boS a[i] (catS A a i).1).2)/\r=f)/\
   Con UY 73 [p_P j, .agg (XL (catS A a i).2), .agg (XL (partF boS a[i] (catS A a i).1).2)] f λv r=>v= .agg (XL (catS A a (i+1)).2)/\r=F) h a.length (by
  show MkA h j (catS A a 0).1;rw[catS,uQ,partF.catF];exact N) (λi c g Z=>by
  obtain⟨f,E,y⟩:=ih a[i] (qe c) (bnd i).1 Z (k c);have q:=Zap a[i] (Zdd o _ (qe c)) _ (bnd i).1;have X:=k c;have z:=(bnd i).2.1.mono (show(catS A a i).1.sets.length<=(partF boS a[i] (catS A a i).1).1.sets.length from om);refine⟨Za6 f j (partF boS a[i] (catS A a i).1).1.fol (catS A a i).2.last (partF boS a[i] (catS A a i).1).2.first (catS A a i).2.last.length,λ_=>⟨f,E,?_⟩,?_⟩;rw[p c];exact Zqt hs u q.1 y om z q.2.1
  .show MkA _ j (catS A a (i+1)).1;rw[p c];exact Zqu q.1 y z q.2.1)
 refine⟨H a.length,?_,O _ (qnq _)⟩;refine Zx UK (fn:=Tryz.f32) ?_;rw[Zn];refine Zh UK 105 Zs8 rfl ?_;refine⟨rfl,QX (n:=105) [4,5] kr ?_⟩;refine Zh UK 105 Zs9 rfl ?_;refine⟨rfl,Zz (b:=false) kr kr ?_⟩;refine Zh UK 105 Zwk rfl ?_;refine⟨rfl,Zz (b:=false) kr kr ?_⟩;refine Zh UK 105 ZAx rfl ?_;refine ifT rfl ⟨rfl,Zz (b:=true) kr kr ?_⟩;refine Zh UK 105 ZKc rfl ?_;refine⟨rfl,Zwj [0,4,5,86,87,88] [0,4,5,86,87,88] (λm D g=> ∃i:Nat,D= [p_P j,JL, .lb (XL (catS A a i).2),lst Zd a,I a.length,I (i:Nat)]/\i<=a.length/\m=a.length-i/\g=H i) a.length ZA ?_ ?_⟩;refine⟨_, .cons _ _ _ _ (.refl _) (.cons _ _ _ _ (.refl _) (.cons _ _ _ _ (Zf2 true) (WkE.refl _))),0,?_,om,om,G.symm⟩;rw[catS,uQ,partF.catF];rfl;rintro m D g ⟨i,rfl,c,rfl,rfl⟩;refine Zm UK ZKd rfl ?_;refine Zq (λe=> ?_) (λa0=> ?_);obtain⟨f,t,l⟩:=W i e e;have d:=Zqz e;generalize a[i]=x at t l d;obtain⟨xk,xs,xl,a3,a2,xn⟩:=x;rw[Zn]at t d;exact⟨Zu e,_,_,_,_,_,_,_,_,_,_,_,d,_,_,_,_,_,_,_,f,t,_,_,_,_,_,_,_,_,l,rfl,a.length-(i+1),om,_,WkE.refl _,i+1,by rw[Ze om];rfl,om,rfl,rfl⟩;have Y:i=a.length:=om;subst Y;refine Vr kr (ZR rfl ⟨rfl,[4,5],rfl,?_⟩);refine Zo UK Zqx rfl ?_;exact finC rr rfl (.now ⟨rfl,rfl⟩)
theorem Zwm(hs:ZQ UY.P 75)(u:ZE UY.P 76){B:Nat}(hB:B<2 ^ 20){s}{a:List Re}{C c n:Int}(o:wfRe.wfRes B a)(a1:a.length<=B)(ih: ∀x∈a,Zca x):Zca (.mk 7 s a C c n):=by
 intro h j A L N hn;rw[cntRe,uE dc,uE dc]at hn;have w:partF boS (.mk 7 s a C c n) A=catS A a a.length:=by rw[partF,catS,qm];rfl
 rw[w];have bnd: ∀i,AuB (catS A a i).1/\PaB (catS A a i).1.sets.length (catS A a i).2/\(catS A a i).1.sets.length=A.sets.length+cntRe.cnts (a.take i):=λi=>
  Zqp (a.take i) (VY o i) A L ⟨[],[],true⟩ (PaB.nil _ _)
 have p: ∀ {i} (c:i<a.length),catS A a (i+1)=catP boS (partF boS a[i] (catS A a i).1).1 (catS A a i).2 (partF boS a[i] (catS A a i).1).2:=λ{i} c=>by
  show partF.catF boS (a.take (i+1)) A ⟨[],[],true⟩=_;rw[qa c,Zf0]
 have k: ∀ {i} (c:i<a.length),(catS A a i).1.sets.length+cntRe a[i]<=300:=λ{i} c=>by
  have h1:=(bnd i).2.2;have K:=Zb8 a (i+1);rw[qa c,Zb9]at K;omega
 obtain⟨H,G,O,W⟩:=Wq (λi g=>MkA g j (catS A a i).1) (λi g F=> ∀c:i<a.length,∃f,(Con UY 32 [p_P j, .agg (Zd a[i])] g λv r=>v= .agg (XL (partF boS a[i] (catS A a i).1).2)/\r=f)/\
   Con UY 73 [p_P j, .agg (XL (catS A a i).2), .agg (XL (partF boS a[i] (catS A a i).1).2)] f λv r=>v= .agg (XL (catS A a (i+1)).2)/\r=F) h a.length (by
  show MkA h j (catS A a 0).1;rw[catS,uQ,partF.catF];exact N) (λi c g Z=>by
  obtain⟨f,E,y⟩:=ih a[i] (qe c) (bnd i).1 Z (k c);have q:=Zap a[i] (Zdd o _ (qe c)) _ (bnd i).1;have X:=k c;have z:=(bnd i).2.1.mono (show(catS A a i).1.sets.length<=(partF boS a[i] (catS A a i).1).1.sets.length from om);refine⟨Za6 f j (partF boS a[i] (catS A a i).1).1.fol (catS A a i).2.last (partF boS a[i] (catS A a i).1).2.first (catS A a i).2.last.length,λ_=>⟨f,E,?_⟩,?_⟩;rw[p c];exact Zqt hs u q.1 y om z q.2.1
  .show MkA _ j (catS A a (i+1)).1;rw[p c];exact Zqu q.1 y z q.2.1)
 refine⟨H a.length,?_,O _ (qnq _)⟩;refine Zx UK (fn:=Tryz.f32) ?_;rw[Zn];refine Zh UK 105 Zs8 rfl ?_;refine⟨rfl,QX (n:=105) [4,5] kr ?_⟩;refine Zh UK 105 Zs9 rfl ?_;refine⟨rfl,Zz (b:=false) kr kr ?_⟩;refine Zh UK 105 Zwk rfl ?_;refine⟨rfl,Zz (b:=false) kr kr ?_⟩;refine Zh UK 105 ZAx rfl ?_;refine ifF rfl ⟨rfl,Zz (b:=true) kr kr ?_⟩;refine Zh UK 105 ZKc rfl ?_;refine⟨rfl,Zwj [0,4,5,86,87,88] [0,4,5,86,87,88] (λm D g=> ∃i:Nat,D= [p_P j,JL, .lb (XL (catS A a i).2),lst Zd a,I a.length,I (i:Nat)]/\i<=a.length/\m=a.length-i/\g=H i) a.length ZA ?_ ?_⟩;refine⟨_, .cons _ _ _ _ (.refl _) (.cons _ _ _ _ (.refl _) (.cons _ _ _ _ (Zf2 true) (WkE.refl _))),0,?_,om,om,G.symm⟩;rw[catS,uQ,partF.catF];rfl;rintro m D g ⟨i,rfl,c,rfl,rfl⟩;refine Zm UK ZKd rfl ?_;refine Zq (λe=> ?_) (λa0=> ?_);obtain⟨f,t,l⟩:=W i e e;have d:=Zqz e;generalize a[i]=x at t l d;obtain⟨xk,xs,xl,a3,a2,xn⟩:=x;rw[Zn]at t d;exact⟨Zu e,_,_,_,_,_,_,_,_,_,_,_,d,_,_,_,_,_,_,_,f,t,_,_,_,_,_,_,_,_,l,rfl,a.length-(i+1),om,_,WkE.refl _,i+1,by rw[Ze om];rfl,om,rfl,rfl⟩;have Y:i=a.length:=om;subst Y;refine Vr kr (ZR rfl ⟨rfl,[4,5],rfl,?_⟩);refine Zo UK Zqx rfl ?_;exact finC rr rfl (.now ⟨rfl,rfl⟩)
end Go.Y
namespace Go.Y
open Go.Proofs Go.Sort
set_option maxRecDepth 100000
set_option maxHeartbeats 2000000
theorem ZFd(a b:Int):leI a b=decide (a<=b):=by
 unfold leI;by_cases h:a<=b<;>simp[h]
abbrev repS(A:Au0)(x:Re)(b a:Int)(i:Nat):Au0×Part:=repP boS (partF boS x) b a (Xn b a) i 0 A ⟨[],[],true⟩
theorem Zwn(hs:ZQ UY.P 75)(a0:ZE UY.P 76){B:Nat}{k:Int}{s:S4}{x:Re}{a d n:Int}(h1:0<=a)(h2:a<=8)(h3:d<=8)(a5:wfRe B x)(ih:Zca x){h}{p:Nat}{A:Au0}(hA:AuB A)(hM:MkA h p A)(hn:A.sets.length+Xn a d*cntRe x<=300):
  ∃g,(Con UY 74 [p_P p, .agg (Zd (.mk k s [x] a d n))] h λv r=>v= .agg (XL (repS A x a d (Xn a d)).2)/\r=g)/\MkA g p (repS A x a d (Xn a d)).1:=by
 have hN:=Zjr h2 h3;have a4:=Zma k s [x] a d n h1;have a8: ∀i,repS A x a d (i+1)=Zou boS (partF boS x) a d (Xn a d) i (repS A x a d i):=λi=>by
  rw[repS,Zqv,uJ]
 have bnd: ∀i,i<=Xn a d->AuB (repS A x a d i).1/\PaB (repS A x a d i).1.sets.length (repS A x a d i).2/\(repS A x a d i).1.sets.length=A.sets.length+i*cntRe x:=λi _=>
  ZFa (λA hA=>Zap x a5 A hA) a d _ i 0 A _ hA (PaB.nil _ _)
 have a2: ∀i,i<Xn a d->(repS A x a d i).1.sets.length+cntRe x<=300:=λi G=>by
  have e1:=(bnd i om).2.2;have e2:(i+1)*cntRe x<=Xn a d*cntRe x:=Nat.mul_le_mul_right _ G;rw[ur,Nat.one_mul]at e2;omega
 generalize b0:Xn a d=N at*;obtain⟨H,h0,hP,hR⟩:=Wq (λi g=>MkA g p (repS A x a d i).1) (λi g g'=> ∃F g2,(Con UY 32 [p_P p, .agg (Zd x)] g λv r=>v= .agg (XL (partF boS x (repS A x a d i).1).2)/\r=F)/\
   (d<0/\i+1=N->Con UY 119 [p_P p,lst encI (ints (partF boS x (repS A x a d i).1).2.last),lst encI (ints (partF boS x (repS A x a d i).1).2.first)] F λv r=>v= .tup []/\r=g2)/\(¬(d<0/\i+1=N)->g2=F)/\
   Con UY 73 [p_P p, .agg (XL (repS A x a d i).2), .agg (XL ⟨(partF boS x (repS A x a d i).1).2.first,(partF boS x (repS A x a d i).1).2.last,(partF boS x (repS A x a d i).1).2.empty||decide (a<=(i:Int))⟩)] g2 λv r=>v= .agg (XL (repS A x a d (i+1)).2)/\r=g') h N (by
  show MkA h p (repS A x a d 0).1;rw[repS,repP];exact hM) (λi G g hg=>by
  obtain⟨F,c1,Z⟩:=ih (bnd i om).1 hg (a2 i G);have q:=Zap x a5 _ (bnd i om).1;have b1:=a2 i G;have ho:=(bnd i om).2.1.mono (show(repS A x a d i).1.sets.length<=(partF boS x (repS A x a d i).1).1.sets.length from om);rw[a8 i];unfold Zou;generalize repS A x a d i=S at*;generalize partF boS x S.1=T at*;by_cases hc:d<0/\i+1=N;have m1:=Zer q.1 Z q.2.1.la q.2.1.fi T.2.last.length (qnq _);rw[qm]at m1;have a1:AuB (Zd8 boS T.1 T.2):=q.1.link q.2.1.fi.2;rw[uF hc];refine⟨Za6 (Za6 F p T.1.fol T.2.last T.2.first T.2.last.length) p (Zd8 boS T.1 T.2).fol S.2.last T.2.first S.2.last.length,⟨F,Za6 F p T.1.fol T.2.last T.2.first T.2.last.length,c1,λ_=>Zwd hs a0 q.1 Z om q.2.1.la q.2.1.fi,λhn=>absurd hc hn,?_⟩,?_⟩;exact Zqt hs a0 a1 m1 (show T.1.sets.length<=300 from om) ho ⟨q.2.1.fi,q.2.1.la⟩;exact Zqu a1 m1 ho ⟨q.2.1.fi,q.2.1.la⟩
  .rw[uE hc];refine⟨Za6 F p T.1.fol S.2.last T.2.first S.2.last.length,⟨F,F,c1,λh=>absurd h hc,λ_=>rfl,?_⟩,?_⟩;exact Zqt hs a0 q.1 Z om ho ⟨q.2.1.fi,q.2.1.la⟩
   .exact Zqu q.1 Z ho ⟨q.2.1.fi,q.2.1.la⟩)
 refine⟨H N,?_,hP _ (qnq _)⟩;refine Zx UK (fn:=Tryz.f74) ?_;rw[Zn]at a4 ⊢;refine Zh UK 52 (λK=>ZQo p k s.1 s.2.1 s.2.2.1 s.2.2.2 (row Zd [x]) 1 a d n h K) rfl ?_;refine⟨_,a4,rfl,ZP2 [0,2,3,4,5,6,12,13] [0,2,3,4,5,6,12,13] rfl kr (λm Y g=> ∃i:Nat,Y= [p_P p, .undef,reLb k s [x] a d n,JL, .lb (XL (repS A x a d i).2),I (N:Nat),I (N:Nat),I (i:Nat)]/\i<=N/\m=N-i/\g=H i) N ZA ?_ ?_⟩;refine⟨_, .cons _ _ _ _ (.refl _) (.cons _ _ _ _ (.refl _) (.cons _ _ _ _ (.refl _) (.cons _ _ _ _ (.refl _) (.cons _ _ _ _ (Zf2 true) (WkE.refl _))))),0,?_,om,om,h0.symm⟩;rw[repS,repP];rfl;rintro m Y g ⟨i,rfl,G,rfl,rfl⟩;refine Zm UK (λK=>ZQp p k s.1 s.2.1 s.2.2.1 s.2.2.2 (row Zd [x]) 1 a d n (N:Nat) (N:Nat) none (row encI (ints (repS A x a d i).2.first)) (ints (repS A x a d i).2.first).length none (row encI (ints (repS A x a d i).2.last)) (ints (repS A x a d i).2.last).length (repS A x a d i).2.empty (i:Nat) (H i) K) rfl ?_;refine Zq (λa7=> ?_) (λb2=> ?_)
 .obtain⟨F,g2,c1,Z,c3,c4⟩:=hR i a7;have W:Zs 9 (row Zd [x])=some (Zd x):=by
   have:=Xw (f:=Zd) (k:=9) ZT (l:= [x]) (i:=0) sm
   rwa [Nat.zero_mul]at this
  obtain⟨w,C,y,j,e,z⟩:=x;rw[Zn]at c1 W;generalize partF boS (.mk w C y j e z) (repS A (.mk w C y j e z) a d i).1=T at c1 Z c3 c4;refine⟨⟨om,om⟩,_,_,_,_,_,_,_,_,_,_,_,W,c1.mono λv g ⟨hv,hg⟩=> ?_⟩;subst hv hg;refine⟨_,_,_,_,_,_,_,rfl,?_⟩;have a6:leI a ((i:Nat):Int)=decide (a<=(i:Int)):=ZFd _ _;have X: ∀(b:Bool),b=(T.2.empty||decide (a<=(i:Int)))->Con UY 73 [p_P p, .agg (XL (repS A (.mk w C y j e z) a d i).2), .agg [lst encI (ints T.2.first),lst encI (ints T.2.last), .b b]] g2 λv r=> ∃(O:List V) (l:Nat) (c:Option Nat) (o:List V) (u:Nat) (t:Option Nat) (L:Bool),v= .agg [.ts O l c, .ts o u t, .b L]/\
    Zdz UY 52 [0,2,3,4,5,6,12,13] [0,2,3,4,5,6,12,13] (λm Y g=> ∃i:Nat,Y= [p_P p, .undef,reLb k s [.mk w C y j e z] a d n,JL, .lb (XL (repS A (.mk w C y j e z) a d i).2),I (N:Nat),I (N:Nat),I (i:Nat)]/\i<=N/\m=N-i/\g=H i) (N-i) (Xb (post B_74)) ((post B_74).drop 1)
     (FinS UY Tryz.f74 (AfterZ λv r=>v= .agg (XL (repS A (.mk w C y j e z) a d N).2)/\r=H N)) .normal 52 [p_P p, .undef,reLb k s [.mk w C y j e z] a d n,JL, .lb [.ts O l c, .ts o u t, .b L],I (N:Nat),I (N:Nat),I (wW (((i:Nat):Int)+1))] r:=λb q=>by
   subst q;exact c4.mono λv g ⟨hv,hg⟩=>⟨_,_,_,_,_,_,_,hv,rfl,N-(i+1),om,_,WkE.refl _,i+1,by rw[Ze om];rfl,om,rfl,hg⟩
  have E: ∀g',g'=g2->If T.2.empty (Con UY 73 [p_P p, .agg (XL (repS A (.mk w C y j e z) a d i).2), .agg [lst encI (ints T.2.first),lst encI (ints T.2.last), .b true]] g' λv r=> ∃(O:List V) (l:Nat) (c:Option Nat) (o:List V) (u:Nat) (t:Option Nat) (L:Bool),v= .agg [.ts O l c, .ts o u t, .b L]/\
    Zdz UY 52 [0,2,3,4,5,6,12,13] [0,2,3,4,5,6,12,13] (λm Y g=> ∃i:Nat,Y= [p_P p, .undef,reLb k s [.mk w C y j e z] a d n,JL, .lb (XL (repS A (.mk w C y j e z) a d i).2),I (N:Nat),I (N:Nat),I (i:Nat)]/\i<=N/\m=N-i/\g=H i) (N-i) (Xb (post B_74)) ((post B_74).drop 1)
     (FinS UY Tryz.f74 (AfterZ λv r=>v= .agg (XL (repS A (.mk w C y j e z) a d N).2)/\r=H N)) .normal 52 [p_P p, .undef,reLb k s [.mk w C y j e z] a d n,JL, .lb [.ts O l c, .ts o u t, .b L],I (N:Nat),I (N:Nat),I (wW (((i:Nat):Int)+1))] r)
    (Con UY 73 [p_P p, .agg (XL (repS A (.mk w C y j e z) a d i).2), .agg [lst encI (ints T.2.first),lst encI (ints T.2.last), .b (leI a ((i:Nat):Int))]] g' λv r=> ∃(O:List V) (l:Nat) (c:Option Nat) (o:List V) (u:Nat) (t:Option Nat) (L:Bool),v= .agg [.ts O l c, .ts o u t, .b L]/\
    Zdz UY 52 [0,2,3,4,5,6,12,13] [0,2,3,4,5,6,12,13] (λm Y g=> ∃i:Nat,Y= [p_P p, .undef,reLb k s [.mk w C y j e z] a d n,JL, .lb (XL (repS A (.mk w C y j e z) a d i).2),I (N:Nat),I (N:Nat),I (i:Nat)]/\i<=N/\m=N-i/\g=H i) (N-i) (Xb (post B_74)) ((post B_74).drop 1)
     (FinS UY Tryz.f74 (AfterZ λv r=>v= .agg (XL (repS A (.mk w C y j e z) a d N).2)/\r=H N)) .normal 52 [p_P p, .undef,reLb k s [.mk w C y j e z] a d n,JL, .lb [.ts O l c, .ts o u t, .b L],I (N:Nat),I (N:Nat),I (wW (((i:Nat):Int)+1))] r):=by
   rintro g' rfl;exact Zf (λhe=>X true (by rw[he];rfl)) (λhe=>X _ (by rw[he,a6];rfl))
  refine Xr (λa3=>Zf (λD=> ?_) (λD=> ?_)) (λa9=> ?_)
  .have D:((i:Nat):Int)=(N:Int)-1:=by
    have D:=D;rw[ZI om om]at D;simpa using D
   exact(Z ⟨a3,om⟩).mono λv g ⟨hv,hg⟩=>⟨hv,E g hg⟩
  .have D:((i:Nat):Int)≠(N:Int)-1:=by
    have D:=D;rw[ZI om om]at D;simpa using D
   exact E _ (c3 (λhh=>D om)).symm
  .exact E _ (c3 (λhh=>om)).symm
 .have he:i=N:=om;subst he;refine Zok [4,5] kr rfl rfl ?_;refine Zo UK (λK=>ZQq none (row encI (ints (repS A x a d i).2.first)) (ints (repS A x a d i).2.first).length none (row encI (ints (repS A x a d i).2.last)) (ints (repS A x a d i).2.last).length false (repS A x a d i).2.empty (H i) K) rfl ?_;exact finC rr rfl (.now ⟨rfl,rfl⟩)
end Go.Y
namespace Go.Y
open Go.Proofs Go.Sort
set_option maxRecDepth 100000
set_option maxHeartbeats 2000000
theorem ZA0(u:ZQ UY.P 75)(d:ZE UY.P 76){B:Nat}{s}{x}{a c n:Int}(l:0<=a)(m:a<=8)(o:c<=8)(f:wfRe B x)(y:Zca x):Zca (.mk 6 s [x] a c n):=by
 intro h z A p q j;rw[cntRe,uE dc,uF rfl,cntRe.cnts,cntRe.cnts,Nat.add_zero]at j;have e:partF boS (.mk 6 s [x] a c n) A=repS A x a c (Xn a c):=by rw[partF];rfl
 rw[e];obtain⟨g,i,t⟩:=Zwn u d (k:=6) (s:=s) (n:=n) l m o f y p q j;refine⟨g,?_,t⟩;refine Zx UK (fn:=Tryz.f32) ?_;rw[Zn]at i ⊢;refine Zh UK 105 Zs8 rfl ?_;refine⟨rfl,QX (n:=105) [4,5] kr ?_⟩;refine Zh UK 105 Zs9 rfl ?_;refine⟨rfl,Zz (b:=false) kr kr ?_⟩;refine Zh UK 105 Zwk rfl ?_;refine⟨rfl,Zz (b:=false) kr kr ?_⟩;refine Zh UK 105 ZAx rfl ?_;refine ifF rfl ⟨rfl,Zz (b:=false) kr kr ?_⟩;refine Zm UK ZKe rfl ?_;refine ifT rfl (i.mono λv g ⟨w,r⟩=> ?_);subst w r;exact⟨_,_,_,_,_,_,_,rfl,Xc rr rfl (AfterZ.now ⟨rfl,rfl⟩)⟩
theorem Zta{k:Int}{s}{l c n:Int}(d:k≠1)(f:k≠4)(g:k≠5)(i:k≠6)(j:k≠7):Zca (.mk k s [] l c n):=by
 intro h w A u t v;have a:partF boS (.mk k s [] l c n) A=(A,⟨[],[],true⟩):=by
  rw[partF];dsimp only;rw[uE d,uE g,uE (λe=>e.elim f j),uE i]
 rw[a];refine⟨h,?_,t⟩;have m:(k==1)=false:=su d;have o:(k==4)=false:=su f;have p:(k==5)=false:=su g;have q:(k==6)=false:=su i;have r:(k==7)=false:=su j;refine Zx UK (fn:=Tryz.f32) ?_;rw[Zn];refine Zh UK 105 Zs8 rfl ?_;refine⟨rfl,QX (n:=105) [4,5] kr ?_⟩;refine Zh UK 105 Zs9 rfl ?_;rw[m];refine⟨rfl,Zz (b:=false) kr kr ?_⟩;refine Zh UK 105 Zwk rfl ?_;rw[p];refine⟨rfl,Zz (b:=false) kr kr ?_⟩;refine Zh UK 105 ZAx rfl ?_;refine ifF o ?_;rw[r];refine⟨rfl,Zz (b:=false) kr kr ?_⟩;refine Zm UK ZKe rfl ?_;refine ifF q ⟨rfl,[4,5],rfl,ZE6 [4,5] (vs:= [JL,ZFc]) [JL, .lb (XL ⟨[],[],true⟩)] kr ZA rfl (.cons _ _ _ _ (.refl _) (.cons _ _ _ _ (Zf2 true) .nil)) ?_⟩;refine Zo UK Zqx rfl ?_;exact finC rr rfl (.now ⟨rfl,rfl⟩)
structure PX(r:Re):Prop where
 p:Zca r
mutual
theorem ZDe(e:ZQ UY.P 75)(a:ZE UY.P 76){B:Nat}(f:B<2 ^ 20): ∀r:Re,wfRe B r->PX r
 | .mk k s b D C n,h=>by
  rw[wfRe]at h;obtain⟨v,w,g,d⟩:=h;have c:=Zwo e a f b d;have c: ∀x∈b,Zca x:=λx z=>(c x z).p;refine⟨?_⟩;by_cases i:k=4;subst i;exact Zwl e a f d g c;by_cases j:k=5;subst j;exact ZAz e a f d g c;by_cases m:k=7;subst m;exact Zwm e a f d g c;by_cases l:k=6;subst l;obtain⟨q,t,A,u⟩:=v rfl;obtain⟨x,rfl⟩:=List.length_eq_one_iff.1 u;exact ZA0 e a q t om (Zdd d x sm) (c x sm);have y:=w i j l m;subst y;by_cases o:k=1;subst o;exact ZAy;exact Zta o i j l m
theorem Zwo(d:ZQ UY.P 75)(a:ZE UY.P 76){B:Nat}(c:B<2 ^ 20): ∀l:List Re,wfRe.wfRes B l-> ∀x∈l,PX x
 | [],_,x,b=>by cases b
 |r::l,h,x,b=>by
  rw[wfRe.wfRes]at h;have f:=ZDe d a c r h.1;have g:=Zwo d a c l h.2;rcases qu.1 b with e|b;rw[e];exact f;exact g x b
end
theorem ZQ2(c:ZQ UY.P 75)(a:ZE UY.P 76){B:Nat}(b:B<2 ^ 20){r}(h:wfRe B r):Zca r:=(ZDe c a b r h).p
end Go.Y
namespace Go.Y
open Go.Proofs
set_option maxRecDepth 1000000
set_option maxHeartbeats 0
theorem ZQ3{k s0 s1 s2 s3 kc kn lo hi gn h}(K):CP UY 10 (flat (Za Tryz.f10)) (.agg (R9 k s0 s1 s2 s3 kc kn none lo hi gn)::Rp 46) h [2,3] K=(∃a,(PCon UY 29 [.agg (R9 k s0 s1 s2 s3 kc kn none lo hi gn)] λv=>v=.b a)/\If (!a) (K .ret 47 [.lb [S0,S0,S0,S0, .b false],I 5] h) (∃b,(PCon UY 30 [.agg (R9 k s0 s1 s2 s3 kc kn none lo hi gn)] λv=>v=.b b)/\If b (K .ret 47 [.lb [S0,S0,S0,S0, .b false],I 5] h) (∃c,(PCon UY 31 [.agg (R9 k s0 s1 s2 s3 kc kn none lo hi gn)] λv=>v=I c)/\If (ltI 300 c) (K .ret 47 [.lb [S0,S0,S0,S0, .b false],I 2] h) (Con UY 32 [p_P h.nx,.agg (R9 k s0 s1 s2 s3 kc kn none lo hi gn)] (h.push (YObj.arr [S0,S0,S0,S0,.b false] true)) fun(v:V) (N:Heap)=> ∃d e f g i j l,v=.agg [J d e f,J g i j,.b l]/\ ∃m n o,(PCon UY 33 [J d e f] λv=>v=J m n o)/\ ∃q r s,(PCon UY 33 [J g i j] fun(v:V)=>v=J q r s)/\ ∃t,Zi N h.nx 1 [J m n o]=some t/\ ∃u,Zi t h.nx 2 [J q r s]=some u/\ ∃w,Zi u h.nx 4 [.b l]=some w/\ ∃x y z p A B C D E F G H L,Zb w h.nx 0 5=some [J x y z,J p A B,J C D E,J F G H,.b L]/\K .ret 47 [.lb [J x y z,J p A B,J C D E,J F G H, .b L],I (0:Int)] w)))):=kr
end Go.Y
namespace Go.Y
open Go.Proofs Go.Sort
set_option maxRecDepth 100000
set_option maxHeartbeats 2000000
theorem ZFe(l:List Int)(h)(c):Frz h (.ts (row encI l) l.length c) (lst encI l):= .ts _ _ _ none (λx a=>by cases a)
theorem Zwp(l:List Int)(h:l.length<2 ^ 29):PCon UY 33 [lst encI l] (· =lst encI l):=by
 refine Zv UK (fn:=Tryz.f33) rfl ZQs rfl ?_;by_cases b:l= [];subst b;refine⟨λ_=>ZB rr rfl (Jq encI _ _ _) rfl, .inr ⟨kr,ZB rr rfl (ZFe [] _ _) rfl⟩⟩;have f:0<l.length:=List.length_pos_iff.2 b;refine⟨λe=>absurd e om, .inl ?_⟩;obtain⟨m,d⟩: ∃m,l.length=m+1:=⟨l.length-1,om⟩;have a:=Zlq (Y:=UY) (st:=32) (e:=3) (te:=⟨1,8, .int .i64,[I 0]⟩) kr kr dc dc (cs:=row encI l) (c:=row encI l) (n:=m) (cap:=none) (by rw[<-d];exact ZC (by rw[WI];exact uY _)) (Zei l) om .empty;rw[<-d]at a;refine⟨_,_,_,_,_,a,ZB rr rfl (.sl _ _ _ _ _ (row encI l) true (row encI l) (row encI l) none (by simp[qk]) (by rw[ql];exact ZC (by rw[WI];exact uY _)) (λx g=>by cases g) dc (Zej _ _)) rfl⟩
theorem LX.frzD{q:Type}{f:q->List V}{k:Nat}{h}{a}{l:Nat}{c}{p:Nat}{b:List q}{D:List Nat}(v:k≠0)(i: ∀x,(f x).length=k)(e: ∀x,ZZ (f x)=true)(m:LX f k h a l c p b)(r: ∀j o,a=some (j,o)->j∈D):
  Frz (Vi h D) (.sl a l c p) (lst f b):=by
 have d:=m.len;by_cases g:b= [];have s:=m.nil g;subst g s d;exact .sln _ _ _ (λx n=>by cases n);obtain⟨w,rfl,rfl,u,t,_⟩:=m.cells g;subst d;exact .sl _ _ _ _ _ (row f b) true (row f b) _ _ (by rw[QK,uF (r _ _ rfl),t]) (by rw[ql];exact ZC (Xf i b).symm) (λx n=>by cases n) v (Xa _ (Jc e b))
theorem Zwq(L:ZQ UY.P 75)(s:ZE UY.P 76){B:Nat}(C:B<2 ^ 20){r:Re}(w:wfRe B r){h}{k:Nat}{A:Au0}(z:AuB A)(D:MkA h k A)(H:A.sets.length+cntRe r<=300):
  Con UY 32 [p_P k, .agg (Zd r)] h λv x=>v= .agg (XL (partF boS r A).2)/\x.get k=some (.arr [lst setC (partF boS r A).1.sets, .sl none 0 (some 0) 0, .sl none 0 (some 0) 0,lst Qe (partF boS r A).1.fol, .b false] true):=by
 obtain⟨g,y,a⟩:=ZQ2 L s C w z D H;generalize partF boS r A=S at y a;obtain⟨G,f,Z,O,X,i,l2,W,Y,E,p,q,t,u,K⟩:=a;refine Con.coolR (y.mono λv x ⟨N,F⟩=> ?_);subst N F;have m: ∀j o,f=some (j,o)->j∈(f.toList.map (·.1)++i.toList.map (·.1)):=λj o e=>by rw[e];simp
 have n: ∀j o,i=some (j,o)->j∈(f.toList.map (·.1)++i.toList.map (·.1)):=λj o e=>by rw[e];simp
 refine⟨f.toList.map (·.1)++i.toList.map (·.1),k,_,_,true,E,λd=> ?_, .cons _ _ _ _ (.frz _ _ (p.frzD dc Zeq Zwc m)) (.cons _ _ _ _ (.same _) (.cons _ _ _ _ (.same _) (.cons _ _ _ _ (.frz _ _ (q.frzD dc Zb7 Zs6 n)) (.cons _ _ _ _ (.same _) .nil)))),_, .same _,rfl,by rw[qc,uF rfl]⟩;rcases qA.1 d with a|a;obtain⟨⟨j,o⟩,c,l⟩:=uW.1 a;simp only[Option.mem_toList]at c;exact t j o c l;obtain⟨⟨j,o⟩,c,l⟩:=uW.1 a;simp only[Option.mem_toList]at c;exact u j o c l
abbrev Xk(l:List Int):List V:= [lst encI l]
abbrev auC(a:Au):List V:= [lst setC a.sets,lst encI a.first,lst encI a.last,lst Xk a.follow, .b a.empty]
def auZ:Au:=⟨[],[],[],[],false⟩
theorem ZFf(a:List (List Nat)):lst Qe a=lst Xk (a.map ints):=by
 have:row Qe a=row Xk (a.map ints):=by
  induction a with
  |nil=>rfl
  |cons l a d=>
   have b:row Qe (l::a)=Qe l++row Qe a:=rfl;have c:row Xk ((l::a).map ints)=Xk (ints l)++row Xk (a.map ints):=rfl;rw[b,c,d]
 simp only[lst,this,qC]
def ZFg(b:Bool)(r:Re):V:=if b=false\/anchB r=true then .tup [.agg (auC auZ), .i .i64 5]else if 300<spotN r then .tup [.agg (auC auZ), .i .i64 2]else .tup [.agg (auC (Zop boS r)), .i .i64 0]
theorem Zov(h):Frz h (.agg [.sl none 0 (some 0) 0, .sl none 0 (some 0) 0, .sl none 0 (some 0) 0, .sl none 0 (some 0) 0, .b false]) (.agg (auC auZ)):=
 .agg _ _ (.cons _ _ _ _ (Jq _ _ _ _) (.cons _ _ _ _ (Jq _ _ _ _) (.cons _ _ _ _ (Jq _ _ _ _) (.cons _ _ _ _ (Jq _ _ _ _) (.cons _ _ _ _ (.b _) .nil)))))
theorem ZA1(hs:ZQ UY.P 75)(a0:ZE UY.P 76){B:Nat}(Y:B<2 ^ 20){r}(m:wfRe B r){b:Bool}(t:PCon UY 29 [.agg (Zd r)] (· = .b b)):PCon UY 10 [.agg (Zd r)] (· =ZFg b r):=by
 have u:=(ZDb Y r m).c;have w:=(ZDc Y r m).c;have f: ¬300<spotN r->cntRe r<=300:=λh=>Zv1 m om;have q: ¬300<spotN r-> ∀ {h:Heap} {id:Nat},MkA h id ⟨[],[]⟩->Con UY 32 [p_P id, .agg (Zd r)] h λv K=>v= .agg (XL (partF boS r ⟨[],[]⟩).2)/\K.get id=some (.arr [lst setC (partF boS r ⟨[],[]⟩).1.sets, .sl none 0 (some 0) 0, .sl none 0 (some 0) 0,lst Qe (partF boS r ⟨[],[]⟩).1.fol, .b false] true):=λh _ _ hM=>
  Zwq hs a0 Y m ⟨rfl,λl hl=>by cases hl⟩ hM (by have:=f h;simpa using this)
 have d: ¬300<spotN r->PaB 300 (partF boS r ⟨[],[]⟩).2:=λh=>by
  obtain⟨b1,b2,b3⟩:=Zap r m ⟨[],[]⟩ ⟨rfl,λl hl=>by cases hl⟩;exact b2.mono (by have:=f h;simp at b3;omega)
 unfold ZFg;obtain⟨k,s,a,z,y,n⟩:=r;generalize a1:Zop boS (.mk k s a z y n)=M;have E:M=auF (partF boS (.mk k s a z y n) ⟨[],[]⟩).1 (partF boS (.mk k s a z y n) ⟨[],[]⟩).2:=a1.symm;generalize anchB (.mk k s a z y n)=an at u;generalize spotN (.mk k s a z y n)=sp at w q d f;generalize partF boS (.mk k s a z y n) ⟨[],[]⟩=S at q d E;rw[Zn]at u w t q ⊢;refine Zv UK (fn:=Tryz.f10) rfl ZQ3 rfl ?_;refine⟨_,t,Zf (λp=> ?_) (λp=>⟨_,u,Zf (λL=> ?_) (λL=>⟨_,w,Xr (λD=> ?_) (λD=> ?_)⟩)⟩)⟩;have p:b=false:=su p;rw[uF (.inl p)];exact Zlo rr rfl (Zov _) (.i _ _) rfl;rw[uF (.inr L)];exact Zlo rr rfl (Zov _) (.i _ _) rfl;have p:b=true:=su p;rw[uE (by rw[p,L];simp),uF om];exact Zlo rr rfl (Zov _) (.i _ _) rfl
 .have p:b=true:=su p;have D: ¬300<sp:=om;rw[uE (by rw[p,L];simp),uE D];have Z:MkA (Heap.empty.push (.arr [.sl none 0 (some 0) 0, .sl none 0 (some 0) 0, .sl none 0 (some 0) 0, .sl none 0 (some 0) 0, .b false] true)) Heap.empty.nx ⟨[],[]⟩:=
   ⟨sm,none,0,some 0,0,none,0,some 0,0,by rw[qk,uF rfl],LX.start _ _ _ _ _,LX.start _ _ _ _ _,λj o e=>(by cases e),λj o e=>(by cases e),λj o o' e=>(by cases e)⟩
  have d:=d D;refine(q D Z).mono λv K ⟨hv,hg⟩=> ?_;subst hv;have l1:=d.fi.len;have l2:=d.la.len;refine⟨_,_,_,_,_,_,_,rfl,_,_,_,Zwp _ (by rw[QG];omega),_,_,_,Zwp _ (by rw[QG];omega),?_⟩;obtain⟨A,F⟩: ∃g,g=K.set Heap.empty.nx (some (.arr [lst setC S.1.sets,lst encI (ints S.2.first), .sl none 0 (some 0) 0,lst Qe S.1.fol, .b false] true)):=⟨_,rfl⟩;have e1:Zi K Heap.empty.nx 1 [lst encI (ints S.2.first)]=some A:=by rw[F];simp[Zi,hg,splice]
  have N:A.get Heap.empty.nx=some (.arr [lst setC S.1.sets,lst encI (ints S.2.first), .sl none 0 (some 0) 0,lst Qe S.1.fol, .b false] true):=by rw[F,qc,uF rfl]
  obtain⟨C,G⟩: ∃g,g=A.set Heap.empty.nx (some (.arr [lst setC S.1.sets,lst encI (ints S.2.first),lst encI (ints S.2.last),lst Qe S.1.fol, .b false] true)):=⟨_,rfl⟩;have e2:Zi A Heap.empty.nx 2 [lst encI (ints S.2.last)]=some C:=by rw[G];simp[Zi,N,splice]
  have O:C.get Heap.empty.nx=some (.arr [lst setC S.1.sets,lst encI (ints S.2.first),lst encI (ints S.2.last),lst Qe S.1.fol, .b false] true):=by rw[G,qc,uF rfl]
  obtain⟨X,H⟩: ∃g,g=C.set Heap.empty.nx (some (.arr [lst setC S.1.sets,lst encI (ints S.2.first),lst encI (ints S.2.last),lst Qe S.1.fol, .b S.2.empty] true)):=⟨_,rfl⟩;have e3:Zi C Heap.empty.nx 4 [.b S.2.empty]=some X:=by rw[H];simp[Zi,O,splice]
  have W:X.get Heap.empty.nx=some (.arr [lst setC S.1.sets,lst encI (ints S.2.first),lst encI (ints S.2.last),lst Qe S.1.fol, .b S.2.empty] true):=by rw[H,qc,uF rfl]
  have hv:V.agg (auC M)= .agg [lst setC S.1.sets,lst encI (ints S.2.first),lst encI (ints S.2.last),lst Qe S.1.fol, .b S.2.empty]:=by rw[E,ZFf S.1.fol];rfl
  exact⟨A,e1,C,e2,X,e3,_,_,_,_,_,_,_,_,_,_,_,_,_,(Zr W 0 5).trans rfl,Zlo rr rfl (r1:= .agg (auC M)) (by rw[hv];exact .agg _ _ (.cons _ _ _ _ (.ts _ _ _ none (λ_ x=>x)) (.cons _ _ _ _ (.ts _ _ _ none (λ_ x=>x)) (.cons _ _ _ _ (.ts _ _ _ none (λ_ x=>x)) (.cons _ _ _ _ (.ts _ _ _ none (λ_ x=>x)) (.cons _ _ _ _ (.b _) .nil)))))) (.i _ _) rfl⟩
end Go.Y
