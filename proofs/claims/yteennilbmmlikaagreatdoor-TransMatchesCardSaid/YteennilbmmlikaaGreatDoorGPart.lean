/- A part of the proof. -/
import Derived.Test.YteennilbmmlikaaGreatDoorNTa
import Derived.Test.YteennilbmmlikaaGreatDoorYAny3
import Derived.Test.YteennilbmmlikaaGreatDoorYLoop
import Derived.Test.YteennilbmmlikaaGreatDoorGReD
namespace Go.Y
open Go.Proofs Go.Sort
set_option maxRecDepth 100000
set_option maxHeartbeats 2000000
def Zb3(r:Re):Prop:= ∀ {h:Heap} {a:Nat} {A:Au0},AuB A->MkA h a A->A.sets.length+cntRe r<=300->
 ∃c,(Con UY 32 [.p (some (a,0)), .agg (Zd r)] h λv d=>v= .agg (XK (partF boS r A).2)/\d=c)/\MkA c a (partF boS r A).1
abbrev JL:V:= .lb [.sl none 0 (some 0) 0, .sl none 0 (some 0) 0, .b false]
abbrev ZD8:V:= .lb [.sl none 0 (some 0) 0, .sl none 0 (some 0) 0, .b true]
abbrev reLb(k:Int)(s:S4)(a:List Re)(c d n:Int):V:= .lb [I k,U s.1,U s.2.1,U s.2.2.1,U s.2.2.2,lst Zd a,I c,I d,I n]
theorem Zp8(a:List (List Nat)):row (λv:V=> [v]) (a.map λl=>lst encI (ints l))=row Qd a:=by
 induction a with
 |nil=>rfl
 |cons l a d=>
  have e:row Qd (l::a)=Qd l++row Qd a:=rfl;have c:row (λv:V=> [v]) ((l::a).map λl=>lst encI (ints l))= [lst encI (ints l)]++row (λv:V=> [v]) (a.map λl=>lst encI (ints l)):=rfl;rw[e,c,d]
theorem LX.mapV{h}{a}{l:Nat}{c}{g:Nat}{d:List (List Nat)}(f:LX Qd 1 h a l c g d):LX (λv:V=> [v]) 1 h a l c g (d.map λl=>lst encI (ints l)):=
 ⟨λe=>f.nil (by simpa using e),λe=>by
  obtain⟨j,o,r,n,k,m⟩:=f.cells (λe'=>e (by rw[e'];rfl));exact⟨j,o,r,n,by rw[Zp8];exact k,m⟩,by rw[f.len];simp⟩
theorem Zzp{s}{lo hi n:Int} :Zb3 (.mk 1 s [] lo hi n):=by
 intro h d A hA hM hn;rw[cntRe,uF rfl]at hn;have b5:partF boS (.mk 1 s [] lo hi n) A=(⟨A.sets++ [s],A.fol++ [[]]⟩,⟨[A.sets.length],[A.sets.length],false⟩):=by rw[partF];rfl
 rw[b5];obtain⟨b6,a1,l1,c1,k1,K,X,c2,k2,hg,Z,w,b0,a5,b4⟩:=hM;have t:=Z.len;have b2:=w.len;have b9:=hA.wf;obtain⟨b1,B,E,D,g1,q1,q2,q3,r1,q4,q5⟩:=LX.app (Y:=UY) (st:=31) (e:=25) (te:=⟨4,32, .arr 4 23,[U 0,U 0,U 0,U 0]⟩) s rfl Zea kr kr rfl dc rfl dc Z om;subst q4;have b7:g1.get d=some (.arr [.sl a1 l1 c1 k1, .sl none 0 (some 0) 0, .sl none 0 (some 0) 0, .sl K X c2 k2, .b false] true):=by rw[q3.2 d b6 λo m=>b0 _ _ m rfl];exact hg
 obtain⟨C,c⟩: ∃C,C=g1.set d (some (.arr [.sl (some (r1,0)) B E D, .sl none 0 (some 0) 0, .sl none 0 (some 0) 0, .sl K X c2 k2, .b false] true)):=⟨_,rfl⟩;have a3:Zi g1 d 0 [.sl (some (r1,0)) B E D]=some C:=by rw[c];simp[Zi,b7,splice]
 have W:C.get d=some (.arr [.sl (some (r1,0)) B E D, .sl none 0 (some 0) 0, .sl none 0 (some 0) 0, .sl K X c2 k2, .b false] true):=by rw[c,qc,uF rfl]
 have H:r1≠d:=om;have z:LX setC 4 C (some (r1,0)) B E D (A.sets++ [s]):=q2.fr (by rw[c];simp) λj g y=>by
  cases g;rw[c,qc,uE H]
 have a0:LX Qd 1 C K X c2 k2 A.fol:=w.fr (by rw[c];simp;exact q3.1) λj g y=>by
  rw[c,qc,uE (a5 j 0 g),q3.2 j y λo m=>b4 j o 0 m g]
 obtain⟨b3,m3,d3,e3,g3,u1,u2,u3,u,u4,u5⟩:=LX.app (f:=λv:V=> [v]) (k:=1) (new:= [.sl none 0 (some 0) 0]) (out:=A.fol.map λl=>lst encI (ints l)) (Y:=UY) (st:=33) (e:=32) (te:=⟨1,24, .slice 3,[.sl none 0 (some 0) 0]⟩) (.sl none 0 (some 0) 0:V) rfl (λ_=>rfl) kr kr rfl dc rfl dc a0.mapV (by simp;omega);subst u4;have G:d<C.nx:=by rw[c];simp;have:=q3.1;omega
 have a6:g3.get d=some (.arr [.sl (some (r1,0)) B E D, .sl none 0 (some 0) 0, .sl none 0 (some 0) 0, .sl K X c2 k2, .b false] true):=by rw[u3.2 d G λo m=>a5 _ _ m rfl];exact W
 obtain⟨L,a⟩: ∃L,L=g3.set d (some (.arr [.sl (some (r1,0)) B E D, .sl none 0 (some 0) 0, .sl none 0 (some 0) 0, .sl (some (u,0)) m3 d3 e3, .b false] true)):=⟨_,rfl⟩;have a4:Zi g3 d 3 [.sl (some (u,0)) m3 d3 e3]=some L:=by rw[a];simp[Zi,a6,splice]
 have a8:L.get d=some (.arr [.sl (some (r1,0)) B E D, .sl none 0 (some 0) 0, .sl none 0 (some 0) 0, .sl (some (u,0)) m3 d3 e3, .b false] true):=by rw[a,qc,uF rfl]
 have F:u≠d:=om;obtain⟨j3,v1,v2,v3,v4,v5⟩:=u2.cells sm;cases v1;subst v2;have b8:r1<C.nx:=by
  obtain⟨j,w1,w2,w3,w4,w5⟩:=z.cells sm;cases w1;exact w3
 have r:r1≠u:=om;have a7: ∀o,K≠some (r1,o):=λo m=>by
  by_cases he:A.fol= []
  .rw[w.nil he]at m;cases m
  .obtain⟨j,w1,w2,w3,w4,w5⟩:=w.cells he;rw[w1]at m;cases m;omega
 have O:L.get u=some (.arr (row Qd A.fol++ [.sl none 0 (some 0) 0]) true):=by
  rw[a,qc,uE F,v4,Xz,Zp8];rfl
 have N:row Qd (A.fol++ [[]])=row Qd A.fol++ [.ts [] 0 none]:=by rw[Xz];rfl
 refine⟨L.set u (some (.arr (row Qd (A.fol++ [[]])) true)),?_,?_⟩
 .refine Con.weakH (Zv UK (fn:=Tryz.f32) ?_);rw[Zm];refine Zh UK 105 Zr9 rfl ?_;refine⟨rfl,QZ (n:=105) [4,5] kr ?_⟩;refine Zh UK 105 Zsa rfl ?_;refine⟨rfl,Zz (b:=true) kr kr ?_⟩;refine Zn UK ZPs rfl ?_;refine⟨_,_,_,_,(Zs hg 0 1).trans rfl,_,_,_,_,(Zs hg 0 1).trans rfl,_,_,_,_,_,q1,_,a3,_,_,_,_,(Zs W 3 1).trans rfl,_,_,_,_,_,u1,_,a4,?_⟩;refine ZZ rr rfl ?_;refine⟨[], .agg (XK ⟨[A.sets.length],[A.sets.length],false⟩), .inl (.agg _ _ (.cons _ _ _ _ (.frz _ _ ?_) (.cons _ _ _ _ (.frz _ _ ?_) (.cons _ _ _ _ (.same _) .nil)))), .inr ⟨u,_,_,O,?_,rfl,rfl⟩⟩
  .rw[t];exact .ts _ _ _ none (λx P=>by cases P)
  .rw[t];exact .ts _ _ _ none (λx P=>by cases P)
  .rw[N];exact(WkL.refl _).append (.cons _ _ _ _ (.inr (.inl ⟨_,_,_,rfl,rfl,λx P=>by cases P⟩)) .nil)
 .refine⟨by simp[a];have:=u3.1;omega,some (r1,0),B,E,D,some (u,0),m3,d3,1,by rw[qc,uE (Ne.symm F)];exact a8,?_,?_,λj o g=>by cases g;exact H,λj o g=>by cases g;exact F,λj o o' g a9=>by cases g;cases a9;exact r rfl⟩
  .exact z.fr (by simp[a];exact u3.1) λj g y=>by
    cases g;rw[qc,uE r,a,qc,uE H,u3.2 r1 y λo m=>by
     exact a7 o m]
  .exact⟨λe=>by simp at e,λ_=>⟨u,rfl,rfl,by simp[a];exact v3,by rw[qc,uF rfl],v5⟩,by have:=u2.len;simp at this ⊢;omega⟩
end Go.Y
namespace Go.Y
open Go.Proofs Go.Sort
set_option maxRecDepth 100000
set_option maxHeartbeats 2000000
theorem Zp9{a:List Re}{i:Nat}(c:i<a.length):Zr 9 (List.drop ((i:Int).toNat*9) (row Zd a))=some (Zd a[i]):=by
 rw[qdq];exact Xp (f:=Zd) (k:=9) ZW c
theorem Zfp(b:Bool):Wk (.lb [.sl none 0 (some 0) 0, .sl none 0 (some 0) 0, .b b]) (.lb (XK ⟨[],[],b⟩)):=
 .inr ⟨_,_,rfl,rfl, .cons _ _ _ _ (.inr (.inl ⟨_,_,_,rfl,rfl,λx a=>by cases a⟩)) (.cons _ _ _ _ (.inr (.inl ⟨_,_,_,rfl,rfl,λx a=>by cases a⟩)) (.cons _ _ _ _ (.refl _) .nil))⟩
abbrev altS(A:Au0)(a:List Re)(i:Nat):Au0×Part:=partF.altF boS (a.take i) A ⟨[],[],false⟩
abbrev catS(A:Au0)(a:List Re)(i:Nat):Au0×Part:=partF.catF boS (a.take i) A ⟨[],[],true⟩
theorem Zzq(O:ZY UY.P 75)(w:ZF UY.P 76){B:Nat}(hB:B<2 ^ 20){s}{a:List Re}{Z d n:Int}(k:wfRe.wfRes B a)(a1:a.length<=B)(ih: ∀x∈a,Zb3 x):Zb3 (.mk 5 s a Z d n):=by
 intro h l A W hM hn;rw[cntRe,uE dc,uE dc]at hn;have L:partF boS (.mk 5 s a Z d n) A=altS A a a.length:=by rw[partF,altS,qm];rfl
 rw[L];have bnd: ∀i,AuB (altS A a i).1/\PaB (altS A a i).1.sets.length (altS A a i).2/\(altS A a i).1.sets.length<=300:=λi=>by
  obtain⟨b1,b2,X⟩:=Zzi (a.take i) (VU k i) A W ⟨[],[],false⟩ (PaB.nil _ _);have X:(altS A a i).1.sets.length=A.sets.length+cntRe.cnts (a.take i):=X;exact⟨b1,b2,by have:=Zb1 a i;omega⟩
 have u: ∀ {i} (d:i<a.length),altS A a (i+1)=((partF boS a[i] (altS A a i).1).1,⟨boS (altS A a i).2.first (partF boS a[i] (altS A a i).1).2.first,boS (altS A a i).2.last (partF boS a[i] (altS A a i).1).2.last,(altS A a i).2.empty||(partF boS a[i] (altS A a i).1).2.empty⟩):=λ{i} d=>by
  show partF.altF boS (a.take (i+1)) A ⟨[],[],false⟩=_;rw[qa d,Zlm]
 have o: ∀ {i} (d:i<a.length),(altS A a i).1.sets.length+cntRe a[i]<=300:=λ{i} d=>by
  have h1:(altS A a i).1.sets.length=A.sets.length+cntRe.cnts (a.take i):=(Zzi (a.take i) (VU k i) A W ⟨[],[],false⟩ (PaB.nil _ _)).2.2;have h2:=Zb1 a (i+1);rw[qa d,Zb2]at h2;omega
 obtain⟨H,h0,hP,hR⟩:=Wp (λi g=>MkA g l (altS A a i).1) (λi g C=> ∀d:i<a.length,Con UY 32 [.p (some (l,0)), .agg (Zd a[i])] g λv E=>v= .agg (XK (partF boS a[i] (altS A a i).1).2)/\E=C) h a.length (by
  show MkA h l (altS A a 0).1;rw[altS,uQ,partF.altF];exact hM) (λi d g K=>by
  obtain⟨C,c1,c2⟩:=ih a[i] (qe d) (bnd i).1 K (o d);exact⟨C,λ_=>c1,by show MkA C l (altS A a (i+1)).1;rw[u d];exact c2⟩)
 refine⟨H a.length,?_,hP _ (qnq _)⟩;refine Zv UK (fn:=Tryz.f32) ?_;rw[Zm];refine Zh UK 105 Zr9 rfl ?_;refine⟨rfl,QZ (n:=105) [4,5] kr ?_⟩;refine Zh UK 105 Zsa rfl ?_;refine⟨rfl,Zz (b:=false) kr kr ?_⟩;refine Zh UK 105 Zvi rfl ?_;refine⟨rfl,Zz (b:=true) kr kr ?_⟩;refine Zh UK 105 ZPt rfl ?_;refine⟨rfl,Zvh [0,4,5,12,55,56,57] [0,4,5,12,55,56,57] (λm D g=> ∃i:Nat,D= [.p (some (l,0)),JL, .lb (XK (altS A a i).2), .agg [.sl none 0 (some 0) 0, .sl none 0 (some 0) 0, .b true],lst Zd a,I a.length,I (i:Nat)]/\i<=a.length/\m=a.length-i/\g=H i) a.length ZA ?_ ?_⟩
 .refine⟨_, .cons _ _ _ _ (.refl _) (.cons _ _ _ _ (.refl _) (.cons _ _ _ _ (Zfp false) (WkE.refl _))),0,?_,om,om,h0.symm⟩;rw[altS,uQ,partF.altF];rfl
 rintro m D g ⟨i,rfl,d,rfl,rfl⟩;refine Zn UK ZPu rfl ?_;refine Zq (λc=> ?_) (λa0=> ?_)
 .have y:=hR i c c;have j:=u c;have z:=bnd i;have f:=Zak a[i] (Zc3 k _ (qe c)) _ z.1;have t:=o c;have e:=Zp9 c;generalize a[i]=x at y j f t e;obtain⟨xk,xs,xl,G,N,xn⟩:=x;rw[Zm]at y e;generalize altS A a i=S at z y j f t;generalize partF boS (.mk xk xs xl G N xn) S.1=T at y j f;refine⟨Zu c,_,_,_,_,_,_,_,_,_,_,_,e,y.mono λv g ⟨hv,K⟩=> ?_⟩;subst hv K;have l1:=z.2.1.fi.len;have l2:=z.2.1.la.len;have l3:=f.2.1.fi.len;have l4:=f.2.1.la.len;refine⟨_,_,_,_,_,_,_,rfl,_,_,_,Zbz O w S.2.first T.2.first om om,_,_,_,Zbz O w S.2.last T.2.last om om,?_⟩;have next: ∀b:Bool,b=(S.2.empty||T.2.empty)->Zc4 105 [0,4,5,12,55,56,57] [0,4,5,12,55,56,57] (λm D g=> ∃i:Nat,D= [.p (some (l,0)),JL, .lb (XK (altS A a i).2), .agg [.sl none 0 (some 0) 0, .sl none 0 (some 0) 0, .b true],lst Zd a,I a.length,I (i:Nat)]/\i<=a.length/\m=a.length-i/\g=H i) (a.length-i) (Xd (post (flat (QU (post (flat (ZT (post (flat (ZL (post (flat (Za Tryz.f32)))))))))))))
    (VQ [4,5] (Zdx UY 105 [4,5] (JU (post (flat (Za Tryz.f32)))) ((post (flat (Za Tryz.f32))).drop 1) (FinS UY Tryz.f32 (AfterZ λv E=>v= .agg (XK (altS A a a.length).2)/\E=H a.length))))
    .normal 105 [.p (some (l,0)),JL, .lb [lst encI (ints (boS S.2.first T.2.first)),lst encI (ints (boS S.2.last T.2.last)), .b b], .agg [.sl none 0 (some 0) 0, .sl none 0 (some 0) 0, .b true],lst Zd a,I a.length,I (wW (((i:Nat):Int)+1))] (H (i+1)):=λb F=>
   ⟨rfl,a.length-(i+1),om,_,WkE.refl _,i+1,by rw[Ze om,j,F];rfl,om,rfl,rfl⟩
  exact Zf (λr=>next _ (by rw[r];rfl)) (λr=>next _ (by rw[r];rfl))
 .have r:i=a.length:=om;subst r;refine Vm kr (ZU rfl ⟨rfl,[4,5],rfl,?_⟩);refine Zo UK Zp7 rfl ?_;exact finC rr rfl (.now ⟨rfl,rfl⟩)
end Go.Y
namespace Go.Y
open Go.Proofs Go.Sort
set_option maxRecDepth 100000
set_option maxHeartbeats 2000000
theorem Zvj(F:ZY UY.P 75)(u:ZF UY.P 76){B:Nat}(hB:B<2 ^ 20){s}{a:List Re}{E c n:Int}(o:wfRe.wfRes B a)(W:a.length<=B)(Z: ∀x∈a,Zb3 x):Zb3 (.mk 4 s a E c n):=by
 intro h f A hA G hn;rw[cntRe,uE dc,uE dc]at hn;have z:partF boS (.mk 4 s a E c n) A=catS A a a.length:=by rw[partF,catS,qm];rfl
 rw[z];have bnd: ∀i,AuB (catS A a i).1/\PaB (catS A a i).1.sets.length (catS A a i).2/\(catS A a i).1.sets.length=A.sets.length+cntRe.cnts (a.take i):=λi=>
  Zpz (a.take i) (VU o i) A hA ⟨[],[],true⟩ (PaB.nil _ _)
 have r: ∀ {i} (c:i<a.length),catS A a (i+1)=catP boS (partF boS a[i] (catS A a i).1).1 (catS A a i).2 (partF boS a[i] (catS A a i).1).2:=λ{i} c=>by
  show partF.catF boS (a.take (i+1)) A ⟨[],[],true⟩=_;rw[qa c,Zfm]
 have k: ∀ {i} (c:i<a.length),(catS A a i).1.sets.length+cntRe a[i]<=300:=λ{i} c=>by
  have h1:=(bnd i).2.2;have h2:=Zb1 a (i+1);rw[qa c,Zb2]at h2;omega
 obtain⟨H,O,hP,K⟩:=Wp (λi g=>MkA g f (catS A a i).1) (λi g g'=> ∀c:i<a.length,∃j,(Con UY 32 [.p (some (f,0)), .agg (Zd a[i])] g λv w=>v= .agg (XK (partF boS a[i] (catS A a i).1).2)/\w=j)/\
   Con UY 73 [.p (some (f,0)), .agg (XK (catS A a i).2), .agg (XK (partF boS a[i] (catS A a i).1).2)] j λv w=>v= .agg (XK (catS A a (i+1)).2)/\w=g') h a.length (by
  show MkA h f (catS A a 0).1;rw[catS,uQ,partF.catF];exact G) (λi c g hg=>by
  obtain⟨j,c1,c2⟩:=Z a[i] (qe c) (bnd i).1 hg (k c);have t:=Zak a[i] (Zc3 o _ (qe c)) _ (bnd i).1;have N:=k c;have D:=(bnd i).2.1.mono (show(catS A a i).1.sets.length<=(partF boS a[i] (catS A a i).1).1.sets.length from om);refine⟨Za3 j f (partF boS a[i] (catS A a i).1).1.fol (catS A a i).2.last (partF boS a[i] (catS A a i).1).2.first (catS A a i).2.last.length,λ_=>⟨j,c1,?_⟩,?_⟩
  .rw[r c];exact Zp3 F u t.1 c2 om D t.2.1
  .show MkA _ f (catS A a (i+1)).1;rw[r c];exact Zp4 t.1 c2 D t.2.1)
 refine⟨H a.length,?_,hP _ (qnq _)⟩;refine Zv UK (fn:=Tryz.f32) ?_;rw[Zm];refine Zh UK 105 Zr9 rfl ?_;refine⟨rfl,QZ (n:=105) [4,5] kr ?_⟩;refine Zh UK 105 Zsa rfl ?_;refine⟨rfl,Zz (b:=false) kr kr ?_⟩;refine Zh UK 105 Zvi rfl ?_;refine⟨rfl,Zz (b:=false) kr kr ?_⟩;refine Zh UK 105 Zzo rfl ?_;refine ifT rfl ⟨rfl,Zz (b:=true) kr kr ?_⟩;refine Zh UK 105 ZI4 rfl ?_;refine⟨rfl,Zvh [0,4,5,86,87,88] [0,4,5,86,87,88] (λm C g=> ∃i:Nat,C= [.p (some (f,0)),JL, .lb (XK (catS A a i).2),lst Zd a,I a.length,I (i:Nat)]/\i<=a.length/\m=a.length-i/\g=H i) a.length ZA ?_ ?_⟩
 .refine⟨_, .cons _ _ _ _ (.refl _) (.cons _ _ _ _ (.refl _) (.cons _ _ _ _ (Zfp true) (WkE.refl _))),0,?_,om,om,O.symm⟩;rw[catS,uQ,partF.catF];rfl
 rintro m C g ⟨i,rfl,c,rfl,rfl⟩;refine Zn UK ZI5 rfl ?_;refine Zq (λe=> ?_) (λX=> ?_)
 .obtain⟨j,y,l⟩:=K i e e;have d:=Zp9 e;generalize a[i]=x at y l d;obtain⟨xk,xs,xl,a0,a1,xn⟩:=x;rw[Zm]at y d;exact⟨Zu e,_,_,_,_,_,_,_,_,_,_,_,d,_,_,_,_,_,_,_,j,y,_,_,_,_,_,_,_,_,l,rfl,a.length-(i+1),om,_,WkE.refl _,i+1,by rw[Ze om];rfl,om,rfl,rfl⟩
 .have L:i=a.length:=om;subst L;refine Vm kr (ZU rfl ⟨rfl,[4,5],rfl,?_⟩);refine Zo UK Zp7 rfl ?_;exact finC rr rfl (.now ⟨rfl,rfl⟩)
theorem Zvk(F:ZY UY.P 75)(u:ZF UY.P 76){B:Nat}(hB:B<2 ^ 20){s}{a:List Re}{E c n:Int}(o:wfRe.wfRes B a)(W:a.length<=B)(Z: ∀x∈a,Zb3 x):Zb3 (.mk 7 s a E c n):=by
 intro h f A hA G hn;rw[cntRe,uE dc,uE dc]at hn;have z:partF boS (.mk 7 s a E c n) A=catS A a a.length:=by rw[partF,catS,qm];rfl
 rw[z];have bnd: ∀i,AuB (catS A a i).1/\PaB (catS A a i).1.sets.length (catS A a i).2/\(catS A a i).1.sets.length=A.sets.length+cntRe.cnts (a.take i):=λi=>
  Zpz (a.take i) (VU o i) A hA ⟨[],[],true⟩ (PaB.nil _ _)
 have r: ∀ {i} (c:i<a.length),catS A a (i+1)=catP boS (partF boS a[i] (catS A a i).1).1 (catS A a i).2 (partF boS a[i] (catS A a i).1).2:=λ{i} c=>by
  show partF.catF boS (a.take (i+1)) A ⟨[],[],true⟩=_;rw[qa c,Zfm]
 have k: ∀ {i} (c:i<a.length),(catS A a i).1.sets.length+cntRe a[i]<=300:=λ{i} c=>by
  have h1:=(bnd i).2.2;have h2:=Zb1 a (i+1);rw[qa c,Zb2]at h2;omega
 obtain⟨H,O,hP,K⟩:=Wp (λi g=>MkA g f (catS A a i).1) (λi g g'=> ∀c:i<a.length,∃j,(Con UY 32 [.p (some (f,0)), .agg (Zd a[i])] g λv w=>v= .agg (XK (partF boS a[i] (catS A a i).1).2)/\w=j)/\
   Con UY 73 [.p (some (f,0)), .agg (XK (catS A a i).2), .agg (XK (partF boS a[i] (catS A a i).1).2)] j λv w=>v= .agg (XK (catS A a (i+1)).2)/\w=g') h a.length (by
  show MkA h f (catS A a 0).1;rw[catS,uQ,partF.catF];exact G) (λi c g hg=>by
  obtain⟨j,c1,c2⟩:=Z a[i] (qe c) (bnd i).1 hg (k c);have t:=Zak a[i] (Zc3 o _ (qe c)) _ (bnd i).1;have N:=k c;have D:=(bnd i).2.1.mono (show(catS A a i).1.sets.length<=(partF boS a[i] (catS A a i).1).1.sets.length from om);refine⟨Za3 j f (partF boS a[i] (catS A a i).1).1.fol (catS A a i).2.last (partF boS a[i] (catS A a i).1).2.first (catS A a i).2.last.length,λ_=>⟨j,c1,?_⟩,?_⟩
  .rw[r c];exact Zp3 F u t.1 c2 om D t.2.1
  .show MkA _ f (catS A a (i+1)).1;rw[r c];exact Zp4 t.1 c2 D t.2.1)
 refine⟨H a.length,?_,hP _ (qnq _)⟩;refine Zv UK (fn:=Tryz.f32) ?_;rw[Zm];refine Zh UK 105 Zr9 rfl ?_;refine⟨rfl,QZ (n:=105) [4,5] kr ?_⟩;refine Zh UK 105 Zsa rfl ?_;refine⟨rfl,Zz (b:=false) kr kr ?_⟩;refine Zh UK 105 Zvi rfl ?_;refine⟨rfl,Zz (b:=false) kr kr ?_⟩;refine Zh UK 105 Zzo rfl ?_;refine ifF rfl ⟨rfl,Zz (b:=true) kr kr ?_⟩;refine Zh UK 105 ZI4 rfl ?_;refine⟨rfl,Zvh [0,4,5,86,87,88] [0,4,5,86,87,88] (λm C g=> ∃i:Nat,C= [.p (some (f,0)),JL, .lb (XK (catS A a i).2),lst Zd a,I a.length,I (i:Nat)]/\i<=a.length/\m=a.length-i/\g=H i) a.length ZA ?_ ?_⟩
 .refine⟨_, .cons _ _ _ _ (.refl _) (.cons _ _ _ _ (.refl _) (.cons _ _ _ _ (Zfp true) (WkE.refl _))),0,?_,om,om,O.symm⟩;rw[catS,uQ,partF.catF];rfl
 rintro m C g ⟨i,rfl,c,rfl,rfl⟩;refine Zn UK ZI5 rfl ?_;refine Zq (λe=> ?_) (λX=> ?_)
 .obtain⟨j,y,l⟩:=K i e e;have d:=Zp9 e;generalize a[i]=x at y l d;obtain⟨xk,xs,xl,a0,a1,xn⟩:=x;rw[Zm]at y d;exact⟨Zu e,_,_,_,_,_,_,_,_,_,_,_,d,_,_,_,_,_,_,_,j,y,_,_,_,_,_,_,_,_,l,rfl,a.length-(i+1),om,_,WkE.refl _,i+1,by rw[Ze om];rfl,om,rfl,rfl⟩
 .have L:i=a.length:=om;subst L;refine Vm kr (ZU rfl ⟨rfl,[4,5],rfl,?_⟩);refine Zo UK Zp7 rfl ?_;exact finC rr rfl (.now ⟨rfl,rfl⟩)
end Go.Y
namespace Go.Y
open Go.Proofs Go.Sort
set_option maxRecDepth 100000
set_option maxHeartbeats 2000000
theorem ZD9(a b:Int):leI a b=decide (a<=b):=by
 unfold leI;by_cases h:a<=b<;>simp[h]
abbrev repS(A:Au0)(x:Re)(a c:Int)(i:Nat):Au0×Part:=repP boS (partF boS x) a c (XF a c) i 0 A ⟨[],[],true⟩
theorem Zvl(hs:ZY UY.P 75)(a0:ZF UY.P 76){B:Nat}{k:Int}{s:S4}{x:Re}{a d n:Int}(h1:0<=a)(h2:a<=8)(h3:d<=8)(a3:wfRe B x)(ih:Zb3 x){h}{r:Nat}{A:Au0}(hA:AuB A)(hM:MkA h r A)(hn:A.sets.length+XF a d*cntRe x<=300):
  ∃g,(Con UY 74 [.p (some (r,0)), .agg (Zd (.mk k s [x] a d n))] h λv u=>v= .agg (XK (repS A x a d (XF a d)).2)/\u=g)/\MkA g r (repS A x a d (XF a d)).1:=by
 have hN:=Zja h2 h3;have a4:=Zll k s [x] a d n h1;have a6: ∀i,repS A x a d (i+1)=Zn0 boS (partF boS x) a d (XF a d) i (repS A x a d i):=λi=>by
  rw[repS,Zp5,uJ]
 have bnd: ∀i,i<=XF a d->AuB (repS A x a d i).1/\PaB (repS A x a d i).1.sets.length (repS A x a d i).2/\(repS A x a d i).1.sets.length=A.sets.length+i*cntRe x:=λi _=>
  ZD6 (λA hA=>Zak x a3 A hA) a d _ i 0 A _ hA (PaB.nil _ _)
 have a2: ∀i,i<XF a d->(repS A x a d i).1.sets.length+cntRe x<=300:=λi L=>by
  have e1:=(bnd i om).2.2;have e2:(i+1)*cntRe x<=XF a d*cntRe x:=Nat.mul_le_mul_right _ L;rw[ur,Nat.one_mul]at e2;omega
 generalize b2:XF a d=N at*;obtain⟨H,h0,hP,hR⟩:=Wp (λi g=>MkA g r (repS A x a d i).1) (λi g g'=> ∃O g2,(Con UY 32 [.p (some (r,0)), .agg (Zd x)] g λv u=>v= .agg (XK (partF boS x (repS A x a d i).1).2)/\u=O)/\
   (d<0/\i+1=N->Con UY 119 [.p (some (r,0)),lst encI (ints (partF boS x (repS A x a d i).1).2.last),lst encI (ints (partF boS x (repS A x a d i).1).2.first)] O λv u=>v= .tup []/\u=g2)/\(¬(d<0/\i+1=N)->g2=O)/\
   Con UY 73 [.p (some (r,0)), .agg (XK (repS A x a d i).2), .agg (XK ⟨(partF boS x (repS A x a d i).1).2.first,(partF boS x (repS A x a d i).1).2.last,(partF boS x (repS A x a d i).1).2.empty||decide (a<=(i:Int))⟩)] g2 λv u=>v= .agg (XK (repS A x a d (i+1)).2)/\u=g') h N (by
  show MkA h r (repS A x a d 0).1;rw[repS,repP];exact hM) (λi L g hg=>by
  obtain⟨O,c1,c2⟩:=ih (bnd i om).1 hg (a2 i L);have t:=Zak x a3 _ (bnd i om).1;have b0:=a2 i L;have ho:=(bnd i om).2.1.mono (show(repS A x a d i).1.sets.length<=(partF boS x (repS A x a d i).1).1.sets.length from om);rw[a6 i];unfold Zn0;generalize repS A x a d i=S at*;generalize partF boS x S.1=T at*;by_cases hc:d<0/\i+1=N
  .have m1:=Zeb t.1 c2 t.2.1.la t.2.1.fi T.2.last.length (qnq _);rw[qm]at m1;have a1:AuB (Znv boS T.1 T.2):=t.1.link t.2.1.fi.2;rw[uF hc];refine⟨Za3 (Za3 O r T.1.fol T.2.last T.2.first T.2.last.length) r (Znv boS T.1 T.2).fol S.2.last T.2.first S.2.last.length,⟨O,Za3 O r T.1.fol T.2.last T.2.first T.2.last.length,c1,λ_=>Zvb hs a0 t.1 c2 om t.2.1.la t.2.1.fi,λhn=>absurd hc hn,?_⟩,?_⟩
   .exact Zp3 hs a0 a1 m1 (show T.1.sets.length<=300 from om) ho ⟨t.2.1.fi,t.2.1.la⟩
   .exact Zp4 a1 m1 ho ⟨t.2.1.fi,t.2.1.la⟩
  .rw[uE hc];refine⟨Za3 O r T.1.fol S.2.last T.2.first S.2.last.length,⟨O,O,c1,λh=>absurd h hc,λ_=>rfl,?_⟩,?_⟩
   .exact Zp3 hs a0 t.1 c2 om ho ⟨t.2.1.fi,t.2.1.la⟩
   .exact Zp4 t.1 c2 ho ⟨t.2.1.fi,t.2.1.la⟩)
 refine⟨H N,?_,hP _ (qnq _)⟩;refine Zv UK (fn:=Tryz.f74) ?_;rw[Zm]at a4 ⊢;refine Zh UK 52 (λK=>ZPh r k s.1 s.2.1 s.2.2.1 s.2.2.2 (row Zd [x]) 1 a d n h K) rfl ?_;refine⟨_,a4,rfl,ZOv [0,2,3,4,5,6,12,13] [0,2,3,4,5,6,12,13] rfl kr (λm Z g=> ∃i:Nat,Z= [.p (some (r,0)), .undef,reLb k s [x] a d n,JL, .lb (XK (repS A x a d i).2),I (N:Nat),I (N:Nat),I (i:Nat)]/\i<=N/\m=N-i/\g=H i) N ZA ?_ ?_⟩
 .refine⟨_, .cons _ _ _ _ (.refl _) (.cons _ _ _ _ (.refl _) (.cons _ _ _ _ (.refl _) (.cons _ _ _ _ (.refl _) (.cons _ _ _ _ (Zfp true) (WkE.refl _))))),0,?_,om,om,h0.symm⟩;rw[repS,repP];rfl
 rintro m Z g ⟨i,rfl,L,rfl,rfl⟩;refine Zn UK (λK=>ZPi r k s.1 s.2.1 s.2.2.1 s.2.2.2 (row Zd [x]) 1 a d n (N:Nat) (N:Nat) none (row encI (ints (repS A x a d i).2.first)) (ints (repS A x a d i).2.first).length none (row encI (ints (repS A x a d i).2.last)) (ints (repS A x a d i).2.last).length (repS A x a d i).2.empty (i:Nat) (H i) K) rfl ?_;refine Zq (λa8=> ?_) (λb1=> ?_)
 .obtain⟨O,g2,c1,c2,c3,c4⟩:=hR i a8;have W:Zr 9 (row Zd [x])=some (Zd x):=by
   have:=Xp (f:=Zd) (k:=9) ZW (l:= [x]) (i:=0) sm
   rwa [Nat.zero_mul]at this
  obtain⟨D,C,E,e,j,z⟩:=x;rw[Zm]at c1 W;generalize partF boS (.mk D C E e j z) (repS A (.mk D C E e j z) a d i).1=T at c1 c2 c3 c4;refine⟨⟨om,om⟩,_,_,_,_,_,_,_,_,_,_,_,W,c1.mono λv g ⟨hv,hg⟩=> ?_⟩;subst hv hg;refine⟨_,_,_,_,_,_,_,rfl,?_⟩;have a7:leI a ((i:Nat):Int)=decide (a<=(i:Int)):=ZD9 _ _;have X: ∀(b:Bool),b=(T.2.empty||decide (a<=(i:Int)))->Con UY 73 [.p (some (r,0)), .agg (XK (repS A (.mk D C E e j z) a d i).2), .agg [lst encI (ints T.2.first),lst encI (ints T.2.last), .b b]] g2 λv u=> ∃(cs:List V) (l:Nat) (c:Option Nat) (o:List V) (w:Nat) (y:Option Nat) (b':Bool),v= .agg [.ts cs l c, .ts o w y, .b b']/\
    Zdp UY 52 [0,2,3,4,5,6,12,13] [0,2,3,4,5,6,12,13] (λm Z g=> ∃i:Nat,Z= [.p (some (r,0)), .undef,reLb k s [.mk D C E e j z] a d n,JL, .lb (XK (repS A (.mk D C E e j z) a d i).2),I (N:Nat),I (N:Nat),I (i:Nat)]/\i<=N/\m=N-i/\g=H i) (N-i) (Xd (post (flat (Za Tryz.f74)))) ((post (flat (Za Tryz.f74))).drop 1)
     (FinS UY Tryz.f74 (AfterZ λv u=>v= .agg (XK (repS A (.mk D C E e j z) a d N).2)/\u=H N)) .normal 52 [.p (some (r,0)), .undef,reLb k s [.mk D C E e j z] a d n,JL, .lb [.ts cs l c, .ts o w y, .b b'],I (N:Nat),I (N:Nat),I (wW (((i:Nat):Int)+1))] u:=λb t=>by
   subst t;exact c4.mono λv g ⟨hv,hg⟩=>⟨_,_,_,_,_,_,_,hv,rfl,N-(i+1),om,_,WkE.refl _,i+1,by rw[Ze om];rfl,om,rfl,hg⟩
  have G: ∀g',g'=g2->If T.2.empty (Con UY 73 [.p (some (r,0)), .agg (XK (repS A (.mk D C E e j z) a d i).2), .agg [lst encI (ints T.2.first),lst encI (ints T.2.last), .b true]] g' λv u=> ∃(cs:List V) (l:Nat) (c:Option Nat) (o:List V) (w:Nat) (y:Option Nat) (b':Bool),v= .agg [.ts cs l c, .ts o w y, .b b']/\
    Zdp UY 52 [0,2,3,4,5,6,12,13] [0,2,3,4,5,6,12,13] (λm Z g=> ∃i:Nat,Z= [.p (some (r,0)), .undef,reLb k s [.mk D C E e j z] a d n,JL, .lb (XK (repS A (.mk D C E e j z) a d i).2),I (N:Nat),I (N:Nat),I (i:Nat)]/\i<=N/\m=N-i/\g=H i) (N-i) (Xd (post (flat (Za Tryz.f74)))) ((post (flat (Za Tryz.f74))).drop 1)
     (FinS UY Tryz.f74 (AfterZ λv u=>v= .agg (XK (repS A (.mk D C E e j z) a d N).2)/\u=H N)) .normal 52 [.p (some (r,0)), .undef,reLb k s [.mk D C E e j z] a d n,JL, .lb [.ts cs l c, .ts o w y, .b b'],I (N:Nat),I (N:Nat),I (wW (((i:Nat):Int)+1))] u)
    (Con UY 73 [.p (some (r,0)), .agg (XK (repS A (.mk D C E e j z) a d i).2), .agg [lst encI (ints T.2.first),lst encI (ints T.2.last), .b (leI a ((i:Nat):Int))]] g' λv u=> ∃(cs:List V) (l:Nat) (c:Option Nat) (o:List V) (w:Nat) (y:Option Nat) (b':Bool),v= .agg [.ts cs l c, .ts o w y, .b b']/\
    Zdp UY 52 [0,2,3,4,5,6,12,13] [0,2,3,4,5,6,12,13] (λm Z g=> ∃i:Nat,Z= [.p (some (r,0)), .undef,reLb k s [.mk D C E e j z] a d n,JL, .lb (XK (repS A (.mk D C E e j z) a d i).2),I (N:Nat),I (N:Nat),I (i:Nat)]/\i<=N/\m=N-i/\g=H i) (N-i) (Xd (post (flat (Za Tryz.f74)))) ((post (flat (Za Tryz.f74))).drop 1)
     (FinS UY Tryz.f74 (AfterZ λv u=>v= .agg (XK (repS A (.mk D C E e j z) a d N).2)/\u=H N)) .normal 52 [.p (some (r,0)), .undef,reLb k s [.mk D C E e j z] a d n,JL, .lb [.ts cs l c, .ts o w y, .b b'],I (N:Nat),I (N:Nat),I (wW (((i:Nat):Int)+1))] u):=by
   rintro g' rfl;exact Zf (λhe=>X true (by rw[he];rfl)) (λhe=>X _ (by rw[he,a7];rfl))
  refine Xr (λa5=>Zf (λF=> ?_) (λF=> ?_)) (λa9=> ?_)
  .have F:((i:Nat):Int)=(N:Int)-1:=by
    have F:=F;rw[ZI om om]at F;simpa using F
   exact(c2 ⟨a5,om⟩).mono λv g ⟨hv,hg⟩=>⟨hv,G g hg⟩
  .have F:((i:Nat):Int)≠(N:Int)-1:=by
    have F:=F;rw[ZI om om]at F;simpa using F
   exact G _ (c3 (λhh=>F om)).symm
  .exact G _ (c3 (λhh=>om)).symm
 .have he:i=N:=om;subst he;refine Zns [4,5] kr rfl rfl ?_;refine Zo UK (λK=>ZPj none (row encI (ints (repS A x a d i).2.first)) (ints (repS A x a d i).2.first).length none (row encI (ints (repS A x a d i).2.last)) (ints (repS A x a d i).2.last).length false (repS A x a d i).2.empty (H i) K) rfl ?_;exact finC rr rfl (.now ⟨rfl,rfl⟩)
end Go.Y
namespace Go.Y
open Go.Proofs Go.Sort
set_option maxRecDepth 100000
set_option maxHeartbeats 2000000
theorem Zzr(m:ZY UY.P 75)(d:ZF UY.P 76){B:Nat}{s}{x}{a c n:Int}(C:0<=a)(D:a<=8)(t:c<=8)(f:wfRe B x)(r:Zb3 x):Zb3 (.mk 6 s [x] a c n):=by
 intro h E A y o l;rw[cntRe,uE dc,uF rfl,cntRe.cnts,cntRe.cnts,Nat.add_zero]at l;have e:partF boS (.mk 6 s [x] a c n) A=repS A x a c (XF a c):=by rw[partF];rfl
 rw[e];obtain⟨g,j,z⟩:=Zvl m d (k:=6) (s:=s) (n:=n) C D t f r y o l;refine⟨g,?_,z⟩;refine Zv UK (fn:=Tryz.f32) ?_;rw[Zm]at j ⊢;refine Zh UK 105 Zr9 rfl ?_;refine⟨rfl,QZ (n:=105) [4,5] kr ?_⟩;refine Zh UK 105 Zsa rfl ?_;refine⟨rfl,Zz (b:=false) kr kr ?_⟩;refine Zh UK 105 Zvi rfl ?_;refine⟨rfl,Zz (b:=false) kr kr ?_⟩;refine Zh UK 105 Zzo rfl ?_;refine ifF rfl ⟨rfl,Zz (b:=false) kr kr ?_⟩;refine Zn UK ZI6 rfl ?_;refine ifT rfl (j.mono λv g ⟨u,w⟩=> ?_);subst u w;exact⟨_,_,_,_,_,_,_,rfl,ZZ rr rfl (AfterZ.now ⟨rfl,rfl⟩)⟩
theorem Zsb{k:Int}{s}{d f n:Int}(g:k≠1)(j:k≠4)(c:k≠5)(m:k≠6)(l:k≠7):Zb3 (.mk k s [] d f n):=by
 intro h x A y r z;have a:partF boS (.mk k s [] d f n) A=(A,⟨[],[],true⟩):=by
  rw[partF];dsimp only;rw[uE g,uE c,uE (λe=>e.elim j l),uE m]
 rw[a];refine⟨h,?_,r⟩;have v:(k==1)=false:=by simpa using g
 have u:(k==4)=false:=by simpa using j
 have w:(k==5)=false:=by simpa using c
 have o:(k==6)=false:=by simpa using m
 have t:(k==7)=false:=by simpa using l
 refine Zv UK (fn:=Tryz.f32) ?_;rw[Zm];refine Zh UK 105 Zr9 rfl ?_;refine⟨rfl,QZ (n:=105) [4,5] kr ?_⟩;refine Zh UK 105 Zsa rfl ?_;rw[v];refine⟨rfl,Zz (b:=false) kr kr ?_⟩;refine Zh UK 105 Zvi rfl ?_;rw[w];refine⟨rfl,Zz (b:=false) kr kr ?_⟩;refine Zh UK 105 Zzo rfl ?_;refine ifF u ?_;rw[t];refine⟨rfl,Zz (b:=false) kr kr ?_⟩;refine Zn UK ZI6 rfl ?_;refine ifF o ⟨rfl,[4,5],rfl,ZD2 [4,5] (vs:= [JL,ZD8]) [JL, .lb (XK ⟨[],[],true⟩)] kr ZA rfl (.cons _ _ _ _ (.refl _) (.cons _ _ _ _ (Zfp true) .nil)) ?_⟩;refine Zo UK Zp7 rfl ?_;exact finC rr rfl (.now ⟨rfl,rfl⟩)
structure PX(r:Re):Prop where
 p:Zb3 r
mutual
theorem ZB6(e:ZY UY.P 75)(a:ZF UY.P 76){B:Nat}(g:B<2 ^ 20): ∀r:Re,wfRe B r->PX r
 | .mk k s c F E n,h=>by
  rw[wfRe]at h;obtain⟨C,D,l,f⟩:=h;have d:=Zvm e a g c f;have d: ∀x∈c,Zb3 x:=λx z=>(d x z).p;refine⟨?_⟩;by_cases m:k=4
  .subst m;exact Zvj e a g f l d
  by_cases j:k=5
  .subst j;exact Zzq e a g f l d
  by_cases o:k=7
  .subst o;exact Zvk e a g f l d
  by_cases t:k=6
  .subst t;obtain⟨w,y,G,v⟩:=C rfl;obtain⟨x,rfl⟩:=List.length_eq_one_iff.1 v;exact Zzr e a w y om (Zc3 f x sm) (d x sm)
  have A:=D m j t o;subst A;by_cases u:k=1
  .subst u;exact Zzp
  .exact Zsb u m j t o
theorem Zvm(d:ZY UY.P 75)(a:ZF UY.P 76){B:Nat}(f:B<2 ^ 20): ∀l:List Re,wfRe.wfRes B l-> ∀x∈l,PX x
 | [],_,x,c=>by cases c
 |r::l,h,x,c=>by
  rw[wfRe.wfRes]at h;have g:=ZB6 d a f r h.1;have j:=Zvm d a f l h.2;rcases qu.1 c with e|c
  .rw[e];exact g
  .exact j x c
end
theorem ZPv(c:ZY UY.P 75)(a:ZF UY.P 76){B:Nat}(d:B<2 ^ 20){r}(h:wfRe B r):Zb3 r:=(ZB6 c a d r h).p
end Go.Y
namespace Go.Y
open Go.Proofs
set_option maxRecDepth 1000000
set_option maxHeartbeats 0
theorem ZPw{k s0 s1 s2 s3 kc kn lo hi gn h}(K):CP UY 10 (flat (Za Tryz.f10)) (.agg (R9 k s0 s1 s2 s3 kc kn none lo hi gn)::Rp 46) h [2,3] K=(∃a,(PCon UY 29 [.agg (R9 k s0 s1 s2 s3 kc kn none lo hi gn)] λv=>v=.b a)/\If (!a) (K .ret 47 [.lb [S0,S0,S0,S0, .b false],I 5] h) (∃b,(PCon UY 30 [.agg (R9 k s0 s1 s2 s3 kc kn none lo hi gn)] λv=>v=.b b)/\If b (K .ret 47 [.lb [S0,S0,S0,S0, .b false],I 5] h) (∃c,(PCon UY 31 [.agg (R9 k s0 s1 s2 s3 kc kn none lo hi gn)] λv=>v=I c)/\If (ltI 300 c) (K .ret 47 [.lb [S0,S0,S0,S0, .b false],I 2] h) (Con UY 32 [.p (some (h.nx,0)),.agg (R9 k s0 s1 s2 s3 kc kn none lo hi gn)] (h.push (YObj.arr [S0,S0,S0,S0,.b false] true)) fun(v:V) (O:Heap)=> ∃d e f g i j l,v=.agg [J d e f,J g i j,.b l]/\ ∃m n o,(PCon UY 33 [J d e f] λv=>v=J m n o)/\ ∃q r s,(PCon UY 33 [J g i j] fun(v:V)=>v=J q r s)/\ ∃t,Zi O h.nx 1 [J m n o]=some t/\ ∃u,Zi t h.nx 2 [J q r s]=some u/\ ∃w,Zi u h.nx 4 [.b l]=some w/\ ∃x y z A H C N L E D F G B,Zb w h.nx 0 5=some [J x y z,J A H C,J N L E,J D F G,.b B]/\K .ret 47 [.lb [J x y z,J A H C,J N L E,J D F G, .b B],I (0:Int)] w)))):=kr
end Go.Y
namespace Go.Y
open Go.Proofs Go.Sort
set_option maxRecDepth 100000
set_option maxHeartbeats 2000000
theorem ZEa(l:List Int)(h)(c):Frz h (.ts (row encI l) l.length c) (lst encI l):= .ts _ _ _ none (λx a=>by cases a)
theorem Zvn(l:List Int)(j:l.length<2 ^ 29):PCon UY 33 [lst encI l] (· =lst encI l):=by
 refine Zw UK (fn:=Tryz.f33) rfl ZPl rfl ?_;by_cases f:l= []
 .subst f;refine⟨λ_=>ZB rr rfl (Js encI _ _ _) rfl, .inr ⟨kr,ZB rr rfl (ZEa [] _ _) rfl⟩⟩
 .have g:0<l.length:=List.length_pos_iff.2 f;refine⟨λe=>absurd e om, .inl ?_⟩;obtain⟨m,d⟩: ∃m,l.length=m+1:=⟨l.length-1,om⟩;have a:=Zk4 (Y:=UY) (st:=32) (e:=3) (te:=⟨1,8, .int .i64,[I 0]⟩) kr kr dc dc (cs:=row encI l) (c:=row encI l) (n:=m) (cap:=none) (by rw[<-d];exact ZD (by rw[WE];exact uY _)) (Zd5 l) om .empty;rw[<-d]at a;refine⟨_,_,_,_,_,a,ZB rr rfl (.sl _ _ _ _ _ (row encI l) true (row encI l) (row encI l) none (by simp[qk]) (by rw[ql];exact ZD (by rw[WE];exact uY _)) (λx h=>by cases h) dc (Zd6 _ _)) rfl⟩
theorem LX.frzD{v:Type}{f:v->List V}{k:Nat}{h}{a}{l:Nat}{c}{u:Nat}{d:List v}{D:List Nat}(z:k≠0)(n: ∀x,(f x).length=k)(g: ∀x,Xb (f x)=true)(t:LX f k h a l c u d)(y: ∀j o,a=some (j,o)->j∈D):
  Frz (Ve h D) (.sl a l c u) (lst f d):=by
 have e:=t.len;by_cases m:d= []
 .have B:=t.nil m;subst m B e;exact .sln _ _ _ (λx r=>by cases r)
 .obtain⟨C,rfl,rfl,A,w,_⟩:=t.cells m;subst e;exact .sl _ _ _ _ _ (row f d) true (row f d) _ _ (by rw[QK,uF (y _ _ rfl),w]) (by rw[ql];exact ZD (Xh n d).symm) (λx r=>by cases r) z (Xc _ (Je g d))
theorem Zvo(F:ZY UY.P 75)(m:ZF UY.P 76){B:Nat}(N:B<2 ^ 20){r:Re}(t:wfRe B r){h}{f:Nat}{A:Au0}(O:AuB A)(G:MkA h f A)(Z:A.sets.length+cntRe r<=300):
  Con UY 32 [.p (some (f,0)), .agg (Zd r)] h λv D=>v= .agg (XK (partF boS r A).2)/\D.get f=some (.arr [lst setC (partF boS r A).1.sets, .sl none 0 (some 0) 0, .sl none 0 (some 0) 0,lst Qd (partF boS r A).1.fol, .b false] true):=by
 obtain⟨g,E,a⟩:=ZPv F m N t O G Z;generalize partF boS r A=S at E a;obtain⟨W,l,l1,c1,k1,k,l2,c2,k2,L,y,n,x,w,H⟩:=a;refine Con.coolR (E.mono λv D ⟨K,X⟩=> ?_);subst K X;have C: ∀j o,l=some (j,o)->j∈(l.toList.map (·.1)++k.toList.map (·.1)):=λj o e=>by rw[e];simp
 have u: ∀j o,k=some (j,o)->j∈(l.toList.map (·.1)++k.toList.map (·.1)):=λj o e=>by rw[e];simp
 refine⟨l.toList.map (·.1)++k.toList.map (·.1),f,_,_,true,L,λc=> ?_, .cons _ _ _ _ (.frz _ _ (y.frzD dc Zea Zva C)) (.cons _ _ _ _ (.same _) (.cons _ _ _ _ (.same _) (.cons _ _ _ _ (.frz _ _ (n.frzD dc Zb0 Zr7 u)) (.cons _ _ _ _ (.same _) .nil)))),_, .same _,rfl,by rw[qc,uF rfl]⟩;rcases qA.1 c with a|a
 .obtain⟨⟨j,o⟩,d,z⟩:=uW.1 a;simp only[Option.mem_toList]at d;exact x j o d z
 .obtain⟨⟨j,o⟩,d,z⟩:=uW.1 a;simp only[Option.mem_toList]at d;exact w j o d z
abbrev Xm(l:List Int):List V:= [lst encI l]
abbrev auC(a:Au):List V:= [lst setC a.sets,lst encI a.first,lst encI a.last,lst Xm a.follow, .b a.empty]
def auZ:Au:=⟨[],[],[],[],false⟩
theorem ZEb(a:List (List Nat)):lst Qd a=lst Xm (a.map ints):=by
 have:row Qd a=row Xm (a.map ints):=by
  induction a with
  |nil=>rfl
  |cons l a d=>
   have e:row Qd (l::a)=Qd l++row Qd a:=rfl;have c:row Xm ((l::a).map ints)=Xm (ints l)++row Xm (a.map ints):=rfl;rw[e,c,d]
 simp only[lst,this,qC]
def ZEc(b:Bool)(r:Re):V:=if b=false\/anchB r=true then .tup [.agg (auC auZ), .i .i64 5]else if 300<spotN r then .tup [.agg (auC auZ), .i .i64 2]else .tup [.agg (auC (Zr4 boS r)), .i .i64 0]
theorem Zn1(h):Frz h (.agg [.sl none 0 (some 0) 0, .sl none 0 (some 0) 0, .sl none 0 (some 0) 0, .sl none 0 (some 0) 0, .b false]) (.agg (auC auZ)):=
 .agg _ _ (.cons _ _ _ _ (Js _ _ _ _) (.cons _ _ _ _ (Js _ _ _ _) (.cons _ _ _ _ (Js _ _ _ _) (.cons _ _ _ _ (Js _ _ _ _) (.cons _ _ _ _ (.b _) .nil)))))
theorem Zzs(hs:ZY UY.P 75)(W:ZF UY.P 76){B:Nat}(hB:B<2 ^ 20){r}(f:wfRe B r){b:Bool}(w:PCon UY 29 [.agg (Zd r)] (· = .b b)):PCon UY 10 [.agg (Zd r)] (· =ZEc b r):=by
 have x:=(ZB3 hB r f).c;have z:=(ZB4 hB r f).c;have m: ¬300<spotN r->cntRe r<=300:=λh=>Zu1 f om;have u: ¬300<spotN r-> ∀ {h:Heap} {X:Nat},MkA h X ⟨[],[]⟩->Con UY 32 [.p (some (X,0)), .agg (Zd r)] h λv N=>v= .agg (XK (partF boS r ⟨[],[]⟩).2)/\N.get X=some (.arr [lst setC (partF boS r ⟨[],[]⟩).1.sets, .sl none 0 (some 0) 0, .sl none 0 (some 0) 0,lst Qd (partF boS r ⟨[],[]⟩).1.fol, .b false] true):=λh _ _ hM=>
  Zvo hs W hB f ⟨rfl,λl hl=>by cases hl⟩ hM (by have:=m h;simpa using this)
 have d: ¬300<spotN r->PaB 300 (partF boS r ⟨[],[]⟩).2:=λh=>by
  obtain⟨b1,b2,b3⟩:=Zak r f ⟨[],[]⟩ ⟨rfl,λl hl=>by cases hl⟩;exact b2.mono (by have:=m h;simp at b3;omega)
 unfold ZEc;obtain⟨k,s,a,C,A,n⟩:=r;generalize a3:Zr4 boS (.mk k s a C A n)=M;have E:M=auF (partF boS (.mk k s a C A n) ⟨[],[]⟩).1 (partF boS (.mk k s a C A n) ⟨[],[]⟩).2:=a3.symm;generalize anchB (.mk k s a C A n)=an at x;generalize spotN (.mk k s a C A n)=sp at z u d m;generalize partF boS (.mk k s a C A n) ⟨[],[]⟩=S at u d E;rw[Zm]at x z w u ⊢;refine Zw UK (fn:=Tryz.f10) rfl ZPw rfl ?_;refine⟨_,w,Zf (λt=> ?_) (λt=>⟨_,x,Zf (λO=> ?_) (λO=>⟨_,z,Xr (λG=> ?_) (λG=> ?_)⟩)⟩)⟩
 .have t:b=false:=by simpa using t
  rw[uF (.inl t)];exact Zk2 rr rfl (Zn1 _) (.i _ _) rfl
 .rw[uF (.inr O)];exact Zk2 rr rfl (Zn1 _) (.i _ _) rfl
 .have t:b=true:=by simpa using t
  rw[uE (by rw[t,O];simp),uF om];exact Zk2 rr rfl (Zn1 _) (.i _ _) rfl
 .have t:b=true:=by simpa using t
  have G: ¬300<sp:=om;rw[uE (by rw[t,O];simp),uE G];have a2:MkA (Heap.empty.push (.arr [.sl none 0 (some 0) 0, .sl none 0 (some 0) 0, .sl none 0 (some 0) 0, .sl none 0 (some 0) 0, .b false] true)) Heap.empty.nx ⟨[],[]⟩:=
   ⟨sm,none,0,some 0,0,none,0,some 0,0,by rw[qk,uF rfl],LX.start _ _ _ _ _,LX.start _ _ _ _ _,λj o e=>(by cases e),λj o e=>(by cases e),λj o o' e=>(by cases e)⟩
  have d:=d G;refine(u G a2).mono λv N ⟨hv,hg⟩=> ?_;subst hv;have l1:=d.fi.len;have l2:=d.la.len;refine⟨_,_,_,_,_,_,_,rfl,_,_,_,Zvn _ (by rw[QH];omega),_,_,_,Zvn _ (by rw[QH];omega),?_⟩;obtain⟨H,L⟩: ∃g,g=N.set Heap.empty.nx (some (.arr [lst setC S.1.sets,lst encI (ints S.2.first), .sl none 0 (some 0) 0,lst Qd S.1.fol, .b false] true)):=⟨_,rfl⟩;have e1:Zi N Heap.empty.nx 1 [lst encI (ints S.2.first)]=some H:=by rw[L];simp[Zi,hg,splice]
  have a1:H.get Heap.empty.nx=some (.arr [lst setC S.1.sets,lst encI (ints S.2.first), .sl none 0 (some 0) 0,lst Qd S.1.fol, .b false] true):=by rw[L,qc,uF rfl]
  obtain⟨F,K⟩: ∃g,g=H.set Heap.empty.nx (some (.arr [lst setC S.1.sets,lst encI (ints S.2.first),lst encI (ints S.2.last),lst Qd S.1.fol, .b false] true)):=⟨_,rfl⟩;have e2:Zi H Heap.empty.nx 2 [lst encI (ints S.2.last)]=some F:=by rw[K];simp[Zi,a1,splice]
  have Z:F.get Heap.empty.nx=some (.arr [lst setC S.1.sets,lst encI (ints S.2.first),lst encI (ints S.2.last),lst Qd S.1.fol, .b false] true):=by rw[K,qc,uF rfl]
  obtain⟨g3,D⟩: ∃g,g=F.set Heap.empty.nx (some (.arr [lst setC S.1.sets,lst encI (ints S.2.first),lst encI (ints S.2.last),lst Qd S.1.fol, .b S.2.empty] true)):=⟨_,rfl⟩;have e3:Zi F Heap.empty.nx 4 [.b S.2.empty]=some g3:=by rw[D];simp[Zi,Z,splice]
  have a0:g3.get Heap.empty.nx=some (.arr [lst setC S.1.sets,lst encI (ints S.2.first),lst encI (ints S.2.last),lst Qd S.1.fol, .b S.2.empty] true):=by rw[D,qc,uF rfl]
  have hv:V.agg (auC M)= .agg [lst setC S.1.sets,lst encI (ints S.2.first),lst encI (ints S.2.last),lst Qd S.1.fol, .b S.2.empty]:=by rw[E,ZEb S.1.fol];rfl
  exact⟨H,e1,F,e2,g3,e3,_,_,_,_,_,_,_,_,_,_,_,_,_,(Zs a0 0 5).trans rfl,Zk2 rr rfl (r1:= .agg (auC M)) (by rw[hv];exact .agg _ _ (.cons _ _ _ _ (.ts _ _ _ none (λ_ y=>y)) (.cons _ _ _ _ (.ts _ _ _ none (λ_ y=>y)) (.cons _ _ _ _ (.ts _ _ _ none (λ_ y=>y)) (.cons _ _ _ _ (.ts _ _ _ none (λ_ y=>y)) (.cons _ _ _ _ (.b _) .nil)))))) (.i _ _) rfl⟩
end Go.Y
