/- A part of the proof. -/
import Derived.Test.YteennilbmmlikaaGreatDoorGSpanE
import Derived.Test.YteennilbmmlikaaGreatDoorGReD
import Derived.Test.YteennilbmmlikaaGreatDoorYAny3
import Derived.Test.YteennilbmmlikaaGreatDoorYLoop
import Derived.Test.YteennilbmmlikaaGreatDoorED1
import Derived.Test.YteennilbmmlikaaGreatDoorGN0
namespace Go.Y
open Go.Proofs
set_option maxRecDepth 1000000
set_option maxHeartbeats 0
/-! ### sign -/
def Zn2(x y:Int):List UInt8:=
 if x==0&&y== -1 then [42]else if x==1&&y== -1 then [43]else if x==0&&y==1 then [63]else if x==y then [123]++XC x.toNat++ [125]
 else if y== -1 then [123]++XC x.toNat++ [44,125]else [123]++XC x.toNat++ [44]++XC y.toNat++ [125]
theorem Zfq(x y:Int):(Zn2 x y).length<=5:=by
 unfold Zn2;repeat' split
 all_goals simp[XC]
theorem Zzx{x y:Int}(d:0<=x/\x<=8)(l:y= -1\/(x<=y/\y<=8)):PCon UY 148 [I x,I y] (· = .s (Zn2 x y)):=by
 have a:PCon UY 178 [I x] (· = .s (XC x.toNat)):=by
  have:=Zqd x.toNat om
  rwa [Int.toNat_of_nonneg d.1]at this
 have c:(y== -1)=false->PCon UY 178 [I y] (· = .s (XC y.toNat)):=λe=>by
  have e:y≠ -1:=by simpa using e
  have:=Zqd y.toNat om
  rwa [Int.toNat_of_nonneg om]at this
 refine Zw UK (fn:=Tryz.f148) rfl ZJ0 rfl ?_;unfold Zn2;generalize (x==0)=k;generalize (y== -1)=j at c ⊢;generalize (x==1)=g;generalize (y==1)=f;generalize (x==y)=h;cases k<;>cases j<;>cases g<;>cases f<;>cases h<;>first
  |exact ZB (n:=49) rr rfl (.s _) rfl
  |exact⟨_,a,(by simp[XC]),(by simp[XC]),ZB (n:=49) rr rfl (.s _) rfl⟩
  |exact⟨_,a,(by simp[XC]),(by simp[XC]),_,c rfl,(by simp[XC]),(by simp[XC]),ZB (n:=49) rr rfl (.s _) rfl⟩
/-! ### set -/
abbrev Zfr:List UInt8:= [93,45,92,94]
abbrev specB:List UInt8:= [92,124,40,41,42,43,63,123,46,91,94,36]
def XL(p:UInt8×UInt8):List UInt8:=if(((p.2.toNat:Nat):Int) !=((p.1.toNat:Nat):Int))=true then Zb5 p.1 Zfr++([45]++Zb5 p.2 Zfr)else Zb5 p.1 Zfr
def setT(x:Set4):List UInt8:=
 match Qv (hasN x) with
 | []=> [91,94,0,45,255,93]
 |p::l=>if(x.1==maxU&&(x.2.1==maxU&&(x.2.2.1==maxU&&(x.2.2.2==maxU&&true))))=true then [46]
  else if l= []/\(((p.1.toNat:Nat):Int)==((p.2.toNat:Nat):Int))=true then Zb5 p.1 specB else [91]++(p::l).flatMap XL++ [93]
theorem Zho(p:UInt8×UInt8):(XL p).length<=5:=by
 have a:=Wq p.1 Zfr;have c:=Wq p.2 Zfr;unfold XL;split
 .simp;omega
 .omega
theorem VV: ∀l:List (UInt8×UInt8),(l.flatMap XL).length<=5*l.length
 | []=>sm
 |p::l=>by
  have:=VV l;have a:=Zho p;simp only[List.flatMap_cons,qf,qh];omega
theorem Zv1(p:Nat->Bool): ∀(f c:Nat) (a:List (UInt8×UInt8)),(goF p f c a).length<=a.length+f
 |0,_,_=>qnq _
 |f+1,c,a=>by
  rw[goF];split
  .refine uu (Zv1 p f _ _) ?_;split
   .simp;omega
   .omega
  .omega
theorem Zhp(p:Nat->Bool):(Qv p).length<=257:=by have:=Zv1 p 257 0 [];simpa[Qv]using this
theorem Zqf(x):(setT x).length<=1300:=by
 have h:=Zhp (hasN x);unfold setT;generalize Qv (hasN x)=l at h
 cases l with
 |nil=>simp
 |cons p l=>
  simp only;split
  .simp
  .split
   .have:=Wq p.1 specB;omega
   .have:=VV (p::l);simp only[qf,qh,qp]at this h ⊢;omega
theorem getP(l:List (UInt8×UInt8)){i:Nat}(h:i<l.length):Zr 2 (List.drop ((i:Int).toNat*2) (row encP l))=some [.i .u8 (l[i].1.toNat:Nat), .i .u8 (l[i].2.toNat:Nat)]:=by
 rw[qdq];exact Xp (f:=encP) (k:=2) Zb6 h
theorem Zzy(x):PCon UY 147 [.agg (setC x)] (· = .s (setT x)):=by
 have c:=Zhp (hasN x);have d:=Zsf x;refine ZG UK (fn:=Tryz.f147) rfl ?_;refine Zh UK 63 ZJ1 rfl ?_;unfold setT;generalize z:Qv (hasN x)=L at d c;refine⟨_,_,_,d,?_⟩
 cases L with
 |nil=>exact Zf (λ_=>ZZ rr rfl ⟨_, .s _,rfl⟩) (λg=>by simp at g)
 |cons p l=>
  refine Zf (λg=>by simp at g;omega) (λ_=> ?_);refine⟨_,_,_,_,ZEp,?_⟩;simp only;generalize (x.1==maxU&&(x.2.1==maxU&&(x.2.2.1==maxU&&(x.2.2.2==maxU&&true))))=A;refine Zf (λhz=> ?_) (λhz=> ?_)
  .rw[uF hz];exact ZZ rr rfl ⟨_, .s _,rfl⟩
  rw[uE (by simp[hz])];have go: ¬(l= []/\(((p.1.toNat:Nat):Int)==((p.2.toNat:Nat):Int))=true)->PreV UY 63 [2,4,38,39,40] (post (flat (Za Tryz.f147))) (FinS UY Tryz.f147 λv h=> ∃r,Frz h v r/\r= .s (if l= []/\(((p.1.toNat:Nat):Int)==((p.2.toNat:Nat):Int))=true then Zb5 p.1 specB else [91]++(p::l).flatMap XL++ [93])) .normal 63 [.s [], .s [91],lst encP (p::l),I ((p::l).length:Nat),I 0] .empty:=by
   intro g;rw[uE g];clear g z d;generalize p::l=L at c;refine⟨rfl,ZN [4,38,39,40] [4,38,39,40] (λm w h=> ∃i:Nat,w= [.s ([91]++(L.take i).flatMap XL),lst encP L,I (L.length:Nat),I (i:Nat)]/\i<=L.length/\m=L.length-i) L.length ZA ⟨0,rfl,om,om⟩ ?_⟩;rintro m w h ⟨i,rfl,D,rfl⟩;refine Zn UK ZJ2 rfl ?_;have hp:=VV (L.take i);rw[uO]at hp;refine Zq (λf=> ?_) (λn=> ?_)
   .have j:(L.take (i+1)).flatMap XL=(L.take i).flatMap XL++XL L[i]:=by rw[qa f,ug];simp
    have B:=Wq L[i].1 Zfr;have C:=Wq L[i].2 Zfr;refine⟨Zu f,_,_,getP L f,_,Zjg L[i].1 Zfr,by simp only[qf,qh,qp];omega,Zf (λg=> ?_) (λg=> ?_)⟩
    .refine⟨_,Zjg L[i].2 Zfr,?_,?_,rfl,L.length-(i+1),om,i+1,?_,om,rfl⟩
     .show 1+(Zb5 L[i].2 Zfr).length<=_;omega
     .simp only[qf,qh,qp];omega
     .rw[Ze om,j,XL,uF g];exact congrArg (λt=> [V.s t,lst encP L,I (L.length:Nat),I ((i+1:Nat))]) sm
    .refine⟨rfl,L.length-(i+1),om,i+1,?_,om,rfl⟩;rw[Ze om,j,XL,uE (by rw[g];simp)];exact congrArg (λt=> [V.s t,lst encP L,I (L.length:Nat),I ((i+1:Nat))]) sm
   .refine Zj [4] ?_;refine Zo UK ZJ3 rfl ?_;refine⟨by simp only[qf,qh,qp];omega,?_⟩;rw[qt n];exact ZB rr rfl (.s _) rfl
  refine Zf (λk=> ?_) (λk=> ?_)
  .have y:l= []:=by
    cases l with
    |nil=>rfl
    |cons a l=>simp at k;omega
   subst y;have u:(0:Int)<=0/\(0:Int)<(([p].length:Nat):Int):=⟨Int.le_refl _,sm⟩;refine⟨u,_,rfl,u,_,rfl,Zf (λo=> ?_) (λo=> ?_)⟩
   .rw[uF ⟨rfl,o⟩];exact⟨u,_,rfl,_,Zjg p.1 specB,ZZ rr rfl ⟨_, .s _,rfl⟩⟩
   .exact go (λe=>by rw[o]at e;cases e.2)
  .refine go (λe=> ?_);rw[e.1]at k;simp at k
end Go.Y
namespace Go.Y
open Gl
def cntN:Re->Nat
 | .mk _ _ a _ _ _=>1+cntsN a
where
 cntsN:List Re->Nat
  | []=>0
  |r::l=>cntN r+cntsN l
theorem Jw: ∀l m:List Re,cntN.cntsN (l++m)=cntN.cntsN l+cntN.cntsN m
 | [],m=>by rw[qy,cntN.cntsN];omega
 |r::l,m=>by rw[qs,cntN.cntsN,cntN.cntsN,Jw l m];omega
theorem Zc6(k:Int): ∀l:List Re,cntN (sevS k l)<=cntN.cntsN l+1
 | []=>by rw[sevS,cntN,cntN.cntsN];omega
 | [r]=>by rw[sevS,cntN.cntsN];omega
 |a::b::l=>by
  rw[sevS,cntN]
  .omega
  all_goals simp
theorem Za5{k:Int}{s}{r}{a c n:Int} :cntN (.mk k s [r] a c n)=1+cntN r:=by rw[cntN,cntN.cntsN,cntN.cntsN];omega
theorem JM{k:Int}{s} :cntN (.mk k s [] 0 0 0)=1:=by rw[cntN,cntN.cntsN]
theorem JX(x):cntN (Qk x)=1:=JM
theorem Qa(r):cntN.cntsN [r]=cntN r:=by rw[cntN.cntsN,cntN.cntsN];omega
theorem Zv2(s:List UInt8): ∀n,
  (∀ {d i g r j a},altE n d s i g= .ok (r,j,a)->i<=s.length->g<=i->cntN r+3*i<=3*j+2)/\
  (∀ {d i g l r j a},WF n d s i g l= .ok (r,j,a)->i<=s.length->g<=i->cntN r+3*i<=cntN.cntsN l+1+3*j)/\
  (∀ {d i g l r j a},rowE n d s i g l= .ok (r,j,a)->i<=s.length->g<=i->cntN r+3*i<=cntN.cntsN l+1+3*j)/\
  (∀ {d i g r j a},Qg n d s i g= .ok (r,j,a)->i<=s.length->g<=i->cntN r+3*i+2<=3*j)/\
  (∀ {d i g r j a},JV n d s i g= .ok (r,j,a)->i<=s.length->g<=i->cntN r+3*i+2<=3*j)
 |0=>⟨λh=>by simp[altE]at h,λh=>by simp[WF]at h,λh=>by simp[rowE]at h,λh=>by simp[Qg]at h,λh=>by simp[JV]at h⟩
 |n+1=>by
  obtain⟨w1,y,w,H,z⟩:=Zv2 s n;obtain⟨P,O,x,C,F⟩:=XR s n;have D:= @(XR s (n+1)).2.2.2.2;have B:= @(XR s (n+1)).2.2.2.1;refine⟨λ{d i g r j a} h f k=> ?_,λ{d i g l r j a} h f k=> ?_,λ{d i g l r j a} h f k=> ?_,λ{d i g r j a} h f k=> ?_,λ{d i g r j a} h f k=> ?_⟩
  .rw[altE]at h;split at h
   .cases h
   .rename_i r1 u v e;have m:=x e f k;have o:=w e f k;have t:=y h m.2.1 m.2.2;rw[Qa]at t;rw[cntN.cntsN]at o;omega
  .rw[WF]at h;split at h
   .rename_i E;have K:=(qb.1 E).1;split at h
    .cases h
    .rename_i r1 u v e;have m:=x e om om;have o:=w e om om;have t:=y h m.2.1 m.2.2;rw[Jw,Qa]at t;rw[cntN.cntsN]at o;omega
   .cases h;have:=Zc6 5 l;omega
  .rw[rowE]at h;split at h
   .cases h;have:=Zc6 4 l;omega
   .split at h
    .cases h;have:=Zc6 4 l;omega
    .split at h
     .cases h
     .rename_i r1 u v e;have m:=C e f k;have o:=H e f k;have t:=w h m.2.1 m.2.2;rw[Jw,Qa]at t;omega
  .have q:=B h f k;rw[Qg]at h;split at h
   .cases h
   .rename_i r1 u v e;have m:=F e f k;have o:=z e f k;split at h
    .cases h;omega
    .split at h
     .split at h
      .cases h
      .split at h
       .cases h;rw[Za5];omega
       .split at h
        .cases h;rw[Za5];omega
        .split at h
         .cases h;rw[Za5];omega
         .split at h
          .cases h
          .rename_i X G W L;have:=Zk9 L;cases h;rw[Za5];omega
     .cases h;omega
  .have q:=D h f k;rw[JV]at h;split at h
   .cases h
   .rename_i c A;have N:=(qb.1 A).1;split at h
    .cases h
    .split at h
     .split at h
      .cases h
      .split at h
       .cases h
       .rename_i r1 u v e;have o:=w1 e om om;split at h
        .cases h;rw[Za5];omega
        .cases h
     .split at h
      .split at h
       .cases h
       .cases h;first|(rw[JM];omega)|(rw[JX];omega)
      .split at h
       .cases h;first|(rw[JM];omega)|(rw[JX];omega)
       .split at h
        .cases h;first|(rw[JM];omega)|(rw[JX];omega)
        .split at h
         .cases h;first|(rw[JM];omega)|(rw[JX];omega)
         .split at h
          .split at h
           .cases h
           .cases h;first|(rw[JM];omega)|(rw[JX];omega)
          .cases h;first|(rw[JM];omega)|(rw[JX];omega)
theorem Zv3{s:List UInt8}{r:Re}(h:Qz s= .ok r):cntN r<=1000:=by
 unfold Qz at h;split at h
 .cases h
 .split at h
  .cases h
  .rename_i r1 d c a;split at h
   .cases h
   .cases h;have:=(Zv2 s _).1 a (qx _) (qx _);have:=(XR s _).1 a (qx _) (qx _);omega
end Go.Y
namespace Go.Y
open Go.Proofs
set_option maxRecDepth 1000000
set_option maxHeartbeats 0
def preT(k:Int)(s:S4):List UInt8:=if(k==1)=true then setT s else if(k==2)=true then [94]else if(k==3)=true then [36]else if(k==7)=true then [40]else []
def Zaf(k c a:Int):List UInt8:=if(k==6)=true then Zn2 c a else if(k==7)=true then [41]else []
def textF:Re->List UInt8
 | .mk k s a c d _=>preT k s++textsF k false a++Zaf k c d
where
 textsF (k:Int):Bool->List Re->List UInt8
  |_,[]=> []
  |b,r::l=>(if b=true/\(k==5)=true then [124]else [])++textF r++textsF k true l
theorem Zqg(k:Int)(s):(preT k s).length<=1300:=by
 have:=Zqf s;unfold preT;repeat' split
 all_goals first|assumption|simp
theorem Zlo(k c a:Int):(Zaf k c a).length<=5:=by
 have:=Zfq c a;unfold Zaf;repeat' split
 all_goals first|assumption|simp
mutual
theorem Vn: ∀r:Re,(textF r).length+1<=1400*cntN r
 | .mk k s a d c n=>by
  rw[textF,cntN];have f:=Zqg k s;have g:=Zlo k d c;have e:=Zc7 k false a;simp only[qf];omega
theorem Zc7(k:Int): ∀(b:Bool) (l:List Re),(textF.textsF k b l).length<=1400*cntN.cntsN l
 |_,[]=>by rw[textF.textsF];simp
 |b,r::l=>by
  rw[textF.textsF,cntN.cntsN];have c:=Vn r;have d:=Zc7 k true l;have a:(if b=true/\(k==5)=true then([124]:List UInt8)else []).length<=1:=by split<;>simp
  simp only[qf];omega
end
structure TX(r:Re):Prop where
 c: ∀(h:Heap) (id:Nat) (bs:List UInt8),Bd h id bs->bs.length+(textF r).length<2 ^ 28->Con UY 114 [.p (some (id,0)), .agg (Zd r)] h fun v h'=>v= .tup []∧Bd h' id (bs++textF r)
theorem Zlp{h}{a:Nat}{bs:List UInt8}(b:Bd h a bs)(n:Int)(c:UInt8)(e:n=(c.toNat:Nat))(f:bs.length<2 ^ 29):Con UY 126 [.p (some (a,0)), .i .u8 n] h λv d=>v= .nilifc/\Bd d a (bs++ [c]):=by
 subst e;exact Zv0 b c f
theorem Zc8(k:Int): ∀(b:Bool) (l m:List Re),l≠ []->textF.textsF k b (l++m)=textF.textsF k b l++textF.textsF k true m
 |_,[],_,h=>absurd rfl h
 |b,[r],m,_=>by rw[qs,qy,textF.textsF,textF.textsF,textF.textsF,qi]
 |b,r::a::l,m,_=>by
  rw[qs,textF.textsF,Zc8 k true (a::l) m sm,textF.textsF.eq_2 k b r (a::l)];simp only[uU]
theorem Zfs(k:Int)(l:List Re){i:Nat}(f:i<l.length):textF.textsF k false (l.take (i+1))=textF.textsF k false (l.take i)++((if 0<i/\(k==5)=true then [124]else [])++textF l[i]):=by
 rw[qa f];by_cases d:i=0
 .subst d;rw[uQ,qy,textF.textsF,textF.textsF,textF.textsF,uE sm,uE sm];simp
 .rw[Zc8 k false _ _ (λe=>by have c:(l.take i).length=i:=(by rw[uO];omega);rw[e]at c;simp at c;omega),textF.textsF,textF.textsF];by_cases a:(k==5)=true
  .rw[uF ⟨rfl,a⟩,uF ⟨om,a⟩,qi]
  .rw[uE (λe=>a e.2),uE (λe=>a e.2),qi]
theorem Zc9(k:Int)(l:List Re)(i:Nat):(textF.textsF k false (l.take i)).length<=(textF.textsF k false l).length:=by
 by_cases h:l.take i= []
 .rw[h,textF.textsF];simp
 .have:=Zc8 k false (l.take i) (l.drop i) h;rw[vL]at this;rw[this];simp
abbrev reL(k:Int)(s:S4)(a:List Re)(c d n:Int):List V:= [I k,U s.1,U s.2.1,U s.2.2.1,U s.2.2.2,lst Zd a,I c,I d,I n]
theorem Zzz{B:Nat}(hB:B<2 ^ 20){k:Int}{s}{a:List Re}{y w n:Int}(hl:a.length<=B)(h6:k=6->0<=y/\y<=8/\(w= -1\/(y<=w/\w<=8)))(ih: ∀x∈a,TX x):TX (.mk k s a y w n):=by
 refine⟨λh r bs O D=> ?_⟩;rw[textF]at D ⊢;have a2:=Zqg k s;have a1:=Zlo k y w;simp only[qf]at D;rw[Zm];refine Zv UK (fn:=Tryz.f114) (Zh UK 63 ZJx rfl ?_);have go: ∀ {g:Heap},Bd g r (bs++preT k s)->PreV UY 63 [0,2,3,28,29,30] (post (flat (Za Tryz.f114))) (FinS UY Tryz.f114 (AfterZ λv h'=>v= .tup []/\Bd h' r (bs++(preT k s++textF.textsF k false a++Zaf k y w)))) .normal 63 [.p (some (r,0)), .undef, .lb (reL k s a y w n),lst Zd a,I (a.length:Nat),I 0] g:=by
  intro g hg;refine⟨rfl,ZN [0,2,3,28,29,30] [0,2,3,28,29,30] (λm vs g=> ∃i:Nat,vs= [.p (some (r,0)), .undef, .lb (reL k s a y w n),lst Zd a,I (a.length:Nat),I (i:Nat)]/\i<=a.length/\m=a.length-i/\Bd g r (bs++preT k s++textF.textsF k false (a.take i))) a.length ZA ⟨0,rfl,om,om,by rw[uQ,textF.textsF,qi];exact hg⟩ ?_⟩;rintro m vs g ⟨i,rfl,a6,rfl,j⟩;refine Zn UK ZJy rfl ?_;refine Zq (λA=> ?_) (λa3=> ?_)
  .have K:=(ih a[i] (qe A)).c;have u:=Za4 A;have W:=Zfs k a A;have d:=Zc9 k a (i+1);have a0:=Zc9 k a i;rw[W]at d;simp only[qf]at d;have next: ∀ {f:Heap} {L:List UInt8},L=(if 0<i/\(k==5)=true then [124]else [])->Bd f r (bs++preT k s++textF.textsF k false (a.take i)++L++textF a[i])->Bd f r (bs++preT k s++textF.textsF k false (a.take (i+1))):=λC H=>by
    rw[W,<-C];simpa only[uU]using H
   generalize a[i]=x at K u d next;obtain⟨xk,xs,xl,a4,a5,xn⟩:=x;rw[Zm]at u;simp only[Zm]at K;refine⟨Zu A,_,_,_,_,_,_,_,_,_,_,_,u,?_⟩;refine Zf (λz=>Zf (λg5=> ?_) (λg5=> ?_)) (λz=> ?_)
   .have h0:0<i:=by simpa[ltI]using z
    have C:([124]:List UInt8)=(if 0<i/\(k==5)=true then [124]else []):=by rw[uF ⟨h0,g5⟩]
    refine(Zlp j 124 124 rfl (by simp only[qf];omega)).mono λv f ⟨o,l⟩=> .inl ⟨o,?_⟩;refine(K f r _ l (by rw[<-C]at d;simp only[qf,qh,qp]at d ⊢;omega)).mono λv G ⟨N,X⟩=>⟨N,?_⟩;exact⟨rfl,a.length-(i+1),om,i+1,by rw[Ze om];rfl,om,rfl,next C X⟩
   .have C:([]:List UInt8)=(if 0<i/\(k==5)=true then [124]else []):=by rw[uE (by rw[g5];simp)]
    refine(K g r _ j (by simp only[qf];omega)).mono λv G ⟨N,X⟩=>⟨N,?_⟩;exact⟨rfl,a.length-(i+1),om,i+1,by rw[Ze om];rfl,om,rfl,next C (by rw[qi];exact X)⟩
   .have h0: ¬0<i:=by simpa[ltI]using z
    have C:([]:List UInt8)=(if 0<i/\(k==5)=true then [124]else []):=by rw[uE (λe=>h0 e.1)]
    refine(K g r _ j (by simp only[qf];omega)).mono λv G ⟨N,X⟩=>⟨N,?_⟩;exact⟨rfl,a.length-(i+1),om,i+1,by rw[Ze om];rfl,om,rfl,next C (by rw[qi];exact X)⟩
  .have he:i=a.length:=om;subst he;rw[qm]at j;refine Zj [0,3] ?_;refine Zo UK ZJz rfl ?_;have F: ∀ {f:Heap} {t:List UInt8},Zaf k y w=t->Bd f r (bs++preT k s++textF.textsF k false a++t)->Fin UY Tryz.f114 [] (AfterZ λv h'=>v= .tup []/\Bd h' r (bs++(preT k s++textF.textsF k false a++Zaf k y w))) .normal 63 [] f:=λht H=>finC (.inl rfl) rfl (.now ⟨rfl,by rw[ht];simpa only[uU]using H⟩);refine Zf (λP=> ?_) (λP=>Zf (λE=> ?_) (λE=> ?_))
   .have e6:=h6 (by simpa using P);refine⟨_,Zzx ⟨e6.1,e6.2.1⟩ e6.2.2,(Zqe j _ (by have:=Zfq y w;simp only[qf];omega)).mono λv f ⟨o,l⟩=>⟨_, .inl ⟨o,F (by rw[Zaf,uF P]) l⟩⟩⟩
   .exact(Zlp j 41 41 rfl (by simp only[qf];omega)).mono λv f ⟨o,l⟩=> .inl ⟨o,F (by rw[Zaf,uE (by rw[P];simp),uF E]) l⟩
   .exact F (t:= []) (by rw[Zaf,uE (by rw[P];simp),uE (by rw[E];simp)]) (by rw[qi];exact j)
 refine Zf (λz=> ?_) (λz=>Zf (λf=> ?_) (λf=>Zf (λG=> ?_) (λG=>Zf (λE=> ?_) (λE=> ?_))))
 .refine⟨_,Zzy s,(Zqe O _ (by have:=Zqf s;omega)).mono λv f ⟨o,l⟩=>⟨_, .inl ⟨o,go (by rw[preT,uF z];exact l)⟩⟩⟩
 .exact(Zlp O 94 94 rfl om).mono λv Z ⟨o,l⟩=> .inl ⟨o,go (by rw[preT,uE (by rw[z];simp),uF f];exact l)⟩
 .exact(Zlp O 36 36 rfl om).mono λv Z ⟨o,l⟩=> .inl ⟨o,go (by rw[preT,uE (by rw[z];simp),uE (by rw[f];simp),uF G];exact l)⟩
 .exact(Zlp O 40 40 rfl om).mono λv Z ⟨o,l⟩=> .inl ⟨o,go (by rw[preT,uE (by rw[z];simp),uE (by rw[f];simp),uE (by rw[G];simp),uF E];exact l)⟩
 .exact go (by rw[preT,uE (by rw[z];simp),uE (by rw[f];simp),uE (by rw[G];simp),uE (by rw[E];simp),qi];exact O)
mutual
theorem ZJ4{B:Nat}(c:B<2 ^ 20): ∀r:Re,wfRe B r->TX r
 | .mk k s a f d n,h=>by
  rw[wfRe]at h;exact Zzz c h.2.2.1 (λe=>⟨(h.1 e).1,(h.1 e).2.1,(h.1 e).2.2.1⟩) (ZCf c a h.2.2.2)
theorem ZCf{B:Nat}(c:B<2 ^ 20): ∀l:List Re,wfRe.wfRes B l-> ∀x∈l,TX x
 | [],_,x,a=>by cases a
 |r::l,h,x,a=>by
  rw[wfRe.wfRes]at h;have d:=ZJ4 c r h.1;have f:=ZCf c l h.2;rcases qu.1 a with e|a
  .exact e▸d
  .exact f x a
end
theorem ZE9{h}{e:Nat}{bs:List UInt8}(b:Bd h e bs):RCon UY 115 [.p (some (e,0))] h (I (bs.length:Nat)):=by
 obtain⟨a,s,n,c,k,j,r,m,o,hz⟩:=b.ex;have f:=m.1;simp at f;have l:Zb h e 1 1=some [.sl s n c k]:=by simp[Zb,j,Zr]
 have d:Con UY 115 [.p (some (e,0))] h λv g=>v= I (bs.length:Nat)/\g=h:=by
  refine Zv UK (fn:=Tryz.f115) (Zo UK ZJo rfl ?_);exact⟨_,_,_,_,l,finC rr rfl (.now ⟨by rw[<-f];rfl,rfl⟩)⟩
 exact⟨h,d,λ_ _=>rfl,λ_ hp=>hp⟩
def Zv4(r:Re):V:=if rightF r 0 0 0=none then .tup [.s [], .i .i64 5]else if 200<(textF r).length then .tup [.s [], .i .i64 2]else .tup [.s (textF r), .i .i64 0]
def mayE(r:Re):Bool:=(rightF r 0 0 0).isSome&&decide ((textF r).length<=200)
set_option linter.unusedVariables false
theorem Zv5{B:Nat}(A:B<2 ^ 20){r}(f:wfRe B r)(a:(textF r).length<2 ^ 28):PCon UY 69 [.agg (Zd r)] (· =Zv4 r):=by
 have hr:=(ZB5 A r f).c;have m:=(ZJ4 A r f).c;unfold Zv4;generalize rightF r=rf at hr;generalize textF r=z at m a;obtain⟨k,s,C,N,G,n⟩:=r;rw[Zm]at hr m ⊢;refine Zw UK (fn:=Tryz.f69) rfl ZPn rfl ?_;have E:JH ((Heap.empty).pushT (UY.tag 178) (YObj.arr [I 0] true)) Heap.empty.nx 0:=by rw[JH,qj,uF rfl]
 refine(hr 0 0 0 _ _ E).mono λv d ⟨F,L⟩=>⟨_,F,Zf (λl=> ?_) (λl=> ?_)⟩
 .have x:rf 0 0 0=none:=by
   cases h:rf 0 0 0 with
   |none=>rfl
   |some y=>rw[h]at l;cases l
  rw[uF x];exact Zk2 rr rfl (.s _) (.i _ _) rfl
 .have x: ¬rf 0 0 0=none:=λe=>by rw[e]at l;cases l
  rw[uE x];have t:UY.tag 182=some 182:=kr;rw[t];have u:Bd (d.pushT (some 182) (YObj.arr [.p none, .sl none 0 (some 0) 0] true)) d.nx []:=by
   refine⟨⟨none,none,0,some 0,0,by rw[qj,uF rfl], .inl rfl,⟨rfl, .inl ⟨rfl,rfl,rfl⟩⟩,(λj o e=>by cases e),λ_=>rfl⟩,?_,sm⟩;show((d.push _).tagIf d.nx (some 182)).tagOf d.nx=some 182;rw[QE];simp
  refine(m _ _ _ u (by simpa using a)).mono λv H ⟨D,w⟩=>⟨D,?_⟩;rw[qy]at w;refine⟨_,ZE9 w,Zf (λg=> ?_) (λg=> ?_)⟩
  .have g:200<z.length:=by simp[ltI]at g;omega
   rw[uF g];exact Zk2 rr rfl (.s _) (.i _ _) rfl
  .have g: ¬200<z.length:=by simp[ltI]at g;omega
   rw[uE g];refine(Zzw w om).mono λv K e=>⟨_,e,?_⟩;exact Zk2 rr rfl (.s _) (.i _ _) rfl
theorem Zn3{B:Nat}(f:B<2 ^ 20){r}(c:wfRe B r)(a:(textF r).length<2 ^ 28):PCon UY 29 [.agg (Zd r)] (· = .b (mayE r)):=by
 have hp:=Zv5 f c a;unfold Zv4 at hp;unfold mayE;generalize rightF r 0 0 0=o at hp;generalize textF r=e at hp;obtain⟨k,s,d,j,h,n⟩:=r;rw[Zm]at hp ⊢;refine Zw UK (fn:=Tryz.f29) rfl ZPm rfl ?_
 cases o with
 |none=>exact⟨_,_,hp,ZB rr rfl (.b _) rfl⟩
 |some y=>
  rw[uE sm]at hp;by_cases g:200<e.length
  .rw[uF g]at hp;exact⟨_,_,hp,ZB rr rfl (.b _) (by simp;omega)⟩
  .rw[uE g]at hp;exact⟨_,_,hp,ZB rr rfl (.b _) (by simp;omega)⟩
end Go.Y
namespace Go.Y
set_option maxRecDepth 1000000
set_option maxHeartbeats 0
theorem Jx(p:Nat->Bool)(k b:Nat): ∀m,(Xf p k m).testBit b=(decide (b<m)&&p (64*k+b))
 |0=>by simp[Xf]
 |m+1=>by
  rw[XZ];have d:=Jx p k b m;have c:=WH p k m;split
  .next hp=>
   have e:Xf p k m+2 ^ m=2 ^ m|||Xf p k m:=by
    have:=Nat.two_pow_add_eq_or_of_lt c 1;rw[uY]at this;rw[<-this,Nat.add_comm]
   rw[e,Nat.testBit_or,Nat.testBit_two_pow,d];by_cases h:m=b
   .subst h;simp[hp]
   .have f:decide (m=b)=false:=by simpa using h
    rw[f,Bool.false_or];by_cases a:b<m
    .rw[uN a,uN (show b<m+1 from om)]
    .rw[uK a,uK (show¬b<m+1 from om)]
  .next hp=>
   rw[d];by_cases h:m=b
   .subst h;simp[hp]
   .by_cases a:b<m
    .rw[uN a,uN (show b<m+1 from om)]
    .rw[uK a,uK (show¬b<m+1 from om)]
theorem JN(p:Nat->Bool)(c k:Nat):Xf (λx=>p x||x==c) k 64=if c / 64=k then Xf p k 64|||2 ^ (c % 64)else Xf p k 64:=by
 apply Nat.eq_of_testBit_eq;intro b;rw[Jx];split
 .next e=>
  rw[Nat.testBit_or,Jx,Nat.testBit_two_pow];by_cases a:b<64
  .rw[uN a,uT,uT];have:((64*k+b)==c)=decide (c % 64=b):=by
    by_cases h:c % 64=b
    .rw[uN h];simp;omega
    .rw[uK h];simp;omega
   rw[this]
  .rw[uK a,Bool.false_and,Bool.false_and,Bool.false_or];rw[uK];omega
 .next e=>
  rw[Jx];by_cases a:b<64
  .have:((64*k+b)==c)=false:=by simp;omega
   simp only[this,Bool.or_false]
  .rw[uK a,Bool.false_and,Bool.false_and]
theorem Zlq(p:Nat->Bool)(k:Nat): ∀m,Xf (λx=> !p x) k m=2 ^ m-1-Xf p k m
 |0=>by simp[Xf]
 |m+1=>by
  have a:=Zlq p k m;have c:=WH p k m;rw[XZ,XZ,a,Nat.pow_succ];cases p (64*k+m)<;>simp<;>omega
theorem Zft{m:Nat}(h:m<2 ^ 64):(BitVec.ofInt IntKind.u64.bits (m:Int)).toNat=m:=by
 show(BitVec.ofInt 64 (m:Int)).toNat=m;rw[BitVec.toNat_ofInt];omega
theorem Zv6{n b:Nat}(h:n<2 ^ 64)(a:b<64):IntKind.u64.wrap (((BitVec.ofInt IntKind.u64.bits (n:Int)|||BitVec.ofInt IntKind.u64.bits (IntKind.u64.wrap (1*2 ^ min b IntKind.u64.bits))).toNat:Nat):Int)=((n|||2 ^ b:Nat):Int):=by
 have c:2 ^ b<2 ^ 64:=Nat.pow_lt_pow_right dc a;rw[Znu a,BitVec.toNat_or,Zft h,Zft c];exact Zd7 (Nat.or_lt_two_pow h c)
theorem Zqh{n:Nat}(h:n<2 ^ 64):IntKind.u64.wrap (((BitVec.ofInt IntKind.u64.bits (if IntKind.u64.signed=true then -1 else IntKind.u64.max) ^^^ BitVec.ofInt IntKind.u64.bits (n:Int)).toNat:Nat):Int)=((2 ^ 64-1-n:Nat):Int):=by
 have a:(BitVec.ofInt 64 (-1) ^^^ BitVec.ofInt 64 (n:Int)).toNat=2 ^ 64-1-n:=by
  have e:BitVec.ofInt 64 (-1)=BitVec.allOnes 64:=dc;have c:(BitVec.ofInt 64 (n:Int)).toNat=n:=Zft h;rw[e,BitVec.allOnes_xor,BitVec.toNat_not,c]
 show IntKind.u64.wrap (((BitVec.ofInt 64 (-1) ^^^ BitVec.ofInt 64 (n:Int)).toNat:Nat):Int)=_;rw[a];exact Zd7 om
abbrev Zv7(s:S4):List V:= [U s.1,U s.2.1,U s.2.2.1,U s.2.2.2]
theorem Zn4(p:Nat->Bool):Zv7 (ZC p)= [U (Xf p 0 64:Nat),U (Xf p 1 64:Nat),U (Xf p 2 64:Nat),U (Xf p 3 64:Nat)]:=rfl
theorem Zv8(p:Nat->Bool){c:Nat}(h:c<256):Zr 1 ((Zv7 (ZC p)).drop (0+c / 64*1))=some [U (Xf p (c / 64) 64:Nat)]:=by
 have:c / 64=0\/c / 64=1\/c / 64=2\/c / 64=3:=om;rcases this with e|e|e|e<;>rw[e]<;>rfl
theorem Zz0(p:Nat->Bool){c:Nat}(h:c<256):splice (Zv7 (ZC p)) (0+c / 64*1) [U ((Xf p (c / 64) 64|||2 ^ (c % 64):Nat):Int)]=Zv7 (ZC λx=>p x||x==c):=by
 rw[Zn4 (λx=>p x||x==c),JN,JN,JN,JN]
 have:c / 64=0\/c / 64=1\/c / 64=2\/c / 64=3:=om;rcases this with e|e|e|e<;>rw[e]<;>rfl
theorem Zv9(p:Nat->Bool):ZC (λx=> !p x)=(((2 ^ 64-1-Xf p 0 64:Nat):Int),((2 ^ 64-1-Xf p 1 64:Nat):Int),((2 ^ 64-1-Xf p 2 64:Nat):Int),((2 ^ 64-1-Xf p 3 64:Nat):Int)):=by
 simp only[ZC,Zbv,Zlq]
theorem setOf_no:ZC (λ_=>false)=(0,0,0,0):=by
 simp only[ZC,Zbv];have: ∀k,Xf (λ_=>false) k 64=0:=λk=>VS λ_ _=>rfl;simp only[this];rfl
theorem Zlr{p q:Nat->Bool}(h: ∀c,c<256->p c=q c):ZC p=ZC q:=by
 have: ∀k,k<4->Xf p k 64=Xf q k 64:=λk d=>by
  apply Nat.eq_of_testBit_eq;intro b;rw[Jx,Jx];by_cases a:b<64
  .rw[h _ om]
  .rw[uK a,Bool.false_and,Bool.false_and]
 simp only[ZC,Zbv,this 0 om,this 1 om,this 2 om,this 3 om]
def Zls(p:Nat->Bool)(a d:Int)(c:Nat):Bool:=p c||(decide (a<=(c:Int))&&decide ((c:Int)<=d))
theorem Vo(a:List Span)(e d:Int):ZQ (a++ [⟨e,d⟩])=Zls (ZQ a) e d:=by
 funext c;simp[ZQ,Zls]
def Vp(l:List Span):Re:=Qk (ZC (ZQ l))
def Vq:Re:=Qk (ZC λ_=>true)
def ZS:Re:= .mk 6 (0,0,0,0) [Vq] 0 (-1) 0
def Qh(c:UInt8):Re:=Qk (ZC λx=>x==c.toNat)
def ZK(s:List UInt8):List Re:=s.map Qh
def XW(g:Glob):List Re:=if g.k=0 then [Vp [⟨g.b,g.b⟩]]else if g.k=1 then [Vq]else if g.k=2 then [ZS]else if g.k=3 then [Vp g.sp]else []
def ZP(l:List Glob):List Re:=l.flatMap XW
def fitV(r:Re):V:=if mayE r=true then .tup [.agg (Zd r), .i .i64 0]else .tup [.agg (Zd Xs), .i .i64 2]
theorem Zsg(c:UInt8):Vp [⟨(c.toNat:Nat),(c.toNat:Nat)⟩]=Qh c:=by
 unfold Vp Qh;refine congrArg (λp=>Qk (ZC p)) (funext λx=> ?_);simp only[ZQ,List.any_cons,List.any_nil,Bool.or_false];by_cases h:x=c.toNat
 .subst h;simp
 .have d:(x==c.toNat)=false:=by simpa using h
  rw[d];by_cases a:(c.toNat:Int)<=(x:Int)
  .rw[uK (show¬(x:Int)<=(c.toNat:Int) from om)];simp
  .rw[uK a];rfl
theorem Zsh:Vp [⟨0,255⟩]=Vq:=by
 unfold Vp Vq;refine congrArg Qk (Zlr λc a=> ?_);simp[ZQ];omega
theorem Zfu(l:List Glob){i:Nat}(a:i<l.length):ZP (l.take (i+1))=ZP (l.take i)++XW l[i]:=by
 unfold ZP;rw[qa a,ug];simp
theorem Zsi(g:Glob):(XW g).length<=1:=by
 unfold XW
 repeat' split
 all_goals simp
theorem VW(l:List Glob):(ZP l).length<=l.length:=by
 induction l with
 |nil=>simp[ZP]
 |cons g l a=>
  have:=Zsi g;have e:ZP (g::l)=XW g++ZP l:=by simp[ZP]
  rw[e,qf,qh];omega
theorem Zn5(s:List UInt8){i:Nat}(a:i<s.length):ZK (s.take (i+1))=ZK (s.take i)++ [Qh s[i]]:=by
 unfold ZK;rw[qa a,uV];rfl
theorem Jh(s:List UInt8):(ZK s).length=s.length:=by simp[ZK]
/-! ### They are well formed -/
theorem Zqi{B:Nat}(x):wfRe B (Qk x):=Za0 (.inl rfl)
theorem ZCg{B:Nat} :wfRe B Vq:=Zqi _
theorem Zn6{B:Nat}(a:1<=B):wfRe B ZS:=Zfe a (.inr ⟨rfl,dc,dc, .inl rfl⟩) ZCg
theorem Zwa{B:Nat}(a:1<=B)(g:Glob):wfRe.wfRes B (XW g):=by
 unfold XW;split
 .rw[wfRe.wfRes,wfRe.wfRes];exact⟨Zqi _,trivial⟩
 split
 .rw[wfRe.wfRes,wfRe.wfRes];exact⟨ZCg,trivial⟩
 split
 .rw[wfRe.wfRes,wfRe.wfRes];exact⟨Zn6 a,trivial⟩
 split
 .rw[wfRe.wfRes,wfRe.wfRes];exact⟨Zqi _,trivial⟩
 .rw[wfRe.wfRes];trivial
theorem Zfv{B:Nat}(a:1<=B): ∀l:List Glob,wfRe.wfRes B (ZP l)
 | []=>by simp only[ZP,List.flatMap_nil];rw[wfRe.wfRes];trivial
 |g::l=>by
  have e:ZP (g::l)=XW g++ZP l:=by simp[ZP]
  rw[e];exact Wm (Zwa a g) (Zfv a l)
theorem Zfw{B:Nat} : ∀s:List UInt8,wfRe.wfRes B (ZK s)
 | []=>by simp only[ZK,List.map_nil];rw[wfRe.wfRes];trivial
 |c::s=>by
  have e:ZK (c::s)=Qh c::ZK s:=by simp[ZK]
  rw[e,wfRe.wfRes];exact⟨Zqi _,Zfw s⟩
theorem Zwb:cntN Vq=1:=JX _
theorem Zqj:cntN ZS=2:=by unfold ZS;rw[Za5,Zwb]
theorem Zsj(g:Glob):cntN.cntsN (XW g)<=2:=by
 unfold XW;split
 .rw[Qa];unfold Vp;rw[JX];decide
 split
 .rw[Qa,Zwb];decide
 split
 .rw[Qa,Zqj];decide
 split
 .rw[Qa];unfold Vp;rw[JX];decide
 .rw[cntN.cntsN];decide
theorem Zda: ∀l:List Glob,cntN.cntsN (ZP l)<=2*l.length
 | []=>by simp only[ZP,List.flatMap_nil];rw[cntN.cntsN];simp
 |g::l=>by
  have e:ZP (g::l)=XW g++ZP l:=by simp[ZP]
  have a:=Zsj g;have c:=Zda l;rw[e,Jw,qh];omega
theorem Zdb: ∀s:List UInt8,cntN.cntsN (ZK s)=s.length
 | []=>by simp only[ZK,List.map_nil];rw[cntN.cntsN];simp
 |c::s=>by
  have e:ZK (c::s)=Qh c::ZK s:=by simp[ZK]
  have a:=Zdb s;rw[e,cntN.cntsN,a,qh];unfold Qh;rw[JX];omega
structure FewL(l:List Re):Prop where
 wf:wfRe.wfRes 1000 l
 cnt:cntN.cntsN l<=5000
 len:l.length<=1000
theorem FewL.re{l}(h:FewL l):wfRe 1000 (sevS 4 l):=Zpx (.inl rfl) h.len h.wf
theorem FewL.txt{l}(h:FewL l):(textF (sevS 4 l)).length<2 ^ 28:=by
 have c:=Vn (sevS 4 l);have d:=Zc6 4 l;have a:=h.cnt;omega
theorem Vr{s:List UInt8}(h:s.length<=300):FewL (ZK s):=⟨Zfw s,by rw[Zdb];omega,by rw[Jh];omega⟩
theorem Zfx{l:List Glob}(h:l.length<=300):FewL (ZP l):=⟨Zfv dc l,by have:=Zda l;omega,by have:=VW l;omega⟩
end Go.Y
namespace Go.Y
open Go.Proofs
set_option maxRecDepth 1000000
set_option maxHeartbeats 0
theorem ZJ5{id h}(K):CP UY 107 (flat (Za Tryz.f107)) (.p (some (id,0))::Rp 19) h [2] K=(∃a,Zb h id 3 1=some [I a]/\If (a==(0:Int)) (∃c,Zb h id 1 1=some [I c]/\ ∃d,Zb h id 0 1=some [.s d]/\K .ret 20 [.b (ltI c (↑d.length:Int))] h) (K .ret 20 [.b false] h)):=kr
theorem ZJ6{id x1 h}(K):CP UY 108 (flat (Za Tryz.f108)) (.p (some (id,0))::I x1::Rp 11) h [] K=(∃a,Zb h id 3 1=some [I a]/\If (a==(0:Int)) (∃b,Zi h id 3 [I x1]=some b/\K .normal 13 [] b) (K .normal 13 [] h)):=kr
theorem ZJ7{id a h}(K):CP UY 136 (flat (Za Tryz.f136)) (.p (some (id,0))::.s a::Rp 34) h [4] K=(∃c,Zb h id 3 1=some [I c]/\If (c==(0:Int)) (∃d,Zb h id 1 1=some [I d]/\ ∃e,Zb h id 0 1=some [.s e]/\If (ltI d (↑e.length:Int)) (∃f,Zb h id 0 1=some [.s f]/\ ∃g,Zb h id 1 1=some [I g]/\ ∃j,((0:Int)<=g/\f[g.toNat]? =some j)/\ ∃l,(PCon UY 171 [.s a,.i .u8 (↑j.toNat:Int)] fun(v:V)=>v=I l)/\K .ret 36 [.b (leI 0 l)] h) (K .ret 36 [.b false] h)) (K .ret 36 [.b false] h)):=kr
theorem ZJ8{id h}(K):CP UY 137 (flat (Za Tryz.f137)) (.p (some (id,0))::Rp 24) h [2] K=(∃a,RCon UY (107:Nat) [.p (some (id,0))] h (.b a)/\If (!a) (Con UY 108 [.p (some (id,0)),I 1] h fun(v:V) (g:Heap)=>v=.tup []/\K .ret 25 [.i .u8 0] g) (∃b,Zb h id 1 1=some [I b]/\ ∃c,Zi h id 1 [I (wW (b+(1:Int)))]=some c/\ ∃d,Zb c id 0 1=some [.s d]/\ ∃e,Zb c id 1 1=some [I e]/\ ∃f,((0:Int)<=wW (e-(1:Int))/\d[(wW (e-(1:Int))).toNat]? =some f)/\K .ret 25 [.i .u8 (↑f.toNat:Int)] c)):=kr
theorem ZJ9{id a h}(K):CP UY 196 (flat (Za Tryz.f196)) (.p (some (id,0))::.s a::Rp 11) h [4] K=(∃b,RCon UY (136:Nat) [.p (some (id,0)),.s a] h (.b b)/\If (!b) (Con UY 108 [.p (some (id,0)),I 1] h fun(v:V) (d:Heap)=>v=.tup []/\K .ret 13 [.i .u8 0] d) (Con UY 137 [.p (some (id,0))] h fun(v:V) (d:Heap)=> ∃c,v=.i .u8 c/\K .ret 13 [.i .u8 c] d)):=kr
theorem ZKa{id h}(K):CP UY 199 (flat (Za Tryz.f199)) (.p (some (id,0))::Rp 21) h [2] K=(∃a,RCon UY (136:Nat) [.p (some (id,0)),.s [93,45]] h (.b a)/\If a (Con UY 108 [.p (some (id,0)),I 1] h fun(v:V) (e:Heap)=>v=.tup []/\K .ret 22 [.i .u8 0] e) (Con UY 137 [.p (some (id,0))] h fun(v:V) (e:Heap)=> ∃b,v=.i .u8 b/\If (b==(92:Int)) (∃c,Zb e id 3 1=some [I c]/\If (c==(0:Int)) (Con UY 137 [.p (some (id,0))] e fun(v:V) (e:Heap)=> ∃d,v=.i .u8 d/\K .ret 22 [.i .u8 d] e) (K .ret 22 [.i .u8 b] e)) (K .ret 22 [.i .u8 b] e))):=kr
def pk(s:List UInt8)(i:Nat)(a:List UInt8):Bool:=match s[i]? with|some c=>a.contains c|none=>false
theorem Vs{s:List UInt8}{i:Nat}{c:UInt8}(h:s[i]? =some c)(a:List UInt8):pk s i a=a.contains c:=by unfold pk;rw[h]
theorem ZFa{s:List UInt8}{i:Nat}(h:s[i]? =none)(a:List UInt8):pk s i a=false:=by unfold pk;rw[h]
theorem Qw(s:List UInt8)(i:Nat)(c:UInt8):pk s i [c]=(s[i]? ==some c):=by
 unfold pk
 cases s[i]? with
 |none=>rfl
 |some d=>
  show([c].contains d)=(some d==some c);rw[List.contains_cons,List.contains_nil,Bool.or_false];rfl
theorem Zwc{s:List UInt8}{i:Nat}{a:List UInt8}(h:pk s i a=true): ∃c,s[i]? =some c/\a.contains c=true/\i<s.length:=by
 unfold pk at h
 cases d:s[i]? with
 |none=>rw[d]at h;cases h
 |some c=>rw[d]at h;exact⟨c,rfl,h,(qb.1 d).1⟩
theorem Zwd(c:UInt8): ∀(m:List UInt8) (n:Nat),leI 0 (Jl m c n)=m.contains c
 | [],n=>rfl
 |x::m,n=>by
  unfold Jl;by_cases a:x=c
  .simp[a,leI]
  .have d:(c==x)=false:=by simpa using λh=>a h.symm
   have e: ¬(x==c)=true:=by simpa using a
   simp only[List.contains_cons,d,Bool.false_or];rw[uE e];exact Zwd c m (n+1)
theorem ZFb{h}{c:Nat}{s}{i g:Nat}{e:Int}(r:RdE h c s i g e):
  RCon UY 107 [.p (some (c,0))] h (.b (e==0&&decide (i<s.length))):=by
 refine⟨h,?_,λ_ _=>rfl,λ_ h=>h⟩;refine Zv UK (fn:=Tryz.f107) (Zo UK ZJ5 rfl ?_);refine⟨_,r.c3,Zf (λa=> ?_) (λa=> ?_)⟩
 .refine⟨_,r.c1,_,r.c0,finC rr rfl (.now ⟨?_,rfl⟩)⟩;rw[a,uT];have:ltI (i:Nat) (s.length:Nat)=decide (i<s.length):=by simp[ltI]
  rw[this];rfl
 .refine finC rr rfl (.now ⟨?_,rfl⟩);rw[a];rfl
theorem Zn7{h}{c:Nat}{s}{i g:Nat}{e:Int}(r:RdE h c s i g e)(x:Int):
  Con UY 108 [.p (some (c,0)),I x] h λv d=>v= .tup []/\RdE d c s i g (if e=0 then x else e)/\FrO h c d:=by
 refine Zv UK (fn:=Tryz.f108) (Zo UK ZJ6 rfl ?_);refine⟨_,r.c3,Zf (λa=> ?_) (λa=> ?_)⟩
 .have a:e=0:=by simpa using a
  obtain⟨k,j,f,l⟩:=r.s3 x;exact⟨k,j,finC (.inl rfl) rfl (.now ⟨rfl,by rw[uF a];exact f,l⟩)⟩
 .have a:e≠0:=by simpa using a
  exact finC (.inl rfl) rfl (.now ⟨rfl,by rw[uE a];exact r, .refl _ _⟩)
theorem Za6{h}{f:Nat}{s}{i g:Nat}{e:Int}(r:RdE h f s i g e)(a:List UInt8):
  RCon UY 136 [.p (some (f,0)), .s a] h (.b (e==0&&pk s i a)):=by
 refine⟨h,?_,λ_ _=>rfl,λ_ h=>h⟩;refine Zv UK (fn:=Tryz.f136) (Zo UK ZJ7 rfl ?_);refine⟨_,r.c3,Zf (λd=> ?_) (λd=> ?_)⟩
 .refine⟨_,r.c1,_,r.c0,Zq (λc=> ?_) (λj=> ?_)⟩
  .refine⟨_,r.c0,_,r.c1,s[i],Za1 c,_,Zvx a s[i],finC rr rfl (.now ⟨?_,rfl⟩)⟩;rw[Zwd,d,Vs (by simp[c]:s[i]? =some s[i])];rfl
  .refine finC rr rfl (.now ⟨?_,rfl⟩);rw[ZFa (qq om)];simp[V.plain]
 .refine finC rr rfl (.now ⟨?_,rfl⟩);rw[d];rfl
def nxQ(h:Heap)(d:Nat)(s:List UInt8)(i g:Nat)(e:Int)(v:V)(a:Heap):Prop:=
 (∃c,e=0/\s[i]? =some c/\v= .i .u8 (c.toNat:Nat)/\RdE a d s (i+1) g 0/\FrO h d a)\/
 (e=0/\s[i]? =none/\v= .i .u8 0/\RdE a d s i g 1/\FrO h d a)\/(e≠0/\v= .i .u8 0/\RdE a d s i g e/\FrO h d a)
theorem Zgw{h}{d:Nat}{s:List UInt8}{i g:Nat}{e:Int}(r:RdE h d s i g e)(w:s.length<2 ^ 28):
  Con UY 137 [.p (some (d,0))] h (nxQ h d s i g e):=by
 refine Zv UK (fn:=Tryz.f137) (Zo UK ZJ8 rfl ?_);refine⟨_,ZFb r,Zf (λa=> ?_) (λa=> ?_)⟩
 .refine(Zn7 r 1).mono λv x ⟨u,f,m⟩=>⟨u,finC rr rfl (.now ?_)⟩;by_cases k:e=0
  .subst k;have:s[i]? =none:=by
    simp only[beq_self_eq_true,uT,Bool.not_eq_true',decide_eq_false_iff_not]at a;exact qq om
   exact .inr (.inl ⟨rfl,this,rfl,by simpa using f,m⟩)
  .rw[uE k]at f;exact .inr (.inr ⟨k,rfl,f,m⟩)
 .have a:(e==0&&decide (i<s.length))=true:=by simpa using a
  have l:e=0/\i<s.length:=by simpa using a
  obtain⟨rfl,c⟩:=l;obtain⟨t,n,j,o⟩:=r.s1 (i+1);refine⟨_,r.c1,t,by rw[Ze om];exact n,_,j.c0,_,j.c1,s[i],?_,finC rr rfl (.now (.inl ⟨s[i],rfl,by simp[c],rfl,j,o⟩))⟩;rw[ZI om om,show((i+1:Nat):Int)-1=(i:Int) from om];exact Za1 c
def ndQ(h:Heap)(d:Nat)(s:List UInt8)(i g:Nat)(e:Int)(f:List UInt8)(v:V)(a:Heap):Prop:=
 (∃c,e=0/\s[i]? =some c/\f.contains c=true/\v= .i .u8 (c.toNat:Nat)/\RdE a d s (i+1) g 0/\FrO h d a)\/
 (e=0/\pk s i f=false/\v= .i .u8 0/\RdE a d s i g 1/\FrO h d a)\/(e≠0/\v= .i .u8 0/\RdE a d s i g e/\FrO h d a)
theorem Zjh{h}{m:Nat}{s:List UInt8}{i g:Nat}{e:Int}(r:RdE h m s i g e)(a:List UInt8)(x:s.length<2 ^ 28):
  Con UY 196 [.p (some (m,0)), .s a] h (ndQ h m s i g e a):=by
 refine Zv UK (fn:=Tryz.f196) (Zo UK ZJ9 rfl ?_);refine⟨_,Za6 r a,Zf (λn=> ?_) (λn=> ?_)⟩
 .refine(Zn7 r 1).mono λv y ⟨t,f,k⟩=>⟨t,finC rr rfl (.now ?_)⟩;by_cases j:e=0
  .subst j;exact .inr (.inl ⟨rfl,by simpa using n,rfl,by simpa using f,k⟩)
  .rw[uE j]at f;exact .inr (.inr ⟨j,rfl,f,k⟩)
 .have o:e=0/\pk s i a=true:=by simpa using n
  obtain⟨rfl,hp⟩:=o;obtain⟨c,l,A,B⟩:=Zwc hp;refine(Zgw r x).mono λv y z=> ?_;rcases z with ⟨d,_,u,t,f,k⟩|⟨_,w,_⟩|⟨j,_⟩
  .rw[l]at u;cases u;exact⟨_,t,finC rr rfl (.now (.inl ⟨c,rfl,l,A,rfl,f,k⟩))⟩
  .rw[l]at w;cases w
  .exact absurd rfl j
def enQ(h:Heap)(d:Nat)(s:List UInt8)(i g:Nat)(e:Int)(v:V)(a:Heap):Prop:=
 (∃c j,e=0/\endS s i= .ok (c,j)/\v= .i .u8 c/\RdE a d s j g 0/\FrO h d a)\/
 (∃j,e=0/\endS s i= .error j/\v= .i .u8 0/\RdE a d s j g 1/\FrO h d a)\/(e≠0/\v= .i .u8 0/\RdE a d s i g e/\FrO h d a)
theorem endR{h}{u:Nat}{s:List UInt8}{i g:Nat}{e:Int}(r:RdE h u s i g e)(z:s.length<2 ^ 28):
  Con UY 199 [.p (some (u,0))] h (enQ h u s i g e):=by
 refine Zv UK (fn:=Tryz.f199) (Zo UK ZKa rfl ?_);refine⟨_,Za6 r [93,45],Zf (λy=> ?_) (λy=> ?_)⟩
 .have f:e=0/\pk s i [93,45]=true:=by simpa using y
  obtain⟨rfl,hp⟩:=f;obtain⟨c,o,B,C⟩:=Zwc hp;refine(Zn7 r 1).mono λv D ⟨j,k,l⟩=>⟨j,finC rr rfl (.now (.inr (.inl ⟨i,rfl,?_,rfl,by simpa using k,l⟩)))⟩;have:c=93\/c=45:=by simpa using B
  unfold endS;rw[o];simp only[];rw[uF this]
 .refine(Zgw r z).mono λv E t=> ?_;rcases t with ⟨c,n,o,j,k,l⟩|⟨n,x,j,k,l⟩|⟨n,j,k,l⟩
  .subst n;have f:pk s i [93,45]=false:=by simpa using y
   rw[Vs o]at f;have m: ¬(c=93\/c=45):=by
    intro h;have:([93,45]:List UInt8).contains c=true:=by simpa using h
    rw[this]at f;cases f
   refine⟨_,j,?_⟩;rw[show(92:Int)=(((92:UInt8).toNat:Nat):Int) from dc,Zuo];refine Zf (λa=> ?_) (λa=> ?_)
   .have a:c=92:=by simpa using a
    refine⟨_,k.c3,Zf (λ_=> ?_) (λh=>by simp at h)⟩;refine(Zgw k z).mono λv F t=> ?_;rcases t with ⟨d,_,A,j,w1,w⟩|⟨_,x,j,w1,w⟩|⟨n,_⟩
    .refine⟨_,j,finC rr rfl (.now (.inl ⟨_,i+2,rfl,?_,rfl,w1,l.trans w⟩))⟩;unfold endS;rw[o];simp only[];rw[uE m,uF a,A]
    .refine⟨_,j,finC rr rfl (.now (.inr (.inl ⟨i+1,rfl,?_,rfl,w1,l.trans w⟩)))⟩;unfold endS;rw[o];simp only[];rw[uE m,uF a,x]
    .exact absurd rfl n
   .have a:c≠92:=by simpa using a
    refine finC rr rfl (.now (.inl ⟨_,i+1,rfl,?_,rfl,k,l⟩));unfold endS;rw[o];simp only[];rw[uE m,uE a]
  .subst n;refine⟨_,j,Zf (λh=>by simp at h) (λ_=>finC rr rfl (.now (.inr (.inl ⟨i,rfl,?_,rfl,k,l⟩))))⟩;unfold endS;rw[x]
  .exact⟨_,j,Zf (λh=>by simp at h) (λ_=>finC rr rfl (.now (.inr (.inr ⟨n,rfl,k,l⟩))))⟩
end Go.Y
