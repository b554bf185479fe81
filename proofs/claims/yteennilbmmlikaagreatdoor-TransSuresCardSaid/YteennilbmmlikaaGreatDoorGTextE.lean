/- A part of the proof. -/
import Derived.Test.YteennilbmmlikaaGreatDoorYLoop
import Derived.Test.YteennilbmmlikaaGreatDoorGSpanE
import Derived.Test.YteennilbmmlikaaGreatDoorGReD
import Derived.Test.YteennilbmmlikaaGreatDoorYAny3
import Derived.Test.YteennilbmmlikaaGreatDoorGSpanC
import Derived.Test.YteennilbmmlikaaGreatDoorGN0
namespace Go.Y
open Go.Proofs
set_option maxRecDepth 1000000
set_option maxHeartbeats 0
/-! ### sign -/
def Zow(x y:Int):List UInt8:=
 if x==0&&y== -1 then [42]else if x==1&&y== -1 then [43]else if x==0&&y==1 then [63]else if x==y then [123]++XD x.toNat++ [125]
 else if y== -1 then [123]++XD x.toNat++ [44,125]else [123]++XD x.toNat++ [44]++XD y.toNat++ [125]
theorem Zf3(x y:Int):(Zow x y).length<=5:=by
 unfold Zow;repeat' split
 all_goals simp[XD]
theorem ZA6{x y:Int}(i:0<=x/\x<=8)(j:y= -1\/(x<=y/\y<=8)):PCon UY 148 [I x,I y] (· = .s (Zow x y)):=by
 have a:PCon UY 178 [I x] (· = .s (XD x.toNat)):=by
  have:=Zq3 x.toNat om
  rwa [Int.toNat_of_nonneg i.1]at this
 have b:(y== -1)=false->PCon UY 178 [I y] (· = .s (XD y.toNat)):=λe=>by
  have e:y≠ -1:=su e;have:=Zq3 y.toNat om
  rwa [Int.toNat_of_nonneg om]at this
 refine Zv UK (fn:=Tryz.f148) rfl ZK8 rfl ?_;unfold Zow;generalize (x==0)=c;generalize (y== -1)=d at b ⊢;generalize (x==1)=f;generalize (y==1)=g;generalize (x==y)=h;cases c<;>cases d<;>cases f<;>cases g<;>cases h<;>first
  |exact ZB (n:=49) rr rfl (.s _) rfl
  |exact⟨_,a,(by simp[XD]),(by simp[XD]),ZB (n:=49) rr rfl (.s _) rfl⟩
  |exact⟨_,a,(by simp[XD]),(by simp[XD]),_,b rfl,(by simp[XD]),(by simp[XD]),ZB (n:=49) rr rfl (.s _) rfl⟩
/-! ### set -/
abbrev Zf4:List UInt8:= [93,45,92,94]
abbrev specB:List UInt8:= [92,124,40,41,42,43,63,123,46,91,94,36]
def XM(p:UInt8×UInt8):List UInt8:=if(((p.2.toNat:Nat):Int) !=((p.1.toNat:Nat):Int))=true then Zcc p.1 Zf4++([45]++Zcc p.2 Zf4)else Zcc p.1 Zf4
def setT(x:Set4):List UInt8:=
 match Wr (hasN x) with
 | []=> [91,94,0,45,255,93]
 |p::l=>if(x.1==maxU&&(x.2.1==maxU&&(x.2.2.1==maxU&&(x.2.2.2==maxU&&true))))=true then [46]
  else if l= []/\(((p.1.toNat:Nat):Int)==((p.2.toNat:Nat):Int))=true then Zcc p.1 specB else [91]++(p::l).flatMap XM++ [93]
theorem Ztf(p:UInt8×UInt8):(XM p).length<=5:=by have a:=Vs p.1 Zf4;have b:=Vs p.2 Zf4;unfold XM;split;simp;omega;omega
theorem VZ: ∀l:List (UInt8×UInt8),(l.flatMap XM).length<=5*l.length
 | []=>sm
 |p::l=>by
  have:=VZ l;have a:=Ztf p;simp only[List.flatMap_cons,qf,qh];omega
theorem Zw3(p): ∀(f c:Nat) (a:List (UInt8×UInt8)),(goF p f c a).length<=a.length+f
 |0,_,_=>qnq _
 |f+1,c,a=>by
  rw[goF];split;refine uu (Zw3 p f _ _) ?_;split;simp;omega;omega;omega
theorem Zh1(p):(Wr p).length<=257:=by have:=Zw3 p 257 0 [];simpa[Wr]using this
theorem Zq5(x):(setT x).length<=1300:=by
 have h:=Zh1 (hasN x);unfold setT;generalize Wr (hasN x)=l at h
 cases l with
 |nil=>simp
 |cons p l=>
  simp only;split;simp;split;have:=Vs p.1 specB;omega;have:=VZ (p::l);simp only[qf,qh,qp]at this h ⊢;omega
theorem getP(l:List (UInt8×UInt8)){i:Nat}(h:i<l.length):Zs 2 (List.drop ((i:Int).toNat*2) (row encP l))=some [.i .u8 (l[i].1.toNat:Nat), .i .u8 (l[i].2.toNat:Nat)]:=by
 rw[qdq];exact Xw (f:=encP) (k:=2) Zcd h
theorem ZA7(x):PCon UY 147 [.agg (setC x)] (· = .s (setT x)):=by
 have b:=Zh1 (hasN x);have d:=Zte x;refine ZF UK (fn:=Tryz.f147) rfl ?_;refine Zh UK 63 ZK9 rfl ?_;unfold setT;generalize w:Wr (hasN x)=L at d b;refine⟨_,_,_,d,?_⟩
 cases L with
 |nil=>exact Zf (λ_=>Xc rr rfl ⟨_, .s _,rfl⟩) (λg=>by simp at g)
 |cons p l=>
  refine Zf (λg=>by simp at g;omega) (λ_=> ?_);refine⟨_,_,_,_,ZFt,?_⟩;simp only;generalize (x.1==maxU&&(x.2.1==maxU&&(x.2.2.1==maxU&&(x.2.2.2==maxU&&true))))=A;refine Zf (λhz=> ?_) (λhz=> ?_);rw[uF hz];exact Xc rr rfl ⟨_, .s _,rfl⟩;rw[uE (by simp[hz])];have q: ¬(l= []/\(((p.1.toNat:Nat):Int)==((p.2.toNat:Nat):Int))=true)->PreV UY 63 [2,4,38,39,40] (post B_147) (FinS UY Tryz.f147 λv h=> ∃r,Frz h v r/\r= .s (if l= []/\(((p.1.toNat:Nat):Int)==((p.2.toNat:Nat):Int))=true then Zcc p.1 specB else [91]++(p::l).flatMap XM++ [93])) .normal 63 [.s [], .s [91],lst encP (p::l),I ((p::l).length:Nat),I 0] .empty:=by
   intro g;rw[uE g];clear g w d;generalize p::l=L at b;refine⟨rfl,ZM [4,38,39,40] [4,38,39,40] (λm u h=> ∃i:Nat,u= [.s ([91]++(L.take i).flatMap XM),lst encP L,I (L.length:Nat),I (i:Nat)]/\i<=L.length/\m=L.length-i) L.length ZA ⟨0,rfl,om,om⟩ ?_⟩;rintro m u h ⟨i,rfl,B,rfl⟩;refine Zm UK ZLa rfl ?_;have z:=VZ (L.take i);rw[uO]at z;refine Zq (λc=> ?_) (λo=> ?_)
   .have f:(L.take (i+1)).flatMap XM=(L.take i).flatMap XM++XM L[i]:=by rw[qa c,ug];simp
    have t1:=Vs L[i].1 Zf4;have t2:=Vs L[i].2 Zf4;refine⟨Zu c,_,_,getP L c,_,Zjx L[i].1 Zf4,by simp only[qf,qh,qp];omega,Zf (λg=> ?_) (λg=> ?_)⟩;refine⟨_,Zjx L[i].2 Zf4,?_,?_,rfl,L.length-(i+1),om,i+1,?_,om,rfl⟩;show 1+(Zcc L[i].2 Zf4).length<=_;omega;simp only[qf,qh,qp];omega;rw[Ze om,f,XM,uF g];exact congrArg (λt=> [V.s t,lst encP L,I (L.length:Nat),I ((i+1:Nat))]) sm;refine⟨rfl,L.length-(i+1),om,i+1,?_,om,rfl⟩;rw[Ze om,f,XM,uE (by rw[g];simp)];exact congrArg (λt=> [V.s t,lst encP L,I (L.length:Nat),I ((i+1:Nat))]) sm
   .refine Zj [4] ?_;refine Zo UK ZLb rfl ?_;refine⟨by simp only[qf,qh,qp];omega,?_⟩;rw[qt o];exact ZB rr rfl (.s _) rfl
  refine Zf (λj=> ?_) (λj=> ?_)
  .have y:l= []:=by
    cases l with
    |nil=>rfl
    |cons a l=>simp at j;omega
   subst y;have n:(0:Int)<=0/\(0:Int)<(([p].length:Nat):Int):=⟨Int.le_refl _,sm⟩;refine⟨n,_,rfl,n,_,rfl,Zf (λk=> ?_) (λk=> ?_)⟩;rw[uF ⟨rfl,k⟩];exact⟨n,_,rfl,_,Zjx p.1 specB,Xc rr rfl ⟨_, .s _,rfl⟩⟩;exact q (λe=>by rw[k]at e;cases e.2)
  .refine q (λe=> ?_);rw[e.1]at j;simp at j
end Go.Y
namespace Go.Y
open Gl
def cntN:Re->Nat
 | .mk _ _ a _ _ _=>1+cntsN a
where
 cntsN:List Re->Nat
  | []=>0
  |r::l=>cntN r+cntsN l
theorem Ju: ∀l m:List Re,cntN.cntsN (l++m)=cntN.cntsN l+cntN.cntsN m
 | [],m=>by rw[qy,cntN.cntsN];omega
 |r::l,m=>by rw[qs,cntN.cntsN,cntN.cntsN,Ju l m];omega
theorem Zdg(k:Int): ∀l:List Re,cntN (sevS k l)<=cntN.cntsN l+1
 | []=>by rw[sevS,cntN,cntN.cntsN];omega
 | [r]=>by rw[sevS,cntN.cntsN];omega
 |a::b::l=>by
  rw[sevS,cntN];omega
  all_goals simp
theorem Za8{k:Int}{s}{r}{b a n:Int} :cntN (.mk k s [r] b a n)=1+cntN r:=by rw[cntN,cntN.cntsN,cntN.cntsN];omega
theorem JM{k:Int}{s} :cntN (.mk k s [] 0 0 0)=1:=by rw[cntN,cntN.cntsN]
theorem JZ(x):cntN (Qw x)=1:=JM
theorem Qb(r):cntN.cntsN [r]=cntN r:=by rw[cntN.cntsN,cntN.cntsN];omega
theorem Zw4(s:List UInt8): ∀n,
  (∀ {d i g r j a},altE n d s i g= .ok (r,j,a)->i<=s.length->g<=i->cntN r+3*i<=3*j+2)/\
  (∀ {d i g l r j a},WJ n d s i g l= .ok (r,j,a)->i<=s.length->g<=i->cntN r+3*i<=cntN.cntsN l+1+3*j)/\
  (∀ {d i g l r j a},rowE n d s i g l= .ok (r,j,a)->i<=s.length->g<=i->cntN r+3*i<=cntN.cntsN l+1+3*j)/\
  (∀ {d i g r j a},Qh n d s i g= .ok (r,j,a)->i<=s.length->g<=i->cntN r+3*i+2<=3*j)/\
  (∀ {d i g r j a},JW n d s i g= .ok (r,j,a)->i<=s.length->g<=i->cntN r+3*i+2<=3*j)
 |0=>⟨λh=>by simp[altE]at h,λh=>by simp[WJ]at h,λh=>by simp[rowE]at h,λh=>by simp[Qh]at h,λh=>by simp[JW]at h⟩
 |n+1=>by
  obtain⟨G,w,u,H,K⟩:=Zw4 s n;obtain⟨P,W,v,C,D⟩:=XT s n;have E:= @(XT s (n+1)).2.2.2.2;have F:= @(XT s (n+1)).2.2.2.1;refine⟨λ{d i g r j a} h f e=> ?_,λ{d i g l r j a} h f e=> ?_,λ{d i g l r j a} h f e=> ?_,λ{d i g r j a} h f e=> ?_,λ{d i g r j a} h f e=> ?_⟩;rw[altE]at h;split at h;cases h;rename_i r1 t p b;have k:=v b f e;have m:=u b f e;have o:=w h k.2.1 k.2.2;rw[Qb]at o;rw[cntN.cntsN]at m;omega;rw[WJ]at h;split at h;rename_i x;have B:=(qb.1 x).1;split at h;cases h;rename_i r1 t p b;have k:=v b om om;have m:=u b om om;have o:=w h k.2.1 k.2.2;rw[Ju,Qb]at o;rw[cntN.cntsN]at m;omega;cases h;have:=Zdg 5 l;omega;rw[rowE]at h;split at h;cases h;have:=Zdg 4 l;omega;split at h;cases h;have:=Zdg 4 l;omega;split at h;cases h;rename_i r1 t p b;have k:=C b f e;have m:=H b f e;have o:=u h k.2.1 k.2.2;rw[Ju,Qb]at o;omega;have q:=F h f e;rw[Qh]at h;split at h;cases h;rename_i r1 t p b;have k:=D b f e;have m:=K b f e;split at h;cases h;omega;split at h;split at h;cases h;split at h;cases h;rw[Za8];omega;split at h;cases h;rw[Za8];omega;split at h;cases h;rw[Za8];omega;split at h;cases h;rename_i O A N y;have:=Zlv y;cases h;rw[Za8];omega;cases h;omega
  .have q:=E h f e;rw[JW]at h;split at h;cases h
   .rename_i c z;have L:=(qb.1 z).1;split at h;cases h
    .split at h;split at h;cases h;split at h;cases h;rename_i r1 t p b;have m:=G b om om;split at h;cases h;rw[Za8];omega;cases h
     .split at h
      .split at h;cases h
       .cases h;first|(rw[JM];omega)|(rw[JZ];omega)
      .split at h
       .cases h;first|(rw[JM];omega)|(rw[JZ];omega)
       .split at h
        .cases h;first|(rw[JM];omega)|(rw[JZ];omega)
        .split at h
         .cases h;first|(rw[JM];omega)|(rw[JZ];omega)
         .split at h
          .split at h;cases h
           .cases h;first|(rw[JM];omega)|(rw[JZ];omega)
          .cases h;first|(rw[JM];omega)|(rw[JZ];omega)
theorem Zw5{s:List UInt8}{r:Re}(h:Qx s= .ok r):cntN r<=1000:=by unfold Qx at h;split at h;cases h;split at h;cases h;rename_i r1 c b a;split at h;cases h;cases h;have:=(Zw4 s _).1 a (qx _) (qx _);have:=(XT s _).1 a (qx _) (qx _);omega
end Go.Y
namespace Go.Y
open Go.Proofs
set_option maxRecDepth 1000000
set_option maxHeartbeats 0
def preT(k:Int)(s:S4):List UInt8:=if(k==1)=true then setT s else if(k==2)=true then [94]else if(k==3)=true then [36]else if(k==7)=true then [40]else []
def Zaj(k b a:Int):List UInt8:=if(k==6)=true then Zow b a else if(k==7)=true then [41]else []
def textF:Re->List UInt8
 | .mk k s a d c _=>preT k s++textsF k false a++Zaj k d c
where
 textsF (k:Int):Bool->List Re->List UInt8
  |_,[]=> []
  |b,r::l=>(if b=true/\(k==5)=true then [124]else [])++textF r++textsF k true l
theorem Zq6(k:Int)(s):(preT k s).length<=1300:=by
 have:=Zq5 s;unfold preT;repeat' split
 all_goals first|assumption|simp
theorem Zmd(k b a:Int):(Zaj k b a).length<=5:=by
 have:=Zf3 b a;unfold Zaj;repeat' split
 all_goals first|assumption|simp
mutual
theorem Vt: ∀r:Re,(textF r).length+1<=1400*cntN r
 | .mk k s a c b n=>by
  rw[textF,cntN];have d:=Zq6 k s;have e:=Zmd k c b;have f:=Zdh k false a;simp only[qf];omega
theorem Zdh(k:Int): ∀(b:Bool) (l:List Re),(textF.textsF k b l).length<=1400*cntN.cntsN l
 |_,[]=>by rw[textF.textsF];simp
 |b,r::l=>by
  rw[textF.textsF,cntN.cntsN];have a:=Vt r;have c:=Zdh k true l;have d:(if b=true/\(k==5)=true then([124]:List UInt8)else []).length<=1:=by split<;>simp
  simp only[qf];omega
end
structure TX(r:Re):Prop where
 c: ∀(h:Heap) (id:Nat) (bs:List UInt8),Bd h id bs->bs.length+(textF r).length<2 ^ 28->Con UY 114 [p_P id, .agg (Zd r)] h fun v h'=>v= .tup []∧Bd h' id (bs++textF r)
theorem Zme{h}{d:Nat}{a:List UInt8}(b:Bd h d a)(n:Int)(c:UInt8)(g:n=(c.toNat:Nat))(f:a.length<2 ^ 29):Con UY 126 [p_P d, .i .u8 n] h λv e=>v= .nilifc/\Bd e d (a++ [c]):=by
 subst g;exact Zw2 b c f
theorem Zdi(k:Int): ∀(b:Bool) (l m:List Re),l≠ []->textF.textsF k b (l++m)=textF.textsF k b l++textF.textsF k true m
 |_,[],_,h=>absurd rfl h
 |b,[r],m,_=>by rw[qs,qy,textF.textsF,textF.textsF,textF.textsF,qi]
 |b,r::a::l,m,_=>by
  rw[qs,textF.textsF,Zdi k true (a::l) m sm,textF.textsF.eq_2 k b r (a::l)];simp only[uU]
theorem Zf5(k:Int)(l:List Re){i:Nat}(d:i<l.length):textF.textsF k false (l.take (i+1))=textF.textsF k false (l.take i)++((if 0<i/\(k==5)=true then [124]else [])++textF l[i]):=by rw[qa d];by_cases c:i=0;subst c;rw[uQ,qy,textF.textsF,textF.textsF,textF.textsF,uE sm,uE sm];simp;rw[Zdi k false _ _ (λe=>by have b:(l.take i).length=i:=(by rw[uO];omega);rw[e]at b;simp at b;omega),textF.textsF,textF.textsF];by_cases a:(k==5)=true;rw[uF ⟨rfl,a⟩,uF ⟨om,a⟩,qi];rw[uE (λe=>a e.2),uE (λe=>a e.2),qi]
theorem Zdj(k:Int)(l:List Re)(i:Nat):(textF.textsF k false (l.take i)).length<=(textF.textsF k false l).length:=by
 by_cases h:l.take i= [];rw[h,textF.textsF];simp;have:=Zdi k false (l.take i) (l.drop i) h;rw[vN]at this;rw[this];simp
abbrev reL(k:Int)(s:S4)(a:List Re)(c b n:Int):List V:= [I k,U s.1,U s.2.1,U s.2.2.1,U s.2.2.2,lst Zd a,I c,I b,I n]
theorem ZA8{B:Nat}(hB:B<2 ^ 20){k:Int}{s}{a:List Re}{r p n:Int}(hl:a.length<=B)(h6:k=6->0<=r/\r<=8/\(p= -1\/(r<=p/\p<=8)))(ih: ∀x∈a,TX x):TX (.mk k s a r p n):=by
 refine⟨λh o A O y=> ?_⟩;rw[textF]at y ⊢;have a3:=Zq6 k s;have a4:=Zmd k r p;simp only[qf]at y;rw[Zn];refine Zx UK (fn:=Tryz.f114) (Zh UK 63 ZK5 rfl ?_);have N: ∀ {g:Heap},Bd g o (A++preT k s)->PreV UY 63 [0,2,3,28,29,30] (post B_114) (FinS UY Tryz.f114 (AfterZ λv h'=>v= .tup []/\Bd h' o (A++(preT k s++textF.textsF k false a++Zaj k r p)))) .normal 63 [p_P o, .undef, .lb (reL k s a r p n),lst Zd a,I (a.length:Nat),I 0] g:=by
  intro g hg;refine⟨rfl,ZM [0,2,3,28,29,30] [0,2,3,28,29,30] (λm vs g=> ∃i:Nat,vs= [p_P o, .undef, .lb (reL k s a r p n),lst Zd a,I (a.length:Nat),I (i:Nat)]/\i<=a.length/\m=a.length-i/\Bd g o (A++preT k s++textF.textsF k false (a.take i))) a.length ZA ⟨0,rfl,om,om,by rw[uQ,textF.textsF,qi];exact hg⟩ ?_⟩;rintro m vs g ⟨i,rfl,a2,rfl,f⟩;refine Zm UK ZK6 rfl ?_;refine Zq (λw=> ?_) (λa1=> ?_)
  .have P:=(ih a[i] (qe w)).c;have q:=Za7 w;have W:=Zf5 k a w;have b:=Zdj k a (i+1);have a0:=Zdj k a i;rw[W]at b;simp only[qf]at b;have next: ∀ {d:Heap} {X:List UInt8},X=(if 0<i/\(k==5)=true then [124]else [])->Bd d o (A++preT k s++textF.textsF k false (a.take i)++X++textF a[i])->Bd d o (A++preT k s++textF.textsF k false (a.take (i+1))):=λz F=>by
    rw[W,<-z];simpa only[uU]using F
   generalize a[i]=x at P q b next;obtain⟨xk,xs,xl,a6,a5,xn⟩:=x;rw[Zn]at q;simp only[Zn]at P;refine⟨Zu w,_,_,_,_,_,_,_,_,_,_,_,q,?_⟩;refine Zf (λu=>Zf (λZ=> ?_) (λZ=> ?_)) (λu=> ?_)
   .have h0:0<i:=by simpa[ltI]using u
    have z:([124]:List UInt8)=(if 0<i/\(k==5)=true then [124]else []):=by rw[uF ⟨h0,Z⟩]
    refine(Zme f 124 124 rfl (by simp only[qf];omega)).mono λv d ⟨l,j⟩=> .inl ⟨l,?_⟩;refine(P d o _ j (by rw[<-z]at b;simp only[qf,qh,qp]at b ⊢;omega)).mono λv D ⟨H,G⟩=>⟨H,?_⟩;exact⟨rfl,a.length-(i+1),om,i+1,by rw[Ze om];rfl,om,rfl,next z G⟩
   .have z:([]:List UInt8)=(if 0<i/\(k==5)=true then [124]else []):=by rw[uE (by rw[Z];simp)]
    refine(P g o _ f (by simp only[qf];omega)).mono λv D ⟨H,G⟩=>⟨H,?_⟩;exact⟨rfl,a.length-(i+1),om,i+1,by rw[Ze om];rfl,om,rfl,next z (by rw[qi];exact G)⟩
   .have h0: ¬0<i:=by simpa[ltI]using u
    have z:([]:List UInt8)=(if 0<i/\(k==5)=true then [124]else []):=by rw[uE (λe=>h0 e.1)]
    refine(P g o _ f (by simp only[qf];omega)).mono λv D ⟨H,G⟩=>⟨H,?_⟩;exact⟨rfl,a.length-(i+1),om,i+1,by rw[Ze om];rfl,om,rfl,next z (by rw[qi];exact G)⟩
  .have he:i=a.length:=om;subst he;rw[qm]at f;refine Zj [0,3] ?_;refine Zo UK ZK7 rfl ?_;have C: ∀ {d:Heap} {t:List UInt8},Zaj k r p=t->Bd d o (A++preT k s++textF.textsF k false a++t)->Fin UY Tryz.f114 [] (AfterZ λv h'=>v= .tup []/\Bd h' o (A++(preT k s++textF.textsF k false a++Zaj k r p))) .normal 63 [] d:=λht F=>finC (.inl rfl) rfl (.now ⟨rfl,by rw[ht];simpa only[uU]using F⟩);refine Zf (λL=> ?_) (λL=>Zf (λE=> ?_) (λE=> ?_));have Y:=h6 (su L);refine⟨_,ZA6 ⟨Y.1,Y.2.1⟩ Y.2.2,(Zq4 f _ (by have:=Zf3 r p;simp only[qf];omega)).mono λv d ⟨l,j⟩=>⟨_, .inl ⟨l,C (by rw[Zaj,uF L]) j⟩⟩⟩;exact(Zme f 41 41 rfl (by simp only[qf];omega)).mono λv d ⟨l,j⟩=> .inl ⟨l,C (by rw[Zaj,uE (by rw[L];simp),uF E]) j⟩;exact C (t:= []) (by rw[Zaj,uE (by rw[L];simp),uE (by rw[E];simp)]) (by rw[qi];exact f)
 refine Zf (λu=> ?_) (λu=>Zf (λd=> ?_) (λd=>Zf (λD=> ?_) (λD=>Zf (λE=> ?_) (λE=> ?_))));refine⟨_,ZA7 s,(Zq4 O _ (by have:=Zq5 s;omega)).mono λv d ⟨l,j⟩=>⟨_, .inl ⟨l,N (by rw[preT,uF u];exact j)⟩⟩⟩;exact(Zme O 94 94 rfl om).mono λv K ⟨l,j⟩=> .inl ⟨l,N (by rw[preT,uE (by rw[u];simp),uF d];exact j)⟩;exact(Zme O 36 36 rfl om).mono λv K ⟨l,j⟩=> .inl ⟨l,N (by rw[preT,uE (by rw[u];simp),uE (by rw[d];simp),uF D];exact j)⟩;exact(Zme O 40 40 rfl om).mono λv K ⟨l,j⟩=> .inl ⟨l,N (by rw[preT,uE (by rw[u];simp),uE (by rw[d];simp),uE (by rw[D];simp),uF E];exact j)⟩;exact N (by rw[preT,uE (by rw[u];simp),uE (by rw[d];simp),uE (by rw[D];simp),uE (by rw[E];simp),qi];exact O)
mutual
theorem ZLc{B:Nat}(b:B<2 ^ 20): ∀r:Re,wfRe B r->TX r
 | .mk k s a d c n,h=>by
  rw[wfRe]at h;exact ZA8 b h.2.2.1 (λe=>⟨(h.1 e).1,(h.1 e).2.1,(h.1 e).2.2.1⟩) (ZDn b a h.2.2.2)
theorem ZDn{B:Nat}(b:B<2 ^ 20): ∀l:List Re,wfRe.wfRes B l-> ∀x∈l,TX x
 | [],_,x,a=>by cases a
 |r::l,h,x,a=>by
  rw[wfRe.wfRes]at h;have c:=ZLc b r h.1;have d:=ZDn b l h.2;rcases qu.1 a with e|a;exact e▸c;exact d x a
end
theorem ZGd{h}{e:Nat}{f:List UInt8}(b:Bd h e f):RCon UY 115 [p_P e] h (I (f.length:Nat)):=by
 obtain⟨a,s,n,c,k,m,p,j,q,hz⟩:=b.ex;have g:=j.1;simp at g;have l:Zb h e 1 1=some [.sl s n c k]:=by simp[Zb,m,Zs]
 have d:Con UY 115 [p_P e] h λv i=>v= I (f.length:Nat)/\i=h:=by
  refine Zx UK (fn:=Tryz.f115) (Zo UK ZKw rfl ?_);exact⟨_,_,_,_,l,finC rr rfl (.now ⟨by rw[<-g];rfl,rfl⟩)⟩
 exact⟨h,d,λ_ _=>rfl,λ_ o=>o⟩
def Zw6(r:Re):V:=if rightF r 0 0 0=none then .tup [.s [], .i .i64 5]else if 200<(textF r).length then .tup [.s [], .i .i64 2]else .tup [.s (textF r), .i .i64 0]
def mayE(r:Re):Bool:=(rightF r 0 0 0).isSome&&decide ((textF r).length<=200)
set_option linter.unusedVariables false
theorem Zw7{B:Nat}(z:B<2 ^ 20){r}(f:wfRe B r)(a:(textF r).length<2 ^ 28):PCon UY 69 [.agg (Zd r)] (· =Zw6 r):=by
 have t:=(ZDd z r f).c;have u:=(ZLc z r f).c;unfold Zw6;generalize rightF r=x at t;generalize textF r=C at u a;obtain⟨k,s,A,N,L,n⟩:=r;rw[Zn]at t u ⊢;refine Zv UK (fn:=Tryz.f69) rfl ZQu rfl ?_;have F:JH ((Heap.empty).pushT (UY.tag 178) (YObj.arr [I 0] true)) Heap.empty.nx 0:=by rw[JH,qj,uF rfl]
 refine(t 0 0 0 _ _ F).mono λv b ⟨D,G⟩=>⟨_,D,Zf (λd=> ?_) (λd=> ?_)⟩
 .have q:x 0 0 0=none:=by
   cases h:x 0 0 0 with
   |none=>rfl
   |some y=>rw[h]at d;cases d
  rw[uF q];exact Zlo rr rfl (.s _) (.i _ _) rfl
 .have q: ¬x 0 0 0=none:=λe=>by rw[e]at d;cases d
  rw[uE q];have w:UY.tag 182=some 182:=kr;rw[w];have m:Bd (b.pushT (some 182) (YObj.arr [.p none, .sl none 0 (some 0) 0] true)) b.nx []:=by
   refine⟨⟨none,none,0,some 0,0,by rw[qj,uF rfl], .inl rfl,⟨rfl, .inl ⟨rfl,rfl,rfl⟩⟩,(λj o e=>by cases e),λ_=>rfl⟩,?_,sm⟩;show((b.push _).tagIf b.nx (some 182)).tagOf b.nx=some 182;rw[QD];simp
  refine(u _ _ _ m (su a)).mono λv H ⟨E,l⟩=>⟨E,?_⟩;rw[qy]at l;refine⟨_,ZGd l,Zf (λg=> ?_) (λg=> ?_)⟩
  .have g:200<C.length:=by simp[ltI]at g;omega
   rw[uF g];exact Zlo rr rfl (.s _) (.i _ _) rfl
  .have g: ¬200<C.length:=by simp[ltI]at g;omega
   rw[uE g];refine(ZA5 l om).mono λv K e=>⟨_,e,?_⟩;exact Zlo rr rfl (.s _) (.i _ _) rfl
theorem Zox{B:Nat}(f:B<2 ^ 20){r}(d:wfRe B r)(c:(textF r).length<2 ^ 28):PCon UY 29 [.agg (Zd r)] (· = .b (mayE r)):=by
 have a:=Zw7 f d c;unfold Zw6 at a;unfold mayE;generalize rightF r 0 0 0=o at a;generalize textF r=h at a;obtain⟨k,s,e,j,i,n⟩:=r;rw[Zn]at a ⊢;refine Zv UK (fn:=Tryz.f29) rfl ZQt rfl ?_
 cases o with
 |none=>exact⟨_,_,a,ZB rr rfl (.b _) rfl⟩
 |some y=>
  rw[uE sm]at a;by_cases g:200<h.length;rw[uF g]at a;exact⟨_,_,a,ZB rr rfl (.b _) (by simp;omega)⟩;rw[uE g]at a;exact⟨_,_,a,ZB rr rfl (.b _) (by simp;omega)⟩
end Go.Y
namespace Go.Y
set_option maxRecDepth 1000000
set_option maxHeartbeats 0
theorem Jv(p)(k b:Nat): ∀m,(Xe p k m).testBit b=(decide (b<m)&&p (64*k+b))
 |0=>by simp[Xe]
 |m+1=>by
  rw[Qa];have f:=Jv p k b m;have c:=WK p k m;split
  .next d=>
   have e:Xe p k m+2 ^ m=2 ^ m|||Xe p k m:=by
    have:=Nat.two_pow_add_eq_or_of_lt c 1;rw[uY]at this;rw[<-this,Nat.add_comm]
   rw[e,Nat.testBit_or,Nat.testBit_two_pow,f];by_cases h:m=b;subst h;simp[d];have g:decide (m=b)=false:=su h;rw[g,Bool.false_or];by_cases a:b<m;rw[uN a,uN (show b<m+1 from om)];rw[uK a,uK (show¬b<m+1 from om)]
  .next d=>
   rw[f];by_cases h:m=b;subst h;simp[d];by_cases a:b<m;rw[uN a,uN (show b<m+1 from om)];rw[uK a,uK (show¬b<m+1 from om)]
theorem JN(p:Nat->Bool)(c k:Nat):Xe (λx=>p x||x==c) k 64=if c / 64=k then Xe p k 64|||2 ^ (c % 64)else Xe p k 64:=by
 apply Nat.eq_of_testBit_eq;intro b;rw[Jv];split
 .next e=>
  rw[Nat.testBit_or,Jv,Nat.testBit_two_pow];by_cases a:b<64
  .rw[uN a,uT,uT];have:((64*k+b)==c)=decide (c % 64=b):=by
    by_cases h:c % 64=b;rw[uN h];simp;omega;rw[uK h];simp;omega
   rw[this]
  .rw[uK a,Bool.false_and,Bool.false_and,Bool.false_or];rw[uK];omega
 .next e=>
  rw[Jv];by_cases a:b<64
  .have:((64*k+b)==c)=false:=by simp;omega
   simp only[this,Bool.or_false]
  .rw[uK a,Bool.false_and,Bool.false_and]
theorem Zmf(p)(k:Nat): ∀m,Xe (λx=> !p x) k m=2 ^ m-1-Xe p k m
 |0=>by simp[Xe]
 |m+1=>by
  have a:=Zmf p k m;have b:=WK p k m;rw[Qa,Qa,a,Nat.pow_succ];cases p (64*k+m)<;>simp<;>omega
theorem Zf6{m:Nat}(h:m<2 ^ 64):(BitVec.ofInt IntKind.u64.bits (m:Int)).toNat=m:=by show(BitVec.ofInt 64 (m:Int)).toNat=m;rw[BitVec.toNat_ofInt];omega
theorem Zw8{n b:Nat}(h:n<2 ^ 64)(c:b<64):IntKind.u64.wrap (((BitVec.ofInt IntKind.u64.bits (n:Int)|||BitVec.ofInt IntKind.u64.bits (IntKind.u64.wrap (1*2 ^ min b IntKind.u64.bits))).toNat:Nat):Int)=((n|||2 ^ b:Nat):Int):=by have a:2 ^ b<2 ^ 64:=Nat.pow_lt_pow_right dc c;rw[Zom c,BitVec.toNat_or,Zf6 h,Zf6 a];exact Zek (Nat.or_lt_two_pow h a)
theorem Zq7{n:Nat}(h:n<2 ^ 64):IntKind.u64.wrap (((BitVec.ofInt IntKind.u64.bits (if IntKind.u64.signed=true then -1 else IntKind.u64.max) ^^^ BitVec.ofInt IntKind.u64.bits (n:Int)).toNat:Nat):Int)=((2 ^ 64-1-n:Nat):Int):=by
 have a:(BitVec.ofInt 64 (-1) ^^^ BitVec.ofInt 64 (n:Int)).toNat=2 ^ 64-1-n:=by
  have e:BitVec.ofInt 64 (-1)=BitVec.allOnes 64:=dc;have b:(BitVec.ofInt 64 (n:Int)).toNat=n:=Zf6 h;rw[e,BitVec.allOnes_xor,BitVec.toNat_not,b]
 show IntKind.u64.wrap (((BitVec.ofInt 64 (-1) ^^^ BitVec.ofInt 64 (n:Int)).toNat:Nat):Int)=_;rw[a];exact Zek om
abbrev Zw9(s:S4):List V:= [U s.1,U s.2.1,U s.2.2.1,U s.2.2.2]
theorem Zoy(p):Zw9 (ZD p)= [U (Xe p 0 64:Nat),U (Xe p 1 64:Nat),U (Xe p 2 64:Nat),U (Xe p 3 64:Nat)]:=rfl
theorem Zxa(p){c:Nat}(h:c<256):Zs 1 ((Zw9 (ZD p)).drop (0+c / 64*1))=some [U (Xe p (c / 64) 64:Nat)]:=by have:c / 64=0\/c / 64=1\/c / 64=2\/c / 64=3:=om;rcases this with e|e|e|e<;>rw[e]<;>rfl
theorem ZA9(p:Nat->Bool){c:Nat}(h:c<256):splice (Zw9 (ZD p)) (0+c / 64*1) [U ((Xe p (c / 64) 64|||2 ^ (c % 64):Nat):Int)]=Zw9 (ZD λx=>p x||x==c):=by
 rw[Zoy (λx=>p x||x==c),JN,JN,JN,JN]
 have:c / 64=0\/c / 64=1\/c / 64=2\/c / 64=3:=om;rcases this with e|e|e|e<;>rw[e]<;>rfl
theorem Zxb(p):ZD (λx=> !p x)=(((2 ^ 64-1-Xe p 0 64:Nat):Int),((2 ^ 64-1-Xe p 1 64:Nat):Int),((2 ^ 64-1-Xe p 2 64:Nat):Int),((2 ^ 64-1-Xe p 3 64:Nat):Int)):=by simp only[ZD,Zb0,Zmf]
theorem setOf_no:ZD (λ_=>false)=(0,0,0,0):=by simp only[ZD,Zb0];have: ∀k,Xe (λ_=>false) k 64=0:=λk=>VU λ_ _=>rfl;simp only[this];rfl
theorem Zmg{p q:Nat->Bool}(h: ∀c,c<256->p c=q c):ZD p=ZD q:=by
 have: ∀k,k<4->Xe p k 64=Xe q k 64:=λk d=>by
  apply Nat.eq_of_testBit_eq;intro b;rw[Jv,Jv];by_cases a:b<64;rw[h _ om];rw[uK a,Bool.false_and,Bool.false_and]
 simp only[ZD,Zb0,this 0 om,this 1 om,this 2 om,this 3 om]
def Zmh(p:Nat->Bool)(b a:Int)(c:Nat):Bool:=p c||(decide (b<=(c:Int))&&decide ((c:Int)<=a))
theorem Vu(a:List Span)(d b:Int):ZO (a++ [⟨d,b⟩])=Zmh (ZO a) d b:=by funext c;simp[ZO,Zmh]
def Vv(l:List Span):Re:=Qw (ZD (ZO l))
def Vx:Re:=Qw (ZD λ_=>true)
def ZU:Re:= .mk 6 (0,0,0,0) [Vx] 0 (-1) 0
def Ws(c:UInt8):Re:=Qw (ZD λx=>x==c.toNat)
def Xl(s:List UInt8):List Re:=s.map Ws
def XX(g:Glob):List Re:=if g.k=0 then [Vv [⟨g.b,g.b⟩]]else if g.k=1 then [Vx]else if g.k=2 then [ZU]else if g.k=3 then [Vv g.sp]else []
def ZX(l:List Glob):List Re:=l.flatMap XX
def fitV(r:Re):V:=if mayE r=true then .tup [.agg (Zd r), .i .i64 0]else .tup [.agg (Zd XG), .i .i64 2]
theorem Ztg(c:UInt8):Vv [⟨(c.toNat:Nat),(c.toNat:Nat)⟩]=Ws c:=by unfold Vv Ws;refine congrArg (λp=>Qw (ZD p)) (funext λx=> ?_);simp only[ZO,List.any_cons,List.any_nil,Bool.or_false];by_cases h:x=c.toNat;subst h;simp;have a:(x==c.toNat)=false:=su h;rw[a];by_cases b:(c.toNat:Int)<=(x:Int);rw[uK (show¬(x:Int)<=(c.toNat:Int) from om)];simp;rw[uK b];rfl
theorem Zth:Vv [⟨0,255⟩]=Vx:=by unfold Vv Vx;refine congrArg Qw (Zmg λc a=> ?_);simp[ZO];omega
theorem Zf7(l:List Glob){i:Nat}(a:i<l.length):ZX (l.take (i+1))=ZX (l.take i)++XX l[i]:=by unfold ZX;rw[qa a,ug];simp
theorem Zti(g:Glob):(XX g).length<=1:=by
 unfold XX
 repeat' split
 all_goals simp
theorem Zdk(l:List Glob):(ZX l).length<=l.length:=by
 induction l with
 |nil=>simp[ZX]
 |cons g l a=>
  have:=Zti g;have e:ZX (g::l)=XX g++ZX l:=by simp[ZX]
  rw[e,qf,qh];omega
theorem Zoz(s:List UInt8){i:Nat}(a:i<s.length):Xl (s.take (i+1))=Xl (s.take i)++ [Ws s[i]]:=by unfold Xl;rw[qa a,uV];rfl
theorem Wt(s:List UInt8):(Xl s).length=s.length:=by simp[Xl]
/-! ### They are well formed -/
theorem Zq8{B:Nat}(x):wfRe B (Qw x):=Za3 (.inl rfl)
theorem ZDo{B:Nat} :wfRe B Vx:=Zq8 _
theorem Zo0{B:Nat}(a:1<=B):wfRe B ZU:=Zft a (.inr ⟨rfl,dc,dc, .inl rfl⟩) ZDo
theorem Zxc{B:Nat}(a:1<=B)(g:Glob):wfRe.wfRes B (XX g):=by unfold XX;split;rw[wfRe.wfRes,wfRe.wfRes];exact⟨Zq8 _,trivial⟩;split;rw[wfRe.wfRes,wfRe.wfRes];exact⟨ZDo,trivial⟩;split;rw[wfRe.wfRes,wfRe.wfRes];exact⟨Zo0 a,trivial⟩;split;rw[wfRe.wfRes,wfRe.wfRes];exact⟨Zq8 _,trivial⟩;rw[wfRe.wfRes];trivial
theorem Zmi{B:Nat}(a:1<=B): ∀l:List Glob,wfRe.wfRes B (ZX l)
 | []=>by simp only[ZX,List.flatMap_nil];rw[wfRe.wfRes];trivial
 |g::l=>by
  have e:ZX (g::l)=XX g++ZX l:=by simp[ZX]
  rw[e];exact Wn (Zxc a g) (Zmi a l)
theorem Zf8{B:Nat} : ∀s:List UInt8,wfRe.wfRes B (Xl s)
 | []=>by simp only[Xl,List.map_nil];rw[wfRe.wfRes];trivial
 |c::s=>by
  have e:Xl (c::s)=Ws c::Xl s:=by simp[Xl]
  rw[e,wfRe.wfRes];exact⟨Zq8 _,Zf8 s⟩
theorem Zxd:cntN Vx=1:=JZ _
theorem Zq9:cntN ZU=2:=by unfold ZU;rw[Za8,Zxd]
theorem Ztj(g:Glob):cntN.cntsN (XX g)<=2:=by unfold XX;split;rw[Qb];unfold Vv;rw[JZ];decide;split;rw[Qb,Zxd];decide;split;rw[Qb,Zq9];decide;split;rw[Qb];unfold Vv;rw[JZ];decide;rw[cntN.cntsN];decide
theorem Zh2: ∀l:List Glob,cntN.cntsN (ZX l)<=2*l.length
 | []=>by simp only[ZX,List.flatMap_nil];rw[cntN.cntsN];simp
 |g::l=>by
  have e:ZX (g::l)=XX g++ZX l:=by simp[ZX]
  have a:=Ztj g;have b:=Zh2 l;rw[e,Ju,qh];omega
theorem Zdl: ∀s:List UInt8,cntN.cntsN (Xl s)=s.length
 | []=>by simp only[Xl,List.map_nil];rw[cntN.cntsN];simp
 |c::s=>by
  have e:Xl (c::s)=Ws c::Xl s:=by simp[Xl]
  have a:=Zdl s;rw[e,cntN.cntsN,a,qh];unfold Ws;rw[JZ];omega
structure FewL(l:List Re):Prop where
 wf:wfRe.wfRes 1000 l
 cnt:cntN.cntsN l<=5000
 len:l.length<=1000
theorem FewL.re{l}(h:FewL l):wfRe 1000 (sevS 4 l):=Zqn (.inl rfl) h.len h.wf
theorem FewL.txt{l}(h:FewL l):(textF (sevS 4 l)).length<2 ^ 28:=by have a:=Vt (sevS 4 l);have b:=Zdg 4 l;have c:=h.cnt;omega
theorem Zf9{s:List UInt8}(h:s.length<=300):FewL (Xl s):=⟨Zf8 s,by rw[Zdl];omega,by rw[Wt];omega⟩
end Go.Y
namespace Go.Y
open Go.Proofs
set_option maxRecDepth 1000000
set_option maxHeartbeats 0
theorem ZLd{e h}(K):CP UY 107 (flat (Za Tryz.f107)) (p_P e::Rp 19) h [2] K=(∃a,Zb h e 3 1=some [I a]/\If (a==(0:Int)) (∃c,Zb h e 1 1=some [I c]/\ ∃d,Zb h e 0 1=some [.s d]/\K .ret 20 [.b (ltI c (↑d.length:Int))] h) (K .ret 20 [.b false] h)):=kr
theorem ZLe{c x1 h}(K):CP UY 108 (flat (Za Tryz.f108)) (p_P c::I x1::Rp 11) h [] K=(∃a,Zb h c 3 1=some [I a]/\If (a==(0:Int)) (∃b,Zi h c 3 [I x1]=some b/\K .normal 13 [] b) (K .normal 13 [] h)):=kr
theorem ZLf{k a h}(K):CP UY 136 (flat (Za Tryz.f136)) (p_P k::.s a::Rp 34) h [4] K=(∃c,Zb h k 3 1=some [I c]/\If (c==(0:Int)) (∃d,Zb h k 1 1=some [I d]/\ ∃e,Zb h k 0 1=some [.s e]/\If (ltI d (↑e.length:Int)) (∃f,Zb h k 0 1=some [.s f]/\ ∃g,Zb h k 1 1=some [I g]/\ ∃j,((0:Int)<=g/\f[g.toNat]? =some j)/\ ∃l,(PCon UY 171 [.s a,.i .u8 (↑j.toNat:Int)] fun(v:V)=>v=I l)/\K .ret 36 [.b (leI 0 l)] h) (K .ret 36 [.b false] h)) (K .ret 36 [.b false] h)):=kr
theorem ZLg{g h}(K):CP UY 137 (flat (Za Tryz.f137)) (p_P g::Rp 24) h [2] K=(∃a,RCon UY (107:Nat) [p_P g] h (.b a)/\If (!a) (Con UY 108 [p_P g,I 1] h fun(v:V) (j:Heap)=>v=.tup []/\K .ret 25 [.i .u8 0] j) (∃b,Zb h g 1 1=some [I b]/\ ∃c,Zi h g 1 [I (wW (b+(1:Int)))]=some c/\ ∃d,Zb c g 0 1=some [.s d]/\ ∃e,Zb c g 1 1=some [I e]/\ ∃f,((0:Int)<=wW (e-(1:Int))/\d[(wW (e-(1:Int))).toNat]? =some f)/\K .ret 25 [.i .u8 (↑f.toNat:Int)] c)):=kr
theorem ZLh{d a h}(K):CP UY 196 (flat (Za Tryz.f196)) (p_P d::.s a::Rp 11) h [4] K=(∃b,RCon UY (136:Nat) [p_P d,.s a] h (.b b)/\If (!b) (Con UY 108 [p_P d,I 1] h fun(v:V) (e:Heap)=>v=.tup []/\K .ret 13 [.i .u8 0] e) (Con UY 137 [p_P d] h fun(v:V) (e:Heap)=> ∃c,v=.i .u8 c/\K .ret 13 [.i .u8 c] e)):=kr
theorem ZLi{f h}(K):CP UY 199 (flat (Za Tryz.f199)) (p_P f::Rp 21) h [2] K=(∃a,RCon UY (136:Nat) [p_P f,.s [93,45]] h (.b a)/\If a (Con UY 108 [p_P f,I 1] h fun(v:V) (e:Heap)=>v=.tup []/\K .ret 22 [.i .u8 0] e) (Con UY 137 [p_P f] h fun(v:V) (e:Heap)=> ∃b,v=.i .u8 b/\If (b==(92:Int)) (∃c,Zb e f 3 1=some [I c]/\If (c==(0:Int)) (Con UY 137 [p_P f] e fun(v:V) (e:Heap)=> ∃d,v=.i .u8 d/\K .ret 22 [.i .u8 d] e) (K .ret 22 [.i .u8 b] e)) (K .ret 22 [.i .u8 b] e))):=kr
def pk(s:List UInt8)(i:Nat)(a:List UInt8):Bool:=match s[i]? with|some c=>a.contains c|none=>false
theorem Vy{s:List UInt8}{i:Nat}{c:UInt8}(h:s[i]? =some c)(a:List UInt8):pk s i a=a.contains c:=by unfold pk;rw[h]
theorem ZGe{s:List UInt8}{i:Nat}(h:s[i]? =none)(a:List UInt8):pk s i a=false:=by unfold pk;rw[h]
theorem Qu(s:List UInt8)(i:Nat)(c:UInt8):pk s i [c]=(s[i]? ==some c):=by
 unfold pk
 cases s[i]? with
 |none=>rfl
 |some d=>
  show([c].contains d)=(some d==some c);rw[List.contains_cons,List.contains_nil,Bool.or_false];rfl
theorem Zxe{s:List UInt8}{i:Nat}{a:List UInt8}(h:pk s i a=true): ∃c,s[i]? =some c/\a.contains c=true/\i<s.length:=by
 unfold pk at h
 cases b:s[i]? with
 |none=>rw[b]at h;cases h
 |some c=>rw[b]at h;exact⟨c,rfl,h,(qb.1 b).1⟩
theorem Zxf(c:UInt8): ∀(m:List UInt8) (n:Nat),leI 0 (Jj m c n)=m.contains c
 | [],n=>rfl
 |x::m,n=>by
  unfold Jj;by_cases a:x=c;simp[a,leI]
  .have b:(c==x)=false:=by simpa using λh=>a h.symm
   have d: ¬(x==c)=true:=su a;simp only[List.contains_cons,b,Bool.false_or];rw[uE d];exact Zxf c m (n+1)
theorem ZGf{h}{c:Nat}{s}{i g:Nat}{e:Int}(r:RdE h c s i g e):
  RCon UY 107 [p_P c] h (.b (e==0&&decide (i<s.length))):=by
 refine⟨h,?_,λ_ _=>rfl,λ_ h=>h⟩;refine Zx UK (fn:=Tryz.f107) (Zo UK ZLd rfl ?_);refine⟨_,r.c3,Zf (λa=> ?_) (λa=> ?_)⟩
 .refine⟨_,r.c1,_,r.c0,finC rr rfl (.now ⟨?_,rfl⟩)⟩;rw[a,uT];have:ltI (i:Nat) (s.length:Nat)=decide (i<s.length):=by simp[ltI]
  rw[this];rfl
 .refine finC rr rfl (.now ⟨?_,rfl⟩);rw[a];rfl
theorem Zo1{h}{b:Nat}{s}{i g:Nat}{e:Int}(r:RdE h b s i g e)(x:Int):
  Con UY 108 [p_P b,I x] h λv c=>v= .tup []/\RdE c b s i g (if e=0 then x else e)/\FrO h b c:=by
 refine Zx UK (fn:=Tryz.f108) (Zo UK ZLe rfl ?_);refine⟨_,r.c3,Zf (λa=> ?_) (λa=> ?_)⟩;have a:e=0:=su a;obtain⟨k,d,f,j⟩:=r.s3 x;exact⟨k,d,finC (.inl rfl) rfl (.now ⟨rfl,by rw[uF a];exact f,j⟩)⟩;have a:e≠0:=su a;exact finC (.inl rfl) rfl (.now ⟨rfl,by rw[uE a];exact r, .refl _ _⟩)
theorem Za9{h}{f:Nat}{s}{i g:Nat}{e:Int}(r:RdE h f s i g e)(a:List UInt8):
  RCon UY 136 [p_P f, .s a] h (.b (e==0&&pk s i a)):=by
 refine⟨h,?_,λ_ _=>rfl,λ_ h=>h⟩;refine Zx UK (fn:=Tryz.f136) (Zo UK ZLf rfl ?_);refine⟨_,r.c3,Zf (λd=> ?_) (λd=> ?_)⟩;refine⟨_,r.c1,_,r.c0,Zq (λc=> ?_) (λj=> ?_)⟩;refine⟨_,r.c0,_,r.c1,s[i],Za4 c,_,Zwz a s[i],finC rr rfl (.now ⟨?_,rfl⟩)⟩;rw[Zxf,d,Vy (by simp[c]:s[i]? =some s[i])];rfl;refine finC rr rfl (.now ⟨?_,rfl⟩);rw[ZGe (qq om)];simp[V.plain];refine finC rr rfl (.now ⟨?_,rfl⟩);rw[d];rfl
def nxQ(h:Heap)(b:Nat)(s:List UInt8)(i g:Nat)(e:Int)(v:V)(a:Heap):Prop:=
 (∃c,e=0/\s[i]? =some c/\v= .i .u8 (c.toNat:Nat)/\RdE a b s (i+1) g 0/\FrO h b a)\/
 (e=0/\s[i]? =none/\v= .i .u8 0/\RdE a b s i g 1/\FrO h b a)\/(e≠0/\v= .i .u8 0/\RdE a b s i g e/\FrO h b a)
theorem Zg5{h}{j:Nat}{s:List UInt8}{i g:Nat}{e:Int}(r:RdE h j s i g e)(t:s.length<2 ^ 28):
  Con UY 137 [p_P j] h (nxQ h j s i g e):=by
 refine Zx UK (fn:=Tryz.f137) (Zo UK ZLg rfl ?_);refine⟨_,ZGf r,Zf (λa=> ?_) (λa=> ?_)⟩
 .refine(Zo1 r 1).mono λv q ⟨p,k,l⟩=>⟨p,finC rr rfl (.now ?_)⟩;by_cases f:e=0
  .subst f;have:s[i]? =none:=by
    simp only[beq_self_eq_true,uT,Bool.not_eq_true',decide_eq_false_iff_not]at a;exact qq om
   exact .inr (.inl ⟨rfl,this,rfl,su k,l⟩)
  .rw[uE f]at k;exact .inr (.inr ⟨f,rfl,k,l⟩)
 .have a:(e==0&&decide (i<s.length))=true:=su a;have d:e=0/\i<s.length:=su a;obtain⟨rfl,b⟩:=d;obtain⟨o,m,c,n⟩:=r.s1 (i+1);refine⟨_,r.c1,o,by rw[Ze om];exact m,_,c.c0,_,c.c1,s[i],?_,finC rr rfl (.now (.inl ⟨s[i],rfl,by simp[b],rfl,c,n⟩))⟩;rw[ZI om om,show((i+1:Nat):Int)-1=(i:Int) from om];exact Za4 b
def ndQ(h:Heap)(b:Nat)(s:List UInt8)(i g:Nat)(e:Int)(d:List UInt8)(v:V)(a:Heap):Prop:=
 (∃c,e=0/\s[i]? =some c/\d.contains c=true/\v= .i .u8 (c.toNat:Nat)/\RdE a b s (i+1) g 0/\FrO h b a)\/
 (e=0/\pk s i d=false/\v= .i .u8 0/\RdE a b s i g 1/\FrO h b a)\/(e≠0/\v= .i .u8 0/\RdE a b s i g e/\FrO h b a)
theorem Zjy{h}{o:Nat}{s:List UInt8}{i g:Nat}{e:Int}(r:RdE h o s i g e)(a:List UInt8)(z:s.length<2 ^ 28):
  Con UY 196 [p_P o, .s a] h (ndQ h o s i g e a):=by
 refine Zx UK (fn:=Tryz.f196) (Zo UK ZLh rfl ?_);refine⟨_,Za9 r a,Zf (λk=> ?_) (λk=> ?_)⟩;refine(Zo1 r 1).mono λv t ⟨n,f,j⟩=>⟨n,finC rr rfl (.now ?_)⟩;by_cases b:e=0;subst b;exact .inr (.inl ⟨rfl,su k,rfl,su f,j⟩);rw[uE b]at f;exact .inr (.inr ⟨b,rfl,f,j⟩);have l:e=0/\pk s i a=true:=su k;obtain⟨rfl,x⟩:=l;obtain⟨c,m,w,u⟩:=Zxe x;refine(Zg5 r z).mono λv t y=> ?_;rcases y with ⟨d,_,p,n,f,j⟩|⟨_,q,_⟩|⟨b,_⟩;rw[m]at p;cases p;exact⟨_,n,finC rr rfl (.now (.inl ⟨c,rfl,m,w,rfl,f,j⟩))⟩;rw[m]at q;cases q;exact absurd rfl b
def enQ(h:Heap)(b:Nat)(s:List UInt8)(i g:Nat)(e:Int)(v:V)(a:Heap):Prop:=
 (∃c j,e=0/\endS s i= .ok (c,j)/\v= .i .u8 c/\RdE a b s j g 0/\FrO h b a)\/
 (∃j,e=0/\endS s i= .error j/\v= .i .u8 0/\RdE a b s j g 1/\FrO h b a)\/(e≠0/\v= .i .u8 0/\RdE a b s i g e/\FrO h b a)
theorem endR{h}{t:Nat}{s:List UInt8}{i g:Nat}{e:Int}(r:RdE h t s i g e)(x:s.length<2 ^ 28):
  Con UY 199 [p_P t] h (enQ h t s i g e):=by
 refine Zx UK (fn:=Tryz.f199) (Zo UK ZLi rfl ?_);refine⟨_,Za9 r [93,45],Zf (λo=> ?_) (λo=> ?_)⟩;have b:e=0/\pk s i [93,45]=true:=su o;obtain⟨rfl,B⟩:=b;obtain⟨c,n,A,z⟩:=Zxe B;refine(Zo1 r 1).mono λv C ⟨f,j,k⟩=>⟨f,finC rr rfl (.now (.inr (.inl ⟨i,rfl,?_,rfl,su j,k⟩)))⟩;have:c=93\/c=45:=su A;unfold endS;rw[n];simp only[];rw[uF this]
 .refine(Zg5 r x).mono λv D q=> ?_;rcases q with ⟨c,l,n,f,j,k⟩|⟨l,p,f,j,k⟩|⟨l,f,j,k⟩
  .subst l;have b:pk s i [93,45]=false:=su o;rw[Vy n]at b;have m: ¬(c=93\/c=45):=by
    intro h;have:([93,45]:List UInt8).contains c=true:=su h;rw[this]at b;cases b
   refine⟨_,f,?_⟩;rw[show(92:Int)=(((92:UInt8).toNat:Nat):Int) from dc,Zvn];refine Zf (λa=> ?_) (λa=> ?_);have a:c=92:=su a;refine⟨_,j.c3,Zf (λ_=> ?_) (λh=>by simp at h)⟩;refine(Zg5 j x).mono λv E q=> ?_;rcases q with ⟨d,_,y,f,u,w⟩|⟨_,p,f,u,w⟩|⟨l,_⟩;refine⟨_,f,finC rr rfl (.now (.inl ⟨_,i+2,rfl,?_,rfl,u,k.trans w⟩))⟩;unfold endS;rw[n];simp only[];rw[uE m,uF a,y];refine⟨_,f,finC rr rfl (.now (.inr (.inl ⟨i+1,rfl,?_,rfl,u,k.trans w⟩)))⟩;unfold endS;rw[n];simp only[];rw[uE m,uF a,p];exact absurd rfl l;have a:c≠92:=su a;refine finC rr rfl (.now (.inl ⟨_,i+1,rfl,?_,rfl,j,k⟩));unfold endS;rw[n];simp only[];rw[uE m,uE a]
  .subst l;refine⟨_,f,Zf (λh=>by simp at h) (λ_=>finC rr rfl (.now (.inr (.inl ⟨i,rfl,?_,rfl,j,k⟩))))⟩;unfold endS;rw[p]
  .exact⟨_,f,Zf (λh=>by simp at h) (λ_=>finC rr rfl (.now (.inr (.inr ⟨l,rfl,j,k⟩))))⟩
end Go.Y
