/- A part of the proof. -/
import Derived.Test.YteennilbmmlikaaGreatDoorGSpanE
import Derived.Test.YteennilbmmlikaaGreatDoorGLX
import Derived.Test.YteennilbmmlikaaGreatDoorYTryzP
import Derived.Test.YteennilbmmlikaaGreatDoorYLoop
import Derived.Test.YteennilbmmlikaaGreatDoorED4
import Derived.Test.YteennilbmmlikaaGreatDoorGN5
namespace Go.Y
open Go.Proofs
set_option maxRecDepth 1000000
set_option maxHeartbeats 0
/-! ### sign -/
def Zk3(x y:Int):List UInt8:=
 if x==0&&y== -1 then [42]else if x==1&&y== -1 then [43]else if x==0&&y==1 then [63]else if x==y then [123]++Xt x.toNat++ [125]
 else if y== -1 then [123]++Xt x.toNat++ [44,125]else [123]++Xt x.toNat++ [44]++Xt y.toNat++ [125]
theorem Zdw(x y:Int):(Zk3 x y).length<=5:=by
 unfold Zk3;repeat' split
 all_goals simp[Xt]
theorem Zu1{x y:Int}(hx:0<=x∧x<=8)(hy:y= -1∨(x<=y∧y<=8)):PCon UY 148 [I x,I y] (· = .s (Zk3 x y)):=by
 have cx:PCon UY 178 [I x] (· = .s (Xt x.toNat)):=by
  have:=Zmz x.toNat (by omega)
  rwa [Int.toNat_of_nonneg hx.1]at this
 have cy:(y== -1)=false->PCon UY 178 [I y] (· = .s (Xt y.toNat)):=fun e=>by
  have e:y≠ -1:=by simpa using e
  have:=Zmz y.toNat (by omega)
  rwa [Int.toNat_of_nonneg (by omega)]at this
 refine Zt UK (fn:=Tryz.f148) rfl ZD5 rfl ?_
 unfold Zk3
 generalize (x==0)=b0
 generalize (y== -1)=b1 at cy ⊢
 generalize (x==1)=b2
 generalize (y==1)=b3
 generalize (x==y)=b4
 cases b0<;>cases b1<;>cases b2<;>cases b3<;>cases b4<;>first
  |exact Zv (n:=49) (.inr rfl) rfl (.s _) rfl
  |exact⟨_,cx,(by simp[Xt]),(by simp[Xt]),Zv (n:=49) (.inr rfl) rfl (.s _) rfl⟩
  |exact⟨_,cx,(by simp[Xt]),(by simp[Xt]),_,cy rfl,(by simp[Xt]),(by simp[Xt]),Zv (n:=49) (.inr rfl) rfl (.s _) rfl⟩

/-! ### set -/
abbrev Zdx:List UInt8:= [93,45,92,94]
abbrev specB:List UInt8:= [92,124,40,41,42,43,63,123,46,91,94,36]
def XB(p:UInt8×UInt8):List UInt8:=if(((p.2.toNat:Nat):Int) !=((p.1.toNat:Nat):Int))=true then Zav p.1 Zdx++([45]++Zav p.2 Zdx)else Zav p.1 Zdx
def setT(x:Set4):List UInt8:=
 match JK (hasN x) with
 | []=> [91,94,0,45,255,93]
 |p::l=>if(x.1==maxU&&(x.2.1==maxU&&(x.2.2.1==maxU&&(x.2.2.2==maxU&&true))))=true then [46]
  else if l= []∧(((p.1.toNat:Nat):Int)==((p.2.toNat:Nat):Int))=true then Zav p.1 specB else [91]++(p::l).flatMap XB++ [93]
theorem Zoq(p:UInt8×UInt8):(XB p).length<=5:=by
 have h1:=WC p.1 Zdx
 have h2:=WC p.2 Zdx
 unfold XB;split
 ·simp;omega
 ·omega
theorem WY: ∀l:List (UInt8×UInt8),(l.flatMap XB).length<=5*l.length
 | []=>by simp
 |p::l=>by
  have:=WY l
  have h1:=Zoq p
  simp only[List.flatMap_cons,qf,qh];omega
theorem Zrz(p:Nat->Bool): ∀(f c:Nat) (out:List (UInt8×UInt8)),(goF p f c out).length<=out.length+f
 |0,_,_=>qnq _
 |f+1,c,out=>by
  rw[goF]
  split
  ·refine Nat.le_trans (Zrz p f _ _) ?_
   split
   ·simp;omega
   ·omega
  ·omega
theorem Zfh(p:Nat->Bool):(JK p).length<=257:=by have:=Zrz p 257 0 [];simpa[JK]using this
theorem Zm1(x:Set4):(setT x).length<=1300:=by
 have h:=Zfh (hasN x)
 unfold setT
 generalize JK (hasN x)=l at h
 cases l with
 |nil=>simp
 |cons p l=>
  simp only
  split
  ·simp
  ·split
   ·have:=WC p.1 specB;omega
   ·have:=WY (p::l)
    simp only[qf,qh,qp]at this h ⊢;omega
theorem getP(l:List (UInt8×UInt8)){i:Nat}(h:i<l.length):Zo 2 (List.drop ((i:Int).toNat*2) (row encP l))=some [.i .u8 (l[i].1.toNat:Nat), .i .u8 (l[i].2.toNat:Nat)]:=by
 rw[qdq];exact Xi (f:=encP) (k:=2) Zaw h

theorem Zu2(x:Set4):PCon UY 147 [.agg (setC x)] (· = .s (setT x)):=by
 have hlen:=Zfh (hasN x)
 have hsp:=Zop x
 refine ZE UK (fn:=Tryz.f147) rfl ?_
 refine Zl UK 63 ZD6 rfl ?_
 unfold setT
 generalize hL:JK (hasN x)=L at hsp hlen
 refine⟨_,_,_,hsp,?_⟩
 cases L with
 |nil=>exact Zg (fun _=>Xv (.inr rfl) rfl ⟨_, .s _,rfl⟩) (fun g=>by simp at g)
 |cons p l=>
  refine Zg (fun g=>by simp at g;omega) (fun _=> ?_)
  refine⟨_,_,_,_,Zy9,?_⟩
  simp only
  generalize (x.1==maxU&&(x.2.1==maxU&&(x.2.2.1==maxU&&(x.2.2.2==maxU&&true))))=bz
  refine Zg (fun hz=> ?_) (fun hz=> ?_)
  ·rw[if_pos hz]
   exact Xv (.inr rfl) rfl ⟨_, .s _,rfl⟩
  rw[if_neg (by simp[hz])]
  have go: ¬(l= []∧(((p.1.toNat:Nat):Int)==((p.2.toNat:Nat):Int))=true)->PreV UY 63 [2,4,38,39,40] (post (flat (Za Tryz.f147))) (FinS UY Tryz.f147 fun v h=> ∃r,Frz h v r∧r= .s (if l= []∧(((p.1.toNat:Nat):Int)==((p.2.toNat:Nat):Int))=true then Zav p.1 specB else [91]++(p::l).flatMap XB++ [93])) .normal 63 [.s [], .s [91],lst encP (p::l),I ((p::l).length:Nat),I 0] .empty:=by
   intro g
   rw[if_neg g]
   clear g hL hsp
   generalize p::l=L at hlen
   refine⟨rfl,ZL [4,38,39,40] [4,38,39,40] (fun m vs h=> ∃i:Nat,vs= [.s ([91]++(L.take i).flatMap XB),lst encP L,I (L.length:Nat),I (i:Nat)]∧i<=L.length∧m=L.length-i) L.length Zy ⟨0,rfl,by omega,by omega⟩ ?_⟩
   rintro m vs h ⟨i,rfl,hi,rfl⟩
   refine Zs UK ZD7 rfl ?_
   have hp:=WY (L.take i)
   rw[List.length_take]at hp
   refine Zm (fun hlt=> ?_) (fun hge=> ?_)
   ·have hsn:(L.take (i+1)).flatMap XB=(L.take i).flatMap XB++XB L[i]:=by rw[qa hlt,List.flatMap_append];simp
    have t1:=WC L[i].1 Zdx
    have t2:=WC L[i].2 Zdx
    refine⟨Zz hlt,_,_,getP L hlt,_,Zg5 L[i].1 Zdx,by simp only[qf,qh,qp];omega,Zg (fun g=> ?_) (fun g=> ?_)⟩
    ·refine⟨_,Zg5 L[i].2 Zdx,?_,?_,rfl,L.length-(i+1),by omega,i+1,?_,by omega,rfl⟩
     ·show 1+(Zav L[i].2 Zdx).length<=_;omega
     ·simp only[qf,qh,qp];omega
     ·rw[Zh (by omega),hsn,XB,if_pos g]
      exact congrArg (fun t=> [V.s t,lst encP L,I (L.length:Nat),I ((i+1:Nat))]) (by simp)
    ·refine⟨rfl,L.length-(i+1),by omega,i+1,?_,by omega,rfl⟩
     rw[Zh (by omega),hsn,XB,if_neg (by rw[g];simp)]
     exact congrArg (fun t=> [V.s t,lst encP L,I (L.length:Nat),I ((i+1:Nat))]) (by simp)
   ·refine Zi [4] ?_
    refine Zn UK ZD8 rfl ?_
    refine⟨by simp only[qf,qh,qp];omega,?_⟩
    rw[qt hge]
    exact Zv (.inr rfl) rfl (.s _) rfl
  refine Zg (fun g1=> ?_) (fun g1=> ?_)
  ·have hl:l= []:=by
    cases l with
    |nil=>rfl
    |cons a l=>simp at g1;omega
   subst hl
   have hb:(0:Int)<=0∧(0:Int)<(([p].length:Nat):Int):=⟨Int.le_refl _,by simp⟩
   refine⟨hb,_,rfl,hb,_,rfl,Zg (fun g2=> ?_) (fun g2=> ?_)⟩
   ·rw[if_pos ⟨rfl,g2⟩]
    exact⟨hb,_,rfl,_,Zg5 p.1 specB,Xv (.inr rfl) rfl ⟨_, .s _,rfl⟩⟩
   ·exact go (fun e=>by rw[g2]at e;cases e.2)
  ·refine go (fun e=> ?_)
   rw[e.1]at g1
   simp at g1
end Go.Y
namespace Go.Y
open Gl

def cntN:Re->Nat
 | .mk _ _ kids _ _ _=>1+cntsN kids
where
 cntsN:List Re->Nat
  | []=>0
  |r::l=>cntN r+cntsN l
theorem Jc: ∀l m:List Re,cntN.cntsN (l++m)=cntN.cntsN l+cntN.cntsN m
 | [],m=>by rw[qy,cntN.cntsN];omega
 |r::l,m=>by rw[qs,cntN.cntsN,cntN.cntsN,Jc l m];omega
theorem Zbq(k:Int): ∀l:List Re,cntN (sevS k l)<=cntN.cntsN l+1
 | []=>by rw[sevS,cntN,cntN.cntsN];omega
 | [r]=>by rw[sevS,cntN.cntsN];omega
 |a::b::l=>by
  rw[sevS,cntN]
  ·omega
  all_goals simp
theorem VH{k:Int}{s:S4}{r:Re}{lo hi n:Int} :cntN (.mk k s [r] lo hi n)=1+cntN r:=by rw[cntN,cntN.cntsN,cntN.cntsN];omega
theorem Jl{k:Int}{s:S4} :cntN (.mk k s [] 0 0 0)=1:=by rw[cntN,cntN.cntsN]
theorem Jr(x:S4):cntN (XY x)=1:=Jl
theorem XL(r:Re):cntN.cntsN [r]=cntN r:=by rw[cntN.cntsN,cntN.cntsN];omega

theorem Zr0(s:List UInt8): ∀n,
  (∀ {d i g r j g'},altE n d s i g= .ok (r,j,g')->i<=s.length->g<=i->cntN r+3*i<=3*j+2)∧
  (∀ {d i g l r j g'},JY n d s i g l= .ok (r,j,g')->i<=s.length->g<=i->cntN r+3*i<=cntN.cntsN l+1+3*j)∧
  (∀ {d i g l r j g'},rowE n d s i g l= .ok (r,j,g')->i<=s.length->g<=i->cntN r+3*i<=cntN.cntsN l+1+3*j)∧
  (∀ {d i g r j g'},XR n d s i g= .ok (r,j,g')->i<=s.length->g<=i->cntN r+3*i+2<=3*j)∧
  (∀ {d i g r j g'},Jo n d s i g= .ok (r,j,g')->i<=s.length->g<=i->cntN r+3*i+2<=3*j)
 |0=>⟨fun h=>by simp[altE]at h,fun h=>by simp[JY]at h,fun h=>by simp[rowE]at h,fun h=>by simp[XR]at h,fun h=>by simp[Jo]at h⟩
 |n+1=>by
  obtain⟨w1,w2,w3,w4,w5⟩:=Zr0 s n
  obtain⟨p1,p2,p3,p4,p5⟩:=XD s n
  have p6:= @(XD s (n+1)).2.2.2.2
  have p7:= @(XD s (n+1)).2.2.2.1
  refine⟨fun {d i g r j g'} h hi hg=> ?_,fun {d i g l r j g'} h hi hg=> ?_,fun {d i g l r j g'} h hi hg=> ?_,fun {d i g r j g'} h hi hg=> ?_,fun {d i g r j g'} h hi hg=> ?_⟩
  ·rw[altE]at h
   split at h
   ·cases h
   ·rename_i r1 i1 g1 h1
    have a1:=p3 h1 hi hg
    have b1:=w3 h1 hi hg
    have b2:=w2 h a1.2.1 a1.2.2
    rw[XL]at b2
    rw[cntN.cntsN]at b1
    omega
  ·rw[JY]at h
   split at h
   ·rename_i h0
    have hlt:=(qb.1 h0).1
    split at h
    ·cases h
    ·rename_i r1 i1 g1 h1
     have a1:=p3 h1 (by omega) (by omega)
     have b1:=w3 h1 (by omega) (by omega)
     have b2:=w2 h a1.2.1 a1.2.2
     rw[Jc,XL]at b2
     rw[cntN.cntsN]at b1
     omega
   ·cases h;have:=Zbq 5 l;omega
  ·rw[rowE]at h
   split at h
   ·cases h;have:=Zbq 4 l;omega
   ·split at h
    ·cases h;have:=Zbq 4 l;omega
    ·split at h
     ·cases h
     ·rename_i r1 i1 g1 h1
      have a1:=p4 h1 hi hg
      have b1:=w4 h1 hi hg
      have b2:=w3 h a1.2.1 a1.2.2
      rw[Jc,XL]at b2
      omega
  ·have q:=p7 h hi hg
   rw[XR]at h
   split at h
   ·cases h
   ·rename_i r1 i1 g1 h1
    have a1:=p5 h1 hi hg
    have b1:=w5 h1 hi hg
    split at h
    ·cases h;omega
    ·split at h
     ·split at h
      ·cases h
      ·split at h
       ·cases h;rw[VH];omega
       ·split at h
        ·cases h;rw[VH];omega
        ·split at h
         ·cases h;rw[VH];omega
         ·split at h
          ·cases h
          ·rename_i lo hi2 j2 h2
           have:=Ziu h2
           cases h;rw[VH];omega
     ·cases h;omega
  ·have q:=p6 h hi hg
   rw[Jo]at h
   split at h
   ·cases h
   ·rename_i c hc
    have hl:=(qb.1 hc).1
    split at h
    ·cases h
    ·split at h
     ·split at h
      ·cases h
      ·split at h
       ·cases h
       ·rename_i r1 i1 g1 h1
        have b1:=w1 h1 (by omega) (by omega)
        split at h
        ·cases h;rw[VH];omega
        ·cases h
     ·split at h
      ·split at h
       ·cases h
       ·cases h;first|(rw[Jl];omega)|(rw[Jr];omega)
      ·split at h
       ·cases h;first|(rw[Jl];omega)|(rw[Jr];omega)
       ·split at h
        ·cases h;first|(rw[Jl];omega)|(rw[Jr];omega)
        ·split at h
         ·cases h;first|(rw[Jl];omega)|(rw[Jr];omega)
         ·split at h
          ·split at h
           ·cases h
           ·cases h;first|(rw[Jl];omega)|(rw[Jr];omega)
          ·cases h;first|(rw[Jl];omega)|(rw[Jr];omega)
theorem Zr1{s:List UInt8}{r:Re}(h:Qg s= .ok r):cntN r<=1000:=by
 unfold Qg at h
 split at h
 ·cases h
 ·split at h
  ·cases h
  ·rename_i r1 i1 g1 h1
   split at h
   ·cases h
   ·cases h
    have:=(Zr0 s _).1 h1 (qx _) (qx _)
    have:=(XD s _).1 h1 (qx _) (qx _)
    omega
end Go.Y
namespace Go.Y
open Go.Proofs
set_option maxRecDepth 1000000
set_option maxHeartbeats 0
def preT(k:Int)(s:S4):List UInt8:=if(k==1)=true then setT s else if(k==2)=true then [94]else if(k==3)=true then [36]else if(k==7)=true then [40]else []
def Ve(k lo hi:Int):List UInt8:=if(k==6)=true then Zk3 lo hi else if(k==7)=true then [41]else []
def textF:Re->List UInt8
 | .mk k s kids lo hi _=>preT k s++textsF k false kids++Ve k lo hi
where
 textsF (k:Int):Bool->List Re->List UInt8
  |_,[]=> []
  |b,r::l=>(if b=true∧(k==5)=true then [124]else [])++textF r++textsF k true l
theorem Zm2(k:Int)(s:S4):(preT k s).length<=1300:=by
 have:=Zm1 s
 unfold preT;repeat' split
 all_goals first|assumption|simp
theorem Zi9(k lo hi:Int):(Ve k lo hi).length<=5:=by
 have:=Zdw lo hi
 unfold Ve;repeat' split
 all_goals first|assumption|simp
mutual
theorem WD: ∀r:Re,(textF r).length+1<=1400*cntN r
 | .mk k s kids lo hi n=>by
  rw[textF,cntN]
  have h1:=Zm2 k s
  have h2:=Zi9 k lo hi
  have h3:=Zbr k false kids
  simp only[qf];omega
theorem Zbr(k:Int): ∀(b:Bool) (l:List Re),(textF.textsF k b l).length<=1400*cntN.cntsN l
 |_,[]=>by rw[textF.textsF];simp
 |b,r::l=>by
  rw[textF.textsF,cntN.cntsN]
  have h1:=WD r
  have h2:=Zbr k true l
  have h3:(if b=true∧(k==5)=true then([124]:List UInt8)else []).length<=1:=by split<;>simp
  simp only[qf];omega
end

structure TX(r:Re):Prop where
 c: ∀(h:Heap) (id:Nat) (bs:List UInt8),Bd h id bs->bs.length+(textF r).length<2 ^ 28->Con UY 114 [.p (some (id,0)), .agg (Zd r)] h fun v h'=>v= .tup []∧Bd h' id (bs++textF r)

theorem Zja{h:Heap}{id:Nat}{bs:List UInt8}(b:Bd h id bs)(n:Int)(c:UInt8)(hn:n=(c.toNat:Nat))(hl:bs.length<2 ^ 29):Con UY 126 [.p (some (id,0)), .i .u8 n] h fun v h'=>v= .nilifc∧Bd h' id (bs++ [c]):=by
 subst hn;exact Zry b c hl

theorem Zbs(k:Int): ∀(b:Bool) (l m:List Re),l≠ []->textF.textsF k b (l++m)=textF.textsF k b l++textF.textsF k true m
 |_,[],_,h=>absurd rfl h
 |b,[r],m,_=>by rw[qs,qy,textF.textsF,textF.textsF,textF.textsF,qi]
 |b,r::r2::l,m,_=>by
  rw[qs,textF.textsF,Zbs k true (r2::l) m (by simp),textF.textsF.eq_2 k b r (r2::l)]
  simp only[List.append_assoc]
theorem Zdy(k:Int)(l:List Re){i:Nat}(hi:i<l.length):textF.textsF k false (l.take (i+1))=textF.textsF k false (l.take i)++((if 0<i∧(k==5)=true then [124]else [])++textF l[i]):=by
 rw[qa hi]
 by_cases h0:i=0
 ·subst h0
  rw[List.take_zero,qy,textF.textsF,textF.textsF,textF.textsF,if_neg (by simp),if_neg (by simp)]
  simp
 ·rw[Zbs k false _ _ (fun e=>by have h1:(l.take i).length=i:=(by rw[List.length_take];omega);rw[e]at h1;simp at h1;omega),textF.textsF,textF.textsF]
  by_cases h5:(k==5)=true
  ·rw[if_pos ⟨rfl,h5⟩,if_pos ⟨by omega,h5⟩,qi]
  ·rw[if_neg (fun e=>h5 e.2),if_neg (fun e=>h5 e.2),qi]
theorem Zbt(k:Int)(l:List Re)(i:Nat):(textF.textsF k false (l.take i)).length<=(textF.textsF k false l).length:=by
 by_cases h:l.take i= []
 ·rw[h,textF.textsF];simp
 ·have:=Zbs k false (l.take i) (l.drop i) h
  rw[List.take_append_drop]at this
  rw[this];simp

abbrev reL(k:Int)(s:S4)(kids:List Re)(lo hi n:Int):List V:= [I k,U s.1,U s.2.1,U s.2.2.1,U s.2.2.2,lst Zd kids,I lo,I hi,I n]
theorem Zu3{B:Nat}(hB:B<2 ^ 20){k:Int}{s:S4}{kids:List Re}{lo hi n:Int}(hl:kids.length<=B)(h6:k=6->0<=lo∧lo<=8∧(hi= -1∨(lo<=hi∧hi<=8)))(ih: ∀x∈kids,TX x):TX (.mk k s kids lo hi n):=by
 refine⟨fun h id bs hb hlen=> ?_⟩
 rw[textF]at hlen ⊢
 have hpl:=Zm2 k s
 have hql:=Zi9 k lo hi
 simp only[qf]at hlen
 rw[Zp]
 refine Zu UK (fn:=Tryz.f114) (Zl UK 63 ZD2 rfl ?_)
 have go: ∀ {g:Heap},Bd g id (bs++preT k s)->PreV UY 63 [0,2,3,28,29,30] (post (flat (Za Tryz.f114))) (FinS UY Tryz.f114 (AfterZ fun v h'=>v= .tup []∧Bd h' id (bs++(preT k s++textF.textsF k false kids++Ve k lo hi)))) .normal 63 [.p (some (id,0)), .undef, .lb (reL k s kids lo hi n),lst Zd kids,I (kids.length:Nat),I 0] g:=by
  intro g hg
  refine⟨rfl,ZL [0,2,3,28,29,30] [0,2,3,28,29,30] (fun m vs g=> ∃i:Nat,vs= [.p (some (id,0)), .undef, .lb (reL k s kids lo hi n),lst Zd kids,I (kids.length:Nat),I (i:Nat)]∧i<=kids.length∧m=kids.length-i∧Bd g id (bs++preT k s++textF.textsF k false (kids.take i))) kids.length Zy ⟨0,rfl,by omega,by omega,by rw[List.take_zero,textF.textsF,qi];exact hg⟩ ?_⟩
  rintro m vs g ⟨i,rfl,hii,rfl,hbd⟩
  refine Zs UK ZD3 rfl ?_
  refine Zm (fun hlt=> ?_) (fun hge=> ?_)
  ·have hc:=(ih kids[i] (qe hlt)).c
   have hrow:=Jp hlt
   have hsn:=Zdy k kids hlt
   have hpre:=Zbt k kids (i+1)
   have hpre0:=Zbt k kids i
   rw[hsn]at hpre
   simp only[qf]at hpre
   have next: ∀ {g2:Heap} {sep:List UInt8},sep=(if 0<i∧(k==5)=true then [124]else [])->Bd g2 id (bs++preT k s++textF.textsF k false (kids.take i)++sep++textF kids[i])->Bd g2 id (bs++preT k s++textF.textsF k false (kids.take (i+1))):=fun hs hb2=>by
    rw[hsn,<-hs]
    simpa only[List.append_assoc]using hb2
   generalize kids[i]=x at hc hrow hpre next
   obtain⟨xk,xs,xl,xlo,xhi,xn⟩:=x
   rw[Zp]at hrow
   simp only[Zp]at hc
   refine⟨Zz hlt,_,_,_,_,_,_,_,_,_,_,_,hrow,?_⟩
   refine Zg (fun g1=>Zg (fun g5=> ?_) (fun g5=> ?_)) (fun g1=> ?_)
   ·have h0:0<i:=by simpa[ltI]using g1
    have hs:([124]:List UInt8)=(if 0<i∧(k==5)=true then [124]else []):=by rw[if_pos ⟨h0,g5⟩]
    refine(Zja hbd 124 124 rfl (by simp only[qf];omega)).mono fun v g2 ⟨e1,b2⟩=> .inl ⟨e1,?_⟩
    refine(hc g2 id _ b2 (by rw[<-hs]at hpre;simp only[qf,qh,qp]at hpre ⊢;omega)).mono fun v g3 ⟨e3,b3⟩=>⟨e3,?_⟩
    exact⟨rfl,kids.length-(i+1),by omega,i+1,by rw[Zh (by omega)];rfl,by omega,rfl,next hs b3⟩
   ·have hs:([]:List UInt8)=(if 0<i∧(k==5)=true then [124]else []):=by rw[if_neg (by rw[g5];simp)]
    refine(hc g id _ hbd (by simp only[qf];omega)).mono fun v g3 ⟨e3,b3⟩=>⟨e3,?_⟩
    exact⟨rfl,kids.length-(i+1),by omega,i+1,by rw[Zh (by omega)];rfl,by omega,rfl,next hs (by rw[qi];exact b3)⟩
   ·have h0: ¬0<i:=by simpa[ltI]using g1
    have hs:([]:List UInt8)=(if 0<i∧(k==5)=true then [124]else []):=by rw[if_neg (fun e=>h0 e.1)]
    refine(hc g id _ hbd (by simp only[qf];omega)).mono fun v g3 ⟨e3,b3⟩=>⟨e3,?_⟩
    exact⟨rfl,kids.length-(i+1),by omega,i+1,by rw[Zh (by omega)];rfl,by omega,rfl,next hs (by rw[qi];exact b3)⟩
  ·have he:i=kids.length:=by omega
   subst he
   rw[qm]at hbd
   refine Zi [0,3] ?_
   refine Zn UK ZD4 rfl ?_
   have fin: ∀ {g2:Heap} {t:List UInt8},Ve k lo hi=t->Bd g2 id (bs++preT k s++textF.textsF k false kids++t)->Fin UY Tryz.f114 [] (AfterZ fun v h'=>v= .tup []∧Bd h' id (bs++(preT k s++textF.textsF k false kids++Ve k lo hi))) .normal 63 [] g2:=fun ht hb2=>finC (.inl rfl) rfl (.now ⟨rfl,by rw[ht];simpa only[List.append_assoc]using hb2⟩)
   refine Zg (fun g6=> ?_) (fun g6=>Zg (fun g7=> ?_) (fun g7=> ?_))
   ·have e6:=h6 (by simpa using g6)
    refine⟨_,Zu1 ⟨e6.1,e6.2.1⟩ e6.2.2,(Zm0 hbd _ (by have:=Zdw lo hi;simp only[qf];omega)).mono fun v g2 ⟨e1,b2⟩=>⟨_, .inl ⟨e1,fin (by rw[Ve,if_pos g6]) b2⟩⟩⟩
   ·exact(Zja hbd 41 41 rfl (by simp only[qf];omega)).mono fun v g2 ⟨e1,b2⟩=> .inl ⟨e1,fin (by rw[Ve,if_neg (by rw[g6];simp),if_pos g7]) b2⟩
   ·exact fin (t:= []) (by rw[Ve,if_neg (by rw[g6];simp),if_neg (by rw[g7];simp)]) (by rw[qi];exact hbd)
 refine Zg (fun g1=> ?_) (fun g1=>Zg (fun g2=> ?_) (fun g2=>Zg (fun g3=> ?_) (fun g3=>Zg (fun g7=> ?_) (fun g7=> ?_))))
 ·refine⟨_,Zu2 s,(Zm0 hb _ (by have:=Zm1 s;omega)).mono fun v g2 ⟨e1,b2⟩=>⟨_, .inl ⟨e1,go (by rw[preT,if_pos g1];exact b2)⟩⟩⟩
 ·exact(Zja hb 94 94 rfl (by omega)).mono fun v g2' ⟨e1,b2⟩=> .inl ⟨e1,go (by rw[preT,if_neg (by rw[g1];simp),if_pos g2];exact b2)⟩
 ·exact(Zja hb 36 36 rfl (by omega)).mono fun v g2' ⟨e1,b2⟩=> .inl ⟨e1,go (by rw[preT,if_neg (by rw[g1];simp),if_neg (by rw[g2];simp),if_pos g3];exact b2)⟩
 ·exact(Zja hb 40 40 rfl (by omega)).mono fun v g2' ⟨e1,b2⟩=> .inl ⟨e1,go (by rw[preT,if_neg (by rw[g1];simp),if_neg (by rw[g2];simp),if_neg (by rw[g3];simp),if_pos g7];exact b2)⟩
 ·exact go (by rw[preT,if_neg (by rw[g1];simp),if_neg (by rw[g2];simp),if_neg (by rw[g3];simp),if_neg (by rw[g7];simp),qi];exact hb)

mutual
theorem ZD9{B:Nat}(hB:B<2 ^ 20): ∀r:Re,wfRe B r->TX r
 | .mk k s kids lo hi n,h=>by
  rw[wfRe]at h
  exact Zu3 hB h.2.2.1 (fun e=>⟨(h.1 e).1,(h.1 e).2.1,(h.1 e).2.2.1⟩) (Zw5 hB kids h.2.2.2)
theorem Zw5{B:Nat}(hB:B<2 ^ 20): ∀l:List Re,wfRe.wfRes B l-> ∀x∈l,TX x
 | [],_,x,hx=>by cases hx
 |r::l,h,x,hx=>by
  rw[wfRe.wfRes]at h
  have h1:=ZD9 hB r h.1
  have h2:=Zw5 hB l h.2
  rcases qu.1 hx with e|hx
  ·exact e▸h1
  ·exact h2 x hx
end
theorem Zzt{h:Heap}{id:Nat}{bs:List UInt8}(b:Bd h id bs):RCon UY 115 [.p (some (id,0))] h (I (bs.length:Nat)):=by
 obtain⟨a,s,n,c,k,hg,ha,hL,ht,hz⟩:=b.ex
 have hn:=hL.1
 simp at hn
 have hc:Zb h id 1 1=some [.sl s n c k]:=by simp[Zb,hg,Zo]
 have hcon:Con UY 115 [.p (some (id,0))] h fun v h'=>v= I (bs.length:Nat)∧h'=h:=by
  refine Zu UK (fn:=Tryz.f115) (Zn UK ZDt rfl ?_)
  exact⟨_,_,_,_,hc,finC (.inr rfl) rfl (.now ⟨by rw[<-hn];rfl,rfl⟩)⟩
 exact⟨h,hcon,fun _ _=>rfl,fun _ hp=>hp⟩

def Zr2(r:Re):V:=if rightF r 0 0 0=none then .tup [.s [], .i .i64 5]else if 200<(textF r).length then .tup [.s [], .i .i64 2]else .tup [.s (textF r), .i .i64 0]
def mayE(r:Re):Bool:=(rightF r 0 0 0).isSome&&decide ((textF r).length<=200)

set_option linter.unusedVariables false
theorem Zr3{B:Nat}(hB:B<2 ^ 20){r:Re}(hwf:wfRe B r)(hlen:(textF r).length<2 ^ 28):PCon UY 69 [.agg (Zd r)] (· =Zr2 r):=by
 have hr:=(Zwv hB r hwf).c
 have ht:=(ZD9 hB r hwf).c
 unfold Zr2
 generalize rightF r=rf at hr
 generalize textF r=tx at ht hlen
 obtain⟨k,s,kids,lo,hi,n⟩:=r
 rw[Zp]at hr ht ⊢
 refine Zt UK (fn:=Tryz.f69) rfl ZIu rfl ?_
 have h1:JH ((Heap.empty).pushT (UY.tag 178) (YObj.arr [I 0] true)) Heap.empty.nx 0:=by rw[JH,qj,if_pos rfl]
 refine(hr 0 0 0 _ _ h1).mono fun v h' ⟨e1,e2⟩=>⟨_,e1,Zg (fun hb=> ?_) (fun hb=> ?_)⟩
 ·have ho:rf 0 0 0=none:=by
   cases h:rf 0 0 0 with
   |none=>rfl
   |some y=>rw[h]at hb;cases hb
  rw[if_pos ho]
  exact Zik (.inr rfl) rfl (.s _) (.i _ _) rfl
 ·have ho: ¬rf 0 0 0=none:=fun e=>by rw[e]at hb;cases hb
  rw[if_neg ho]
  have htg:UY.tag 182=some 182:=by kernel_rfl
  rw[htg]
  have hbd:Bd (h'.pushT (some 182) (YObj.arr [.p none, .sl none 0 (some 0) 0] true)) h'.nx []:=by
   refine⟨⟨none,none,0,some 0,0,by rw[qj,if_pos rfl], .inl rfl,⟨rfl, .inl ⟨rfl,rfl,rfl⟩⟩,(fun j o e=>by cases e),fun _=>rfl⟩,?_,by simp⟩
   show((h'.push _).tagIf h'.nx (some 182)).tagOf h'.nx=some 182
   rw[Ql];simp
  refine(ht _ _ _ hbd (by simpa using hlen)).mono fun v h2 ⟨e3,b2⟩=>⟨e3,?_⟩
  rw[qy]at b2
  refine⟨_,Zzt b2,Zg (fun g=> ?_) (fun g=> ?_)⟩
  ·have g:200<tx.length:=by simp[ltI]at g;omega
   rw[if_pos g]
   exact Zik (.inr rfl) rfl (.s _) (.i _ _) rfl
  ·have g: ¬200<tx.length:=by simp[ltI]at g;omega
   rw[if_neg g]
   refine(Zu0 b2 (by omega)).mono fun v h3 e=>⟨_,e,?_⟩
   exact Zik (.inr rfl) rfl (.s _) (.i _ _) rfl

theorem Zk4{B:Nat}(hB:B<2 ^ 20){r:Re}(hwf:wfRe B r)(hlen:(textF r).length<2 ^ 28):PCon UY 29 [.agg (Zd r)] (· = .b (mayE r)):=by
 have hp:=Zr3 hB hwf hlen
 unfold Zr2 at hp
 unfold mayE
 generalize rightF r 0 0 0=o at hp
 generalize textF r=tx at hp
 obtain⟨k,s,kids,lo,hi,n⟩:=r
 rw[Zp]at hp ⊢
 refine Zt UK (fn:=Tryz.f29) rfl ZIt rfl ?_
 cases o with
 |none=>exact⟨_,_,hp,Zv (.inr rfl) rfl (.b _) rfl⟩
 |some y=>
  rw[if_neg (by simp)]at hp
  by_cases g:200<tx.length
  ·rw[if_pos g]at hp
   exact⟨_,_,hp,Zv (.inr rfl) rfl (.b _) (by simp;omega)⟩
  ·rw[if_neg g]at hp
   exact⟨_,_,hp,Zv (.inr rfl) rfl (.b _) (by simp;omega)⟩
end Go.Y
namespace Go.Y
set_option maxRecDepth 1000000
set_option maxHeartbeats 0
theorem Jd(p:Nat->Bool)(k b:Nat): ∀m,(ZS p k m).testBit b=(decide (b<m)&&p (64*k+b))
 |0=>by simp[ZS]
 |m+1=>by
  rw[XK]
  have ih:=Jd p k b m
  have hlt:=JZ p k m
  split
  ·next hp=>
   have e:ZS p k m+2 ^ m=2 ^ m|||ZS p k m:=by
    have:=Nat.two_pow_add_eq_or_of_lt hlt 1
    rw[Nat.mul_one]at this
    rw[<-this,Nat.add_comm]
   rw[e,Nat.testBit_or,Nat.testBit_two_pow,ih]
   by_cases h:m=b
   ·subst h;simp[hp]
   ·have h1:decide (m=b)=false:=by simpa using h
    rw[h1,Bool.false_or]
    by_cases h2:b<m
    ·rw[decide_eq_true h2,decide_eq_true (show b<m+1 by omega)]
    ·rw[decide_eq_false h2,decide_eq_false (show¬b<m+1 by omega)]
  ·next hp=>
   rw[ih]
   by_cases h:m=b
   ·subst h;simp[hp]
   ·by_cases h2:b<m
    ·rw[decide_eq_true h2,decide_eq_true (show b<m+1 by omega)]
    ·rw[decide_eq_false h2,decide_eq_false (show¬b<m+1 by omega)]

theorem Jm(p:Nat->Bool)(c k:Nat):ZS (fun x=>p x||x==c) k 64=if c / 64=k then ZS p k 64|||2 ^ (c % 64)else ZS p k 64:=by
 apply Nat.eq_of_testBit_eq
 intro b
 rw[Jd]
 split
 ·next e=>
  rw[Nat.testBit_or,Jd,Nat.testBit_two_pow]
  by_cases hb:b<64
  ·rw[decide_eq_true hb,Bool.true_and,Bool.true_and]
   have:((64*k+b)==c)=decide (c % 64=b):=by
    by_cases h:c % 64=b
    ·rw[decide_eq_true h];simp;omega
    ·rw[decide_eq_false h];simp;omega
   rw[this]
  ·rw[decide_eq_false hb,Bool.false_and,Bool.false_and,Bool.false_or]
   rw[decide_eq_false];omega
 ·next e=>
  rw[Jd]
  by_cases hb:b<64
  ·have:((64*k+b)==c)=false:=by simp;omega
   simp only[this,Bool.or_false]
  ·rw[decide_eq_false hb,Bool.false_and,Bool.false_and]

theorem Zjb(p:Nat->Bool)(k:Nat): ∀m,ZS (fun x=> !p x) k m=2 ^ m-1-ZS p k m
 |0=>by simp[ZS]
 |m+1=>by
  have ih:=Zjb p k m
  have h1:=JZ p k m
  rw[XK,XK,ih,Nat.pow_succ]
  cases p (64*k+m)<;>simp<;>omega

theorem Zdz{m:Nat}(h:m<2 ^ 64):(BitVec.ofInt IntKind.u64.bits (m:Int)).toNat=m:=by
 show(BitVec.ofInt 64 (m:Int)).toNat=m
 rw[BitVec.toNat_ofInt];omega
theorem Zr4{n b:Nat}(h:n<2 ^ 64)(hb:b<64):IntKind.u64.wrap (((BitVec.ofInt IntKind.u64.bits (n:Int)|||BitVec.ofInt IntKind.u64.bits (IntKind.u64.wrap (1*2 ^ min b IntKind.u64.bits))).toNat:Nat):Int)=((n|||2 ^ b:Nat):Int):=by
 have h2:2 ^ b<2 ^ 64:=Nat.pow_lt_pow_right (by decide) hb
 rw[Zkw hb,BitVec.toNat_or,Zdz h,Zdz h2]
 exact Zcj (Nat.or_lt_two_pow h h2)
theorem Zm3{n:Nat}(h:n<2 ^ 64):IntKind.u64.wrap (((BitVec.ofInt IntKind.u64.bits (if IntKind.u64.signed=true then -1 else IntKind.u64.max) ^^^ BitVec.ofInt IntKind.u64.bits (n:Int)).toNat:Nat):Int)=((2 ^ 64-1-n:Nat):Int):=by
 have key:(BitVec.ofInt 64 (-1) ^^^ BitVec.ofInt 64 (n:Int)).toNat=2 ^ 64-1-n:=by
  have e:BitVec.ofInt 64 (-1)=BitVec.allOnes 64:=by decide
  have e3:(BitVec.ofInt 64 (n:Int)).toNat=n:=Zdz h
  rw[e,BitVec.allOnes_xor,BitVec.toNat_not,e3]
 show IntKind.u64.wrap (((BitVec.ofInt 64 (-1) ^^^ BitVec.ofInt 64 (n:Int)).toNat:Nat):Int)=_
 rw[key]
 exact Zcj (by omega)

abbrev Zr5(s:S4):List V:= [U s.1,U s.2.1,U s.2.2.1,U s.2.2.2]
theorem Zk5(p:Nat->Bool):Zr5 (Zw p)= [U (ZS p 0 64:Nat),U (ZS p 1 64:Nat),U (ZS p 2 64:Nat),U (ZS p 3 64:Nat)]:=rfl
theorem Zr6(p:Nat->Bool){c:Nat}(h:c<256):Zo 1 ((Zr5 (Zw p)).drop (0+c / 64*1))=some [U (ZS p (c / 64) 64:Nat)]:=by
 have:c / 64=0∨c / 64=1∨c / 64=2∨c / 64=3:=by omega
 rcases this with e|e|e|e<;>rw[e]<;>rfl
theorem Zu4(p:Nat->Bool){c:Nat}(h:c<256):splice (Zr5 (Zw p)) (0+c / 64*1) [U ((ZS p (c / 64) 64|||2 ^ (c % 64):Nat):Int)]=Zr5 (Zw fun x=>p x||x==c):=by
 rw[Zk5 (fun x=>p x||x==c),Jm,Jm,Jm,Jm]
 have:c / 64=0∨c / 64=1∨c / 64=2∨c / 64=3:=by omega
 rcases this with e|e|e|e<;>rw[e]<;>rfl
theorem Zr7(p:Nat->Bool):Zw (fun x=> !p x)=(((2 ^ 64-1-ZS p 0 64:Nat):Int),((2 ^ 64-1-ZS p 1 64:Nat):Int),((2 ^ 64-1-ZS p 2 64:Nat):Int),((2 ^ 64-1-ZS p 3 64:Nat):Int)):=by
 simp only[Zw,Zak,Zjb]
theorem setOf_no:Zw (fun _=>false)=(0,0,0,0):=by
 simp only[Zw,Zak]
 have: ∀k,ZS (fun _=>false) k 64=0:=fun k=>WV fun _ _=>rfl
 simp only[this];rfl
theorem Zjc{p q:Nat->Bool}(h: ∀c,c<256->p c=q c):Zw p=Zw q:=by
 have: ∀k,k<4->ZS p k 64=ZS q k 64:=fun k hk=>by
  apply Nat.eq_of_testBit_eq
  intro b
  rw[Jd,Jd]
  by_cases hb:b<64
  ·rw[h _ (by omega)]
  ·rw[decide_eq_false hb,Bool.false_and,Bool.false_and]
 simp only[Zw,Zak,this 0 (by omega),this 1 (by omega),this 2 (by omega),this 3 (by omega)]

def Zjd(p:Nat->Bool)(lo hi:Int)(c:Nat):Bool:=p c||(decide (lo<=(c:Int))&&decide ((c:Int)<=hi))
theorem WE(out:List Span)(lo hi:Int):ZH (out++ [⟨lo,hi⟩])=Zjd (ZH out) lo hi:=by
 funext c
 simp[ZH,Zjd]
def JL(l:List Span):Re:=XY (Zw (ZH l))
def Wn:Re:=XY (Zw fun _=>true)
def ZJ:Re:= .mk 6 (0,0,0,0) [Wn] 0 (-1) 0
def Vn(c:UInt8):Re:=XY (Zw fun x=>x==c.toNat)
def ZZ(s:List UInt8):List Re:=s.map Vn
def Xe(g:Glob):List Re:=if g.k=0 then [JL [⟨g.b,g.b⟩]]else if g.k=1 then [Wn]else if g.k=2 then [ZJ]else if g.k=3 then [JL g.sp]else []
def ZN(l:List Glob):List Re:=l.flatMap Xe
def fitV(r:Re):V:=if mayE r=true then .tup [.agg (Zd r), .i .i64 0]else .tup [.agg (Zd Xs), .i .i64 2]

theorem Zfi(c:UInt8):JL [⟨(c.toNat:Nat),(c.toNat:Nat)⟩]=Vn c:=by
 unfold JL Vn
 refine congrArg (fun p=>XY (Zw p)) (funext fun x=> ?_)
 simp only[ZH,List.any_cons,List.any_nil,Bool.or_false]
 by_cases h:x=c.toNat
 ·subst h;simp
 ·have h2:(x==c.toNat)=false:=by simpa using h
  rw[h2]
  by_cases h3:(c.toNat:Int)<=(x:Int)
  ·rw[decide_eq_false (show¬(x:Int)<=(c.toNat:Int) by omega)];simp
  ·rw[decide_eq_false h3];rfl
theorem Zor:JL [⟨0,255⟩]=Wn:=by
 unfold JL Wn
 refine congrArg XY (Zjc fun c hc=> ?_)
 simp[ZH];omega
theorem VI(l:List Glob){i:Nat}(hi:i<l.length):ZN (l.take (i+1))=ZN (l.take i)++Xe l[i]:=by
 unfold ZN
 rw[qa hi,List.flatMap_append]
 simp
theorem Zos(g:Glob):(Xe g).length<=1:=by
 unfold Xe
 repeat' split
 all_goals simp
theorem QI(l:List Glob):(ZN l).length<=l.length:=by
 induction l with
 |nil=>simp[ZN]
 |cons g l ih=>
  have:=Zos g
  have e:ZN (g::l)=Xe g++ZN l:=by simp[ZN]
  rw[e,qf,qh];omega
theorem Zd0(s:List UInt8){i:Nat}(hi:i<s.length):ZZ (s.take (i+1))=ZZ (s.take i)++ [Vn s[i]]:=by
 unfold ZZ
 rw[qa hi,List.map_append];rfl
theorem XX(s:List UInt8):(ZZ s).length=s.length:=by simp[ZZ]

/-! ### They are well formed -/
theorem Zm4{B:Nat}(x:S4):wfRe B (XY x):=VE (.inl rfl)
theorem Zw6{B:Nat} :wfRe B Wn:=Zm4 _
theorem Zk6{B:Nat}(hB:1<=B):wfRe B ZJ:=Zdl hB (.inr ⟨rfl,by decide,by decide, .inl rfl⟩) Zw6
theorem Zr8{B:Nat}(hB:1<=B)(g:Glob):wfRe.wfRes B (Xe g):=by
 unfold Xe
 split
 ·rw[wfRe.wfRes,wfRe.wfRes];exact⟨Zm4 _,trivial⟩
 split
 ·rw[wfRe.wfRes,wfRe.wfRes];exact⟨Zw6,trivial⟩
 split
 ·rw[wfRe.wfRes,wfRe.wfRes];exact⟨Zk6 hB,trivial⟩
 split
 ·rw[wfRe.wfRes,wfRe.wfRes];exact⟨Zm4 _,trivial⟩
 ·rw[wfRe.wfRes];trivial
theorem Zd1{B:Nat}(hB:1<=B): ∀l:List Glob,wfRe.wfRes B (ZN l)
 | []=>by simp only[ZN,List.flatMap_nil];rw[wfRe.wfRes];trivial
 |g::l=>by
  have e:ZN (g::l)=Xe g++ZN l:=by simp[ZN]
  rw[e];exact JF (Zr8 hB g) (Zd1 hB l)
theorem Zd2{B:Nat} : ∀s:List UInt8,wfRe.wfRes B (ZZ s)
 | []=>by simp only[ZZ,List.map_nil];rw[wfRe.wfRes];trivial
 |c::s=>by
  have e:ZZ (c::s)=Vn c::ZZ s:=by simp[ZZ]
  rw[e,wfRe.wfRes];exact⟨Zm4 _,Zd2 s⟩
theorem Zr9:cntN Wn=1:=Jr _
theorem Zm5:cntN ZJ=2:=by unfold ZJ;rw[VH,Zr9]
theorem Zot(g:Glob):cntN.cntsN (Xe g)<=2:=by
 unfold Xe
 split
 ·rw[XL];unfold JL;rw[Jr];decide
 split
 ·rw[XL,Zr9];decide
 split
 ·rw[XL,Zm5];decide
 split
 ·rw[XL];unfold JL;rw[Jr];decide
 ·rw[cntN.cntsN];decide
theorem Zbu: ∀l:List Glob,cntN.cntsN (ZN l)<=2*l.length
 | []=>by simp only[ZN,List.flatMap_nil];rw[cntN.cntsN];simp
 |g::l=>by
  have e:ZN (g::l)=Xe g++ZN l:=by simp[ZN]
  have h1:=Zot g
  have h2:=Zbu l
  rw[e,Jc,qh];omega
theorem Zbv: ∀s:List UInt8,cntN.cntsN (ZZ s)=s.length
 | []=>by simp only[ZZ,List.map_nil];rw[cntN.cntsN];simp
 |c::s=>by
  have e:ZZ (c::s)=Vn c::ZZ s:=by simp[ZZ]
  have h2:=Zbv s
  rw[e,cntN.cntsN,h2,qh];unfold Vn;rw[Jr];omega

structure FewL(l:List Re):Prop where
 wf:wfRe.wfRes 1000 l
 cnt:cntN.cntsN l<=5000
 len:l.length<=1000
theorem FewL.re{l:List Re}(h:FewL l):wfRe 1000 (sevS 4 l):=Zmi (.inl rfl) h.len h.wf
theorem FewL.txt{l:List Re}(h:FewL l):(textF (sevS 4 l)).length<2 ^ 28:=by
 have h1:=WD (sevS 4 l)
 have h2:=Zbq 4 l
 have h3:=h.cnt
 omega
theorem WF{s:List UInt8}(h:s.length<=300):FewL (ZZ s):=⟨Zd2 s,by rw[Zbv];omega,by rw[XX];omega⟩
theorem Zd3{l:List Glob}(h:l.length<=300):FewL (ZN l):=⟨Zd1 (by decide) l,by have:=Zbu l;omega,by have:=QI l;omega⟩
end Go.Y
namespace Go.Y
open Go.Proofs
set_option maxRecDepth 1000000
set_option maxHeartbeats 0
theorem ZEa{id h}(K):CP UY 107 (flat (Za Tryz.f107)) (.p (some (id,0))::Rp 19) h [2] K=(∃a,Zb h id 3 1=some [I a]∧If (a==(0:Int)) (∃c,Zb h id 1 1=some [I c]∧ ∃d,Zb h id 0 1=some [.s d]∧K .ret 20 [.b (ltI c (↑d.length:Int))] h) (K .ret 20 [.b false] h)):=by kernel_rfl
theorem ZEb{id x1 h}(K):CP UY 108 (flat (Za Tryz.f108)) (.p (some (id,0))::I x1::Rp 11) h [] K=(∃a,Zb h id 3 1=some [I a]∧If (a==(0:Int)) (∃b,Zj h id 3 [I x1]=some b∧K .normal 13 [] b) (K .normal 13 [] h)):=by kernel_rfl
theorem ZEc{id a h}(K):CP UY 136 (flat (Za Tryz.f136)) (.p (some (id,0))::.s a::Rp 34) h [4] K=(∃c,Zb h id 3 1=some [I c]∧If (c==(0:Int)) (∃d,Zb h id 1 1=some [I d]∧ ∃e,Zb h id 0 1=some [.s e]∧If (ltI d (↑e.length:Int)) (∃f,Zb h id 0 1=some [.s f]∧ ∃g,Zb h id 1 1=some [I g]∧ ∃j,((0:Int)<=g∧f[g.toNat]? =some j)∧ ∃l,(PCon UY 171 [.s a,.i .u8 (↑j.toNat:Int)] fun(v:V)=>v=I l)∧K .ret 36 [.b (leI 0 l)] h) (K .ret 36 [.b false] h)) (K .ret 36 [.b false] h)):=by kernel_rfl
theorem ZEd{id h}(K):CP UY 137 (flat (Za Tryz.f137)) (.p (some (id,0))::Rp 24) h [2] K=(∃a,RCon UY (107:Nat) [.p (some (id,0))] h (.b a)∧If (!a) (Con UY 108 [.p (some (id,0)),I 1] h fun(v:V) (h':Heap)=>v=.tup []∧K .ret 25 [.i .u8 0] h') (∃b,Zb h id 1 1=some [I b]∧ ∃c,Zj h id 1 [I (IntKind.i64.wrap (b+(1:Int)))]=some c∧ ∃d,Zb c id 0 1=some [.s d]∧ ∃e,Zb c id 1 1=some [I e]∧ ∃f,((0:Int)<=IntKind.i64.wrap (e-(1:Int))∧d[(IntKind.i64.wrap (e-(1:Int))).toNat]? =some f)∧K .ret 25 [.i .u8 (↑f.toNat:Int)] c)):=by kernel_rfl
theorem ZEe{id a h}(K):CP UY 196 (flat (Za Tryz.f196)) (.p (some (id,0))::.s a::Rp 11) h [4] K=(∃b,RCon UY (136:Nat) [.p (some (id,0)),.s a] h (.b b)∧If (!b) (Con UY 108 [.p (some (id,0)),I 1] h fun(v:V) (h':Heap)=>v=.tup []∧K .ret 13 [.i .u8 0] h') (Con UY 137 [.p (some (id,0))] h fun(v:V) (h':Heap)=> ∃c,v=.i .u8 c∧K .ret 13 [.i .u8 c] h')):=by kernel_rfl
theorem ZEf{id h}(K):CP UY 199 (flat (Za Tryz.f199)) (.p (some (id,0))::Rp 21) h [2] K=(∃a,RCon UY (136:Nat) [.p (some (id,0)),.s [93,45]] h (.b a)∧If a (Con UY 108 [.p (some (id,0)),I 1] h fun(v:V) (h':Heap)=>v=.tup []∧K .ret 22 [.i .u8 0] h') (Con UY 137 [.p (some (id,0))] h fun(v:V) (h':Heap)=> ∃b,v=.i .u8 b∧If (b==(92:Int)) (∃c,Zb h' id 3 1=some [I c]∧If (c==(0:Int)) (Con UY 137 [.p (some (id,0))] h' fun(v:V) (h':Heap)=> ∃d,v=.i .u8 d∧K .ret 22 [.i .u8 d] h') (K .ret 22 [.i .u8 b] h')) (K .ret 22 [.i .u8 b] h'))):=by kernel_rfl
def pk(s:List UInt8)(i:Nat)(any:List UInt8):Bool:=match s[i]? with|some c=>any.contains c|none=>false
theorem WG{s:List UInt8}{i:Nat}{c:UInt8}(h:s[i]? =some c)(any:List UInt8):pk s i any=any.contains c:=by unfold pk;rw[h]
theorem Zzu{s:List UInt8}{i:Nat}(h:s[i]? =none)(any:List UInt8):pk s i any=false:=by unfold pk;rw[h]
theorem Qf(s:List UInt8)(i:Nat)(c:UInt8):pk s i [c]=(s[i]? ==some c):=by
 unfold pk
 cases s[i]? with
 |none=>rfl
 |some d=>
  show([c].contains d)=(some d==some c)
  rw[List.contains_cons,List.contains_nil,Bool.or_false];rfl
theorem Zsa{s:List UInt8}{i:Nat}{any:List UInt8}(h:pk s i any=true): ∃c,s[i]? =some c∧any.contains c=true∧i<s.length:=by
 unfold pk at h
 cases hs:s[i]? with
 |none=>rw[hs]at h;cases h
 |some c=>rw[hs]at h;exact⟨c,rfl,h,(qb.1 hs).1⟩

theorem Zsb(c:UInt8): ∀(m:List UInt8) (n:Nat),leI 0 (QN m c n)=m.contains c
 | [],n=>rfl
 |x::m,n=>by
  unfold QN
  by_cases hx:x=c
  ·simp[hx,leI]
  ·have h1:(c==x)=false:=by simpa using fun h=>hx h.symm
   have h2: ¬(x==c)=true:=by simpa using hx
   simp only[List.contains_cons,h1,Bool.false_or]
   rw[if_neg h2]
   exact Zsb c m (n+1)

theorem Zzv{h:Heap}{id:Nat}{s:List UInt8}{i g:Nat}{e:Int}(r:RdE h id s i g e):
  RCon UY 107 [.p (some (id,0))] h (.b (e==0&&decide (i<s.length))):=by
 refine⟨h,?_,fun _ _=>rfl,fun _ h=>h⟩
 refine Zu UK (fn:=Tryz.f107) (Zn UK ZEa rfl ?_)
 refine⟨_,r.c3,Zg (fun h0=> ?_) (fun h0=> ?_)⟩
 ·refine⟨_,r.c1,_,r.c0,finC (.inr rfl) rfl (.now ⟨?_,rfl⟩)⟩
  rw[h0,Bool.true_and]
  have:ltI (i:Nat) (s.length:Nat)=decide (i<s.length):=by simp[ltI]
  rw[this];rfl
 ·refine finC (.inr rfl) rfl (.now ⟨?_,rfl⟩)
  rw[h0];rfl

theorem Zk7{h:Heap}{id:Nat}{s:List UInt8}{i g:Nat}{e:Int}(r:RdE h id s i g e)(x:Int):
  Con UY 108 [.p (some (id,0)),I x] h fun v h'=>v= .tup []∧RdE h' id s i g (if e=0 then x else e)∧FrO h id h':=by
 refine Zu UK (fn:=Tryz.f108) (Zn UK ZEb rfl ?_)
 refine⟨_,r.c3,Zg (fun h0=> ?_) (fun h0=> ?_)⟩
 ·have h0:e=0:=by simpa using h0
  obtain⟨h1,g1,g2,g3⟩:=r.s3 x
  exact⟨h1,g1,finC (.inl rfl) rfl (.now ⟨rfl,by rw[if_pos h0];exact g2,g3⟩)⟩
 ·have h0:e≠0:=by simpa using h0
  exact finC (.inl rfl) rfl (.now ⟨rfl,by rw[if_neg h0];exact r, .refl _ _⟩)

theorem VJ{h:Heap}{id:Nat}{s:List UInt8}{i g:Nat}{e:Int}(r:RdE h id s i g e)(any:List UInt8):
  RCon UY 136 [.p (some (id,0)), .s any] h (.b (e==0&&pk s i any)):=by
 refine⟨h,?_,fun _ _=>rfl,fun _ h=>h⟩
 refine Zu UK (fn:=Tryz.f136) (Zn UK ZEc rfl ?_)
 refine⟨_,r.c3,Zg (fun h0=> ?_) (fun h0=> ?_)⟩
 ·refine⟨_,r.c1,_,r.c0,Zm (fun hlt=> ?_) (fun hge=> ?_)⟩
  ·refine⟨_,r.c0,_,r.c1,s[i],Vd hlt,_,Zrv any s[i],finC (.inr rfl) rfl (.now ⟨?_,rfl⟩)⟩
   rw[Zsb,h0,WG (by simp[hlt]:s[i]? =some s[i])];rfl
  ·refine finC (.inr rfl) rfl (.now ⟨?_,rfl⟩)
   rw[Zzu (qq (by omega))];simp[V.plain]
 ·refine finC (.inr rfl) rfl (.now ⟨?_,rfl⟩)
  rw[h0];rfl

def nxQ(h:Heap)(id:Nat)(s:List UInt8)(i g:Nat)(e:Int)(v:V)(h':Heap):Prop:=
 (∃c,e=0∧s[i]? =some c∧v= .i .u8 (c.toNat:Nat)∧RdE h' id s (i+1) g 0∧FrO h id h')∨
 (e=0∧s[i]? =none∧v= .i .u8 0∧RdE h' id s i g 1∧FrO h id h')∨(e≠0∧v= .i .u8 0∧RdE h' id s i g e∧FrO h id h')

theorem Zer{h:Heap}{id:Nat}{s:List UInt8}{i g:Nat}{e:Int}(r:RdE h id s i g e)(hs:s.length<2 ^ 28):
  Con UY 137 [.p (some (id,0))] h (nxQ h id s i g e):=by
 refine Zu UK (fn:=Tryz.f137) (Zn UK ZEd rfl ?_)
 refine⟨_,Zzv r,Zg (fun hb=> ?_) (fun hb=> ?_)⟩
 ·refine(Zk7 r 1).mono fun v h' ⟨hv,u1,u2⟩=>⟨hv,finC (.inr rfl) rfl (.now ?_)⟩
  by_cases he:e=0
  ·subst he
   have:s[i]? =none:=by
    simp only[beq_self_eq_true,Bool.true_and,Bool.not_eq_true',decide_eq_false_iff_not]at hb
    exact qq (by omega)
   exact .inr (.inl ⟨rfl,this,rfl,by simpa using u1,u2⟩)
  ·rw[if_neg he]at u1
   exact .inr (.inr ⟨he,rfl,u1,u2⟩)
 ·have hb:(e==0&&decide (i<s.length))=true:=by simpa using hb
  have hb2:e=0∧i<s.length:=by simpa using hb
  obtain⟨rfl,hlt⟩:=hb2
  obtain⟨h1,g1,g2,g3⟩:=r.s1 (i+1)
  refine⟨_,r.c1,h1,by rw[Zh (by omega)];exact g1,_,g2.c0,_,g2.c1,s[i],?_,finC (.inr rfl) rfl (.now (.inl ⟨s[i],rfl,by simp[hlt],rfl,g2,g3⟩))⟩
  rw[ZG (by omega) (by omega),show((i+1:Nat):Int)-1=(i:Int) by omega];exact Vd hlt

def ndQ(h:Heap)(id:Nat)(s:List UInt8)(i g:Nat)(e:Int)(any:List UInt8)(v:V)(h':Heap):Prop:=
 (∃c,e=0∧s[i]? =some c∧any.contains c=true∧v= .i .u8 (c.toNat:Nat)∧RdE h' id s (i+1) g 0∧FrO h id h')∨
 (e=0∧pk s i any=false∧v= .i .u8 0∧RdE h' id s i g 1∧FrO h id h')∨(e≠0∧v= .i .u8 0∧RdE h' id s i g e∧FrO h id h')

theorem Zg6{h:Heap}{id:Nat}{s:List UInt8}{i g:Nat}{e:Int}(r:RdE h id s i g e)(any:List UInt8)(hs:s.length<2 ^ 28):
  Con UY 196 [.p (some (id,0)), .s any] h (ndQ h id s i g e any):=by
 refine Zu UK (fn:=Tryz.f196) (Zn UK ZEe rfl ?_)
 refine⟨_,VJ r any,Zg (fun hb=> ?_) (fun hb=> ?_)⟩
 ·refine(Zk7 r 1).mono fun v h' ⟨hv,u1,u2⟩=>⟨hv,finC (.inr rfl) rfl (.now ?_)⟩
  by_cases he:e=0
  ·subst he
   exact .inr (.inl ⟨rfl,by simpa using hb,rfl,by simpa using u1,u2⟩)
  ·rw[if_neg he]at u1
   exact .inr (.inr ⟨he,rfl,u1,u2⟩)
 ·have hb2:e=0∧pk s i any=true:=by simpa using hb
  obtain⟨rfl,hp⟩:=hb2
  obtain⟨c,hc,hm,hlt⟩:=Zsa hp
  refine(Zer r hs).mono fun v h' hq=> ?_
  rcases hq with ⟨d,_,hd,hv,u1,u2⟩|⟨_,hn,_⟩|⟨he,_⟩
  ·rw[hc]at hd;cases hd
   exact⟨_,hv,finC (.inr rfl) rfl (.now (.inl ⟨c,rfl,hc,hm,rfl,u1,u2⟩))⟩
  ·rw[hc]at hn;cases hn
  ·exact absurd rfl he

def enQ(h:Heap)(id:Nat)(s:List UInt8)(i g:Nat)(e:Int)(v:V)(h':Heap):Prop:=
 (∃c j,e=0∧endS s i= .ok (c,j)∧v= .i .u8 c∧RdE h' id s j g 0∧FrO h id h')∨
 (∃j,e=0∧endS s i= .error j∧v= .i .u8 0∧RdE h' id s j g 1∧FrO h id h')∨(e≠0∧v= .i .u8 0∧RdE h' id s i g e∧FrO h id h')

theorem endR{h:Heap}{id:Nat}{s:List UInt8}{i g:Nat}{e:Int}(r:RdE h id s i g e)(hs:s.length<2 ^ 28):
  Con UY 199 [.p (some (id,0))] h (enQ h id s i g e):=by
 refine Zu UK (fn:=Tryz.f199) (Zn UK ZEf rfl ?_)
 refine⟨_,VJ r [93,45],Zg (fun hb=> ?_) (fun hb=> ?_)⟩
 ·have hb2:e=0∧pk s i [93,45]=true:=by simpa using hb
  obtain⟨rfl,hp⟩:=hb2
  obtain⟨c,hc,hm,hlt⟩:=Zsa hp
  refine(Zk7 r 1).mono fun v h' ⟨hv,u1,u2⟩=>⟨hv,finC (.inr rfl) rfl (.now (.inr (.inl ⟨i,rfl,?_,rfl,by simpa using u1,u2⟩)))⟩
  have:c=93∨c=45:=by simpa using hm
  unfold endS;rw[hc];simp only[];rw[if_pos this]
 ·refine(Zer r hs).mono fun v h1 hq=> ?_
  rcases hq with ⟨c,he,hc,hv,u1,u2⟩|⟨he,hn,hv,u1,u2⟩|⟨he,hv,u1,u2⟩
  ·subst he
   have hb2:pk s i [93,45]=false:=by simpa using hb
   rw[WG hc]at hb2
   have hne: ¬(c=93∨c=45):=by
    intro h;have:([93,45]:List UInt8).contains c=true:=by simpa using h
    rw[this]at hb2;cases hb2
   refine⟨_,hv,?_⟩
   rw[show(92:Int)=(((92:UInt8).toNat:Nat):Int) by decide,Zqn]
   refine Zg (fun h92=> ?_) (fun h92=> ?_)
   ·have h92:c=92:=by simpa using h92
    refine⟨_,u1.c3,Zg (fun _=> ?_) (fun h=>by simp at h)⟩
    refine(Zer u1 hs).mono fun v h2 hq=> ?_
    rcases hq with ⟨d,_,hd,hv,w1,w2⟩|⟨_,hn,hv,w1,w2⟩|⟨he,_⟩
    ·refine⟨_,hv,finC (.inr rfl) rfl (.now (.inl ⟨_,i+2,rfl,?_,rfl,w1,u2.trans w2⟩))⟩
     unfold endS;rw[hc];simp only[];rw[if_neg hne,if_pos h92,hd]
    ·refine⟨_,hv,finC (.inr rfl) rfl (.now (.inr (.inl ⟨i+1,rfl,?_,rfl,w1,u2.trans w2⟩)))⟩
     unfold endS;rw[hc];simp only[];rw[if_neg hne,if_pos h92,hn]
    ·exact absurd rfl he
   ·have h92:c≠92:=by simpa using h92
    refine finC (.inr rfl) rfl (.now (.inl ⟨_,i+1,rfl,?_,rfl,u1,u2⟩))
    unfold endS;rw[hc];simp only[];rw[if_neg hne,if_neg h92]
  ·subst he
   refine⟨_,hv,Zg (fun h=>by simp at h) (fun _=>finC (.inr rfl) rfl (.now (.inr (.inl ⟨i,rfl,?_,rfl,u1,u2⟩))))⟩
   unfold endS;rw[hn]
  ·exact⟨_,hv,Zg (fun h=>by simp at h) (fun _=>finC (.inr rfl) rfl (.now (.inr (.inr ⟨he,rfl,u1,u2⟩))))⟩
end Go.Y
