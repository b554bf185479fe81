/- A part of the proof. -/
import Derived.Test.YteennilbmmlikaaGreatDoorGTrN
import Derived.Test.YteennilbmmlikaaGreatDoorYTryzP
import Derived.Test.YteennilbmmlikaaGreatDoorYLoop
namespace Go.Y
open Go.Proofs
set_option maxRecDepth 1000000
set_option maxHeartbeats 0
theorem Zvt(t:List UInt8):FineR (ereL t):=⟨Zea t,Zxi t,by have:=Zlb t;omega⟩
theorem Zsv(k:Int)(t:List UInt8):PCon UY 15 [.agg [I k, .s t]] (· = .b (mayP k t)):=by
 refine Zt UK (fn:=Tryz.f15) rfl ZKj rfl ?_
 generalize hM:mayP k t=M
 unfold mayP at hM
 refine Zg (fun h0=> ?_) (fun h0=> ?_)
 ·rw[if_pos h0]at hM
  exact Zv (.inr rfl) rfl (.b _) (by rw[hM])
 rw[if_neg (by rw[h0];decide)]at hM
 refine Zg (fun h1=> ?_) (fun h1=> ?_)
 ·rw[if_pos h1]at hM
  have hp:=Zfm t
  rw[Za2]at hp
  exact⟨_,_,_,_,_,hp,Zv (.inr rfl) rfl (.b _) (by rw[hM])⟩
 rw[if_neg (by rw[h1];decide)]at hM
 refine Zg (fun h2=> ?_) (fun h2=> ?_)
 ·rw[if_pos h2]at hM
  have hp:=Zfk t
  rw[Va]at hp
  have hm:=Zsu (Zvt t)
  revert hM hm hp
  generalize ereL t=x
  generalize ereE t=e
  intro hM hp hm
  obtain⟨xk,xs,xl,xlo,xhi,xn⟩:=x
  rw[ZD]at hm hp
  refine⟨_,_,_,_,_,_,_,_,_,_,_,_,_,hp,Zg (fun he=> ?_) (fun he=> ?_)⟩
  ·rw[if_pos he]at hM
   exact⟨_,hm,Zv (.inr rfl) rfl (.b _) (by rw[hM])⟩
  ·rw[if_neg (by rw[he];decide)]at hM
   exact Zv (.inr rfl) rfl (.b _) (by rw[hM])
 ·rw[if_neg (by rw[h2];decide)]at hM
  exact Zv (.inr rfl) rfl (.b _) (by rw[hM])

theorem Zxm:PCon UY 102 [] (· = .agg (Zd Wn)):=by
 refine Zt UK (fn:=Tryz.f102) rfl ZF4 rfl ?_
 have hof:=Zmn [] true (by decide) (fun x hx=>by cases hx)
 have e:Zw (ofP [] true)=Zw fun _=>true:=congrArg Zw (funext fun x=>rfl)
 rw[e]at hof
 have hof2:PCon UY 103 [.sl none 0 (some 0) 0, .b true] (· = .agg (setC (Zw fun _=>true))):=PCon.wkD (.cons _ _ _ _ (.nil _ _) (.cons _ _ _ _ (.same _) .nil)) hof
 exact⟨_,_,_,_,hof2,Zv (.inr rfl) rfl (.agg _ _ (.cons _ _ _ _ (.i _ _) (.cons _ _ _ _ (.i _ _) (.cons _ _ _ _ (.i _ _) (.cons _ _ _ _ (.i _ _) (.cons _ _ _ _ (.i _ _) (.cons _ _ _ _ (.sln _ _ none (fun x hx=>by cases hx)) (.cons _ _ _ _ (.i _ _) (.cons _ _ _ _ (.i _ _) (.cons _ _ _ _ (.i _ _) .nil)))))))))) (by unfold Wn XY;rw[Zp];rfl)⟩
theorem Zsw:PCon UY 58 [] (· = .agg (Zd ZJ)):=by
 refine Zt UK (fn:=Tryz.f58) rfl ZLo rfl ?_
 refine Qh Wn Zxm fun k s0 s1 s2 s3 cs l cc lo hi n he=>Zv (.inr rfl) rfl ?_ rfl
 have e:Zd ZJ= [I 6,U 0,U 0,U 0,U 0,lst Zd [Wn],I 0,I (-1),I 0]:=by unfold ZJ;rw[Zp]
 rw[e,Zg3,he]
 exact .agg _ _ (.cons _ _ _ _ (.i _ _) (.cons _ _ _ _ (.i _ _) (.cons _ _ _ _ (.i _ _) (.cons _ _ _ _ (.i _ _) (.cons _ _ _ _ (.i _ _) (.cons _ _ _ _ (.ts _ _ _ none (fun x hx=>by cases hx)) (.cons _ _ _ _ (.i _ _) (.cons _ _ _ _ (.i _ _) (.cons _ _ _ _ (.i _ _) .nil)))))))))

theorem Zsx{h:Heap}{a}{l:Nat}{c}{kk:Nat}{out:List Re}(x:Re){new:List V}(hf:FrzL .empty new (Zd x))(hcold:ZQ new=true)(hn:new.length=9)(hc:Zk new=true)(hl:Lst Zd 9 h a l c kk out)(hb:out.length<2 ^ 29):
  ∃a' l' c' k' h',Zf UY h 26 26 (.sl a l c kk) (.ts new 1 (some 1))=some (.sl a' l' c' k',h')∧Lst Zd 9 h' a' l' c' k' (out++ [x]):=by
 obtain⟨a',l',c',k',h',q1,q2,_⟩:=Lst.app1 (Y:=UY) (e:=28) (te:=⟨9,88, .struct [(0,3),(1,25),(5,26),(6,3),(7,3),(8,3)],[I 0,U 0,U 0,U 0,U 0, .sl none 0 (some 0) 0,I 0,I 0,I 0]⟩) x (by kernel_rfl) (by kernel_rfl) rfl (by decide) hl hf hcold hn hc (by decide) hb
 exact⟨a',l',c',k',h',q1,q2⟩
theorem Zsy{h:Heap}{a}{l:Nat}{c}{kk:Nat}{out:List Re}(x:Re){new}(hx:Zd x=new)(hl:Lst Zd 9 h a l c kk out)(hb:out.length<2 ^ 29):
  ∃a' l' c' k' h',Zf UY h 26 26 (.sl a l c kk) (.ts new 1 (some 1))=some (.sl a' l' c' k',h')∧Lst Zd 9 h' a' l' c' k' (out++ [x]):=by
 subst hx
 exact Zsx x (ZU _ (Xb x)) (Xb x) (ZK x) (VC x) hl hb
theorem Zvu(S:S4):FrzL .empty [I 1,U S.1,U S.2.1,U S.2.2.1,U S.2.2.2, .sl none 0 (some 0) 0,I 0,I 0,I 0] (Zd (XY S)):=by
 have e:Zd (XY S)= [I 1,U S.1,U S.2.1,U S.2.2.1,U S.2.2.2, .ts [] 0 none,I 0,I 0,I 0]:=by unfold XY;rw[Zp];rfl
 rw[e]
 exact .cons _ _ _ _ (.i _ _) (.cons _ _ _ _ (.i _ _) (.cons _ _ _ _ (.i _ _) (.cons _ _ _ _ (.i _ _) (.cons _ _ _ _ (.i _ _) (.cons _ _ _ _ (.sln _ _ none (fun x hx=>by cases hx)) (.cons _ _ _ _ (.i _ _) (.cons _ _ _ _ (.i _ _) (.cons _ _ _ _ (.i _ _) .nil))))))))
theorem Zlf{h:Heap}{a}{l:Nat}{c}{kk:Nat}{out:List Re}(S:S4)(hl:Lst Zd 9 h a l c kk out)(hb:out.length<2 ^ 29):
  ∃a' l' c' k' h',Zf UY h 26 26 (.sl a l c kk) (.ts [I 1,U S.1,U S.2.1,U S.2.2.1,U S.2.2.2, .sl none 0 (some 0) 0,I 0,I 0,I 0] 1 (some 1))=some (.sl a' l' c' k',h')∧Lst Zd 9 h' a' l' c' k' (out++ [XY S]):=
 Zsx (XY S) (Zvu S) rfl rfl rfl hl hb

theorem Zsz(s:List UInt8)(hs:s.length<2 ^ 28):PCon UY 47 [.s s] (· =lst Zd (ZZ s)):=by
 refine ZE UK (fn:=Tryz.f47) rfl ?_
 refine Zl UK 20 ZLi rfl ?_
 refine⟨rfl,ZL [0,3,4] [0,3,4] (fun m vs h=> ∃(i:Nat) (a:Option (Nat×Nat)) (l:Nat) (c:Option Nat) (k:Nat),vs= [.s s, .sl a l c k,I (i:Nat)]∧i<=s.length∧m=s.length-i∧Lst Zd 9 h a l c k (ZZ (s.take i))) s.length Zy ⟨0,none,0,some 0,0,rfl,by omega,by omega,Lst.nil _ _ _ _ _⟩ ?_⟩
 rintro m vs h ⟨i,a,l,c,k,rfl,hi,rfl,hL⟩
 refine Zs UK ZLj rfl ?_
 refine Zm (fun hlt=> ?_) (fun hge=> ?_)
 ·obtain⟨a',l',c',k',h',q1,q2⟩:=Zlf (Zw fun x=>x==s[i].toNat) hL (by rw[XX,List.length_take];omega)
  exact⟨s[i],Vd hlt,_,_,_,_,Zg2 s[i],a',l',c',k',h',q1,rfl,s.length-(i+1),by omega,i+1,a',l',c',k',by rw[Zh (by omega)];rfl,by omega,rfl,by rw[Zd0 s hlt];exact q2⟩
 ·have he:i=s.length:=by omega
  subst he
  rw[qm]at hL
  refine Zi [3] ?_
  refine Zn UK ZLk rfl ?_
  exact Zv (.inr rfl) rfl (hL.frz (by decide) ZK) rfl

theorem Zs0(l:List Span):ofP l false=ZH l:=by funext c;unfold ofP;cases ZH l c<;>rfl
theorem Zs1(l0:List Glob)(hl:l0.length<2 ^ 28)(hok:okG l0)(hb: ∀g∈l0,(0<=g.b∧g.b<256)∧ ∀x∈g.sp,(0<=x.lo∧x.lo<256)∧(0<=x.hi∧x.hi<256)):PCon UY 51 [lst encG l0] (· =lst Zd (ZN l0)):=by
 refine ZE UK (fn:=Tryz.f51) rfl ?_
 refine Zl UK 64 ZLl rfl ?_
 refine⟨rfl,ZL [0,3,4] [0,3,4] (fun m vs h=> ∃(i:Nat) (a:Option (Nat×Nat)) (l:Nat) (c:Option Nat) (k:Nat),vs= [lst encG l0, .sl a l c k,I (i:Nat)]∧i<=l0.length∧m=l0.length-i∧Lst Zd 9 h a l c k (ZN (l0.take i))) l0.length Zy ⟨0,none,0,some 0,0,rfl,by omega,by omega,Lst.nil _ _ _ _ _⟩ ?_⟩
 rintro m vs h ⟨i,a,l,c,k,rfl,hi,rfl,hL⟩
 refine Zs UK ZLm rfl ?_
 refine Zm (fun hlt=> ?_) (fun hge=> ?_)
 ·have hx:=hb l0[i] (qe hlt)
  have hsl:=hok.2 l0[i] (qe hlt)
  have hlen:(ZN (l0.take i)).length<2 ^ 29:=by
   have:=QI (l0.take i)
   rw[List.length_take]at this;omega
  have hsn:=VI l0 hlt
  have bi:=Zz hlt
  have hrow:=Zag (f:=encG) (k:=3) WU l0 hlt
  generalize hg:l0[i]=g at hx hsl hsn hrow
  have c0:Zo 1 (List.drop 0 (List.drop (((i:Nat):Int).toNat*3) (row encG l0)))=some [I g.k]:=by rw[qdq,hrow];rfl
  have c1:Zo 1 (List.drop 1 (List.drop (((i:Nat):Int).toNat*3) (row encG l0)))=some [.i .u8 g.b]:=by rw[qdq,hrow];rfl
  have c2:Zo 1 (List.drop 2 (List.drop (((i:Nat):Int).toNat*3) (row encG l0)))=some [lst encS g.sp]:=by rw[qdq,hrow];rfl
  have fin: ∀(a':Option (Nat×Nat)) (l':Nat) (c':Option Nat) (k':Nat) (h':Heap),Lst Zd 9 h' a' l' c' k' (ZN (l0.take i)++Xe g)->XH UY 64 [0,3,4] [0,3,4] (fun m vs h=> ∃(i:Nat) (a:Option (Nat×Nat)) (l:Nat) (c:Option Nat) (k:Nat),vs= [lst encG l0, .sl a l c k,I (i:Nat)]∧i<=l0.length∧m=l0.length-i∧Lst Zd 9 h a l c k (ZN (l0.take i))) (l0.length-i) (Xa (post (flat (Za Tryz.f51)))) ((post (flat (Za Tryz.f51))).drop 1) (FinS UY Tryz.f51 fun v h=> ∃r,Frz h v r∧r=lst Zd (ZN l0)) .normal 64 [lst encG l0, .sl a' l' c' k',I (IntKind.i64.wrap ((i:Nat)+1))] h':=fun a' l' c' k' h' q2=>
   ⟨rfl,l0.length-(i+1),by omega,i+1,a',l',c',k',by rw[Zh (by omega)];rfl,by omega,rfl,by rw[hsn];exact q2⟩
  refine⟨bi,_,c0,Zg (fun h0=> ?_) (fun h0=>⟨bi,_,c0,Zg (fun h1=> ?_) (fun h1=>⟨bi,_,c0,Zg (fun h2=> ?_) (fun h2=>⟨bi,_,c0,Zg (fun h3=> ?_) (fun h3=> ?_)⟩)⟩)⟩)⟩
  ·have h0:g.k=0:=by simpa using h0
   have hso:Xe g= [JL [⟨g.b,g.b⟩]]:=by unfold Xe;rw[if_pos h0]
   obtain⟨b,hbn⟩:=Int.eq_ofNat_of_zero_le hx.1.1
   have hb2:((UInt8.ofNat b).toNat:Int)=g.b:=by rw[UInt8.toNat_ofNat',hbn];omega
   have ho:=Zg2 (UInt8.ofNat b)
   rw[hb2]at ho
   rw[<-hb2,Zfi]at hso
   obtain⟨a',l',c',k',h',q1,q2⟩:=Zlf (Zw fun x=>x==(UInt8.ofNat b).toNat) hL hlen
   exact⟨bi,_,c1,_,_,_,_,ho,a',l',c',k',h',q1,bi,_,c0,ifF (by rw[h0];rfl) ⟨bi,_,c0,ifF (by rw[h0];rfl) ⟨bi,_,c0,ifF (by rw[h0];rfl) (fin _ _ _ _ _ (by rw[hso];exact q2))⟩⟩⟩
  ·have h0:g.k≠0:=by simpa using h0
   have h1:g.k=1:=by simpa using h1
   have hso:Xe g= [Wn]:=by unfold Xe;rw[if_neg h0,if_pos h1]
   refine Qh Wn Zxm fun k0 s0 s1 s2 s3 cs ll cc lo hi2 n he=> ?_
   obtain⟨a',l',c',k',h',q1,q2⟩:=Zsy Wn he hL hlen
   exact⟨a',l',c',k',h',q1,bi,_,c0,ifF (by rw[h1];rfl) ⟨bi,_,c0,ifF (by rw[h1];rfl) (fin _ _ _ _ _ (by rw[hso];exact q2))⟩⟩
  ·have h0:g.k≠0:=by simpa using h0
   have h1:g.k≠1:=by simpa using h1
   have h2:g.k=2:=by simpa using h2
   have hso:Xe g= [ZJ]:=by unfold Xe;rw[if_neg h0,if_neg h1,if_pos h2]
   refine Qh ZJ Zsw fun k0 s0 s1 s2 s3 cs ll cc lo hi2 n he=> ?_
   obtain⟨a',l',c',k',h',q1,q2⟩:=Zsy ZJ he hL hlen
   exact⟨a',l',c',k',h',q1,bi,_,c0,ifF (by rw[h2];rfl) (fin _ _ _ _ _ (by rw[hso];exact q2))⟩
  ·have h0:g.k≠0:=by simpa using h0
   have h1:g.k≠1:=by simpa using h1
   have h2:g.k≠2:=by simpa using h2
   have h3:g.k=3:=by simpa using h3
   have hso:Xe g= [JL g.sp]:=by unfold Xe;rw[if_neg h0,if_neg h1,if_neg h2,if_pos h3]
   have ho:=Zmn g.sp false (by omega) hx.2
   rw[Zs0]at ho
   obtain⟨a',l',c',k',h',q1,q2⟩:=Zlf (Zw (ZH g.sp)) hL hlen
   exact⟨bi,_,_,_,c2,_,_,_,_,ho,a',l',c',k',h',q1,fin _ _ _ _ _ (by rw[hso];exact q2)⟩
  ·have h0:g.k≠0:=by simpa using h0
   have h1:g.k≠1:=by simpa using h1
   have h2:g.k≠2:=by simpa using h2
   have h3:g.k≠3:=by simpa using h3
   have hso:Xe g= []:=by unfold Xe;rw[if_neg h0,if_neg h1,if_neg h2,if_neg h3]
   exact fin _ _ _ _ _ (by rw[hso,qi];exact hL)
 ·have he:i=l0.length:=by omega
  subst he
  rw[qm]at hL
  refine Zi [3] ?_
  refine Zn UK ZLn rfl ?_
  exact Zv (.inr rfl) rfl (hL.frz (by decide) ZK) rfl

theorem ZF5(l:List Re):PCon UY 46 [lst Zd l] (· = .agg (Zd (sevS 4 l))):=by
  refine Zt UK (fn:=Tryz.f46) rfl ZLh rfl ?_
  refine Zg (fun h0=> ?_) (fun h0=>Zg (fun h1=> ?_) (fun h1=> ?_))
  · have hl:l= []:=qg (by have h0:(l.length:Int)=0:=by simpa using h0
                          omega)
    subst hl
    exact Zv (.inr rfl) rfl (Xu _) rfl
  · have h1:l.length=1:=by
      have h1:(l.length:Int)=1:=by simpa using h1
      omega
    obtain⟨x,rfl⟩:=List.length_eq_one_iff.1 h1
    obtain⟨xk,xs,xl,xlo,xhi,xn⟩:=x
    have hc:=WH xk xs xl xlo xhi xn
    rw[ql]at hc
    exact⟨⟨by omega,by simp⟩,_,_,_,_,_,_,_,_,_,_,_,hc,Zv (.inr rfl) rfl (Zd7 _ _ (Zp _ _ _ _ _ _)) rfl⟩
  · have h0:l.length≠0:=by
      have h0: ¬(l.length:Int)=0:=by simpa using h0
      omega
    have h1:l.length≠1:=by
      have h1: ¬(l.length:Int)=1:=by simpa using h1
      omega
    rw[Zxb h0 h1]
    exact Zv (.inr rfl) rfl (Zd7 _ _ (by rw[Zp])) rfl
theorem ZF6{S:Re}{f:FuncId}{args}(c:PCon UY f args (· =fitV S)){K:Int->Int->Int->Int->Int->List V->Nat->Option Nat->Int->Int->Int->Int->Prop}
  (hk: ∀k s0 s1 s2 s3 cs l cc lo hi n e,Zd (Za1 S)= [I k,U s0,U s1,U s2,U s3, .ts cs l cc,I lo,I hi,I n]->e=fitE S->K k s0 s1 s2 s3 cs l cc lo hi n e):
  ∃n n_1 n_2 n_3 n_4 cs l c n_5 n_6 n_7 n_8,(PCon UY f args fun v=>v= .tup [.agg [I n,U n_1,U n_2,U n_3,U n_4, .ts cs l c,I n_5,I n_6,I n_7],I n_8])∧K n n_1 n_2 n_3 n_4 cs l c n_5 n_6 n_7 n_8:=by
 rw[Zd9]at c
 revert hk c
 generalize Za1 S=x
 intro c hk
 obtain⟨xk,xs,xl,xlo,xhi,xn⟩:=x
 exact⟨_,_,_,_,_,_,_,_,_,_,_,_,c.mono fun v hv=>by rw[hv,ZD],hk _ _ _ _ _ _ _ _ _ _ _ _ (Zp _ _ _ _ _ _) rfl⟩

theorem Zs2{S:Re}(hS:FineR S){args}{h:Heap}{D:List Nat}(c:Con UY 46 args h fun v h'=>v= .agg (Zd S)∧h'=XT h D){K:Int->Int->Int->Int->Int->List V->Nat->Option Nat->Int->Int->Int->Int->Heap->Prop}
  (hk: ∀k s0 s1 s2 s3 cs l cc lo hi n e,Zd (Za1 S)= [I k,U s0,U s1,U s2,U s3, .ts cs l cc,I lo,I hi,I n]->e=fitE S->K k s0 s1 s2 s3 cs l cc lo hi n e (XT h D)):
  Con UY 46 args h fun v h'=> ∃n n_1 n_2 n_3 n_4 cs l c n_5 n_6 n_7,v= .agg [I n,U n_1,U n_2,U n_3,U n_4, .ts cs l c,I n_5,I n_6,I n_7]∧
   ∃m m_1 m_2 m_3 m_4 cs2 l2 c2 m_5 m_6 m_7 m_8,(PCon UY 45 [.agg [I n,U n_1,U n_2,U n_3,U n_4, .ts cs l c,I n_5,I n_6,I n_7]] fun v=>v= .tup [.agg [I m,U m_1,U m_2,U m_3,U m_4, .ts cs2 l2 c2,I m_5,I m_6,I m_7],I m_8])∧K m m_1 m_2 m_3 m_4 cs2 l2 c2 m_5 m_6 m_7 m_8 h':=
 c.mono fun v h' ⟨hv,hh⟩=>by
  subst hv hh
  have hfit:=Zvs hS
  obtain⟨k,s0,s1,s2,s3,cs,l,cc,lo,hi,n,he⟩: ∃k s0 s1 s2 s3 cs l cc lo hi n,Zd S= [I k,U s0,U s1,U s2,U s3, .ts cs l cc,I lo,I hi,I n]:=by
   obtain⟨xk,xs,xl,xlo,xhi,xn⟩:=S
   exact⟨_,_,_,_,_,_,_,_,_,_,_,Zp _ _ _ _ _ _⟩
  rw[he]at hfit
  exact⟨k,s0,s1,s2,s3,cs,l,cc,lo,hi,n,by rw[he],ZF6 hfit fun k s0 s1 s2 s3 cs l cc lo hi n e h1 h2=>hk k s0 s1 s2 s3 cs l cc lo hi n e h1 h2⟩

theorem Zhf{l:List Re}(hf:FewL l)(hn:nnRe.nnRes l):FineR (sevS 4 l):=⟨hf.re,Zjn hn,by have h1:=Zbq 4 l;have h2:=hf.cnt;omega⟩
theorem Znj(l:List Re)(h:Heap):Con UY 46 [lst Zd l] h fun v h'=>v= .agg (Zd (sevS 4 l))∧h'=XT h []:=Con.ofP [] (FrzAL.refl _) (ZF5 l)
theorem Zvv{out:List Re}{h:Heap}{a}{l:Nat}{c}{kk:Nat}(hL:LY h a l c kk out): ∃D,Con UY 46 [.sl a l c kk] h fun v h'=>v= .agg (Zd (sevS 4 out))∧h'=XT h D:=by
 obtain⟨D,hz⟩:=hL.afterZ
 exact⟨D,Con.ofP D (.cons _ _ _ _ (.frz _ _ hz) .nil) (ZF5 out)⟩

theorem ZAn(s:List UInt8)(hs:s.length<=300):PCon UY 17 [.s s] (· =fitV (sevS 4 (ZZ s))):=by
 refine Zt UK (fn:=Tryz.f17) rfl ZLp rfl ?_
 exact⟨_,_,_,Zsz s (by omega),Zs2 (Zhf (WF hs) (Za4 s)) (Znj _ _) fun k s0 s1 s2 s3 cs l cc lo hi n e h1 h2=>Zby rfl h1 h2 rfl⟩
theorem Zlg(l:List Glob)(hl:l.length<=300)(hg:InG l):PCon UY 19 [lst encG l] (· =Zfp l):=by
 refine Zt UK (fn:=Tryz.f19) rfl ZLq rfl ?_
 unfold Zfp
 have hm:=Zvg l hg.ok
 generalize mayS l=m at hm
 refine⟨m,hm,Zg (fun h0=> ?_) (fun h0=> ?_)⟩
 ·have h0:m=false:=by simpa using h0
  subst h0
  exact JM (.inr rfl) rfl (Xu _) (.i _ _) rfl
 ·have h0:m=true:=by simpa using h0
  subst h0
  exact⟨_,_,_,Zs1 l (by omega) hg.ok hg.b,Zs2 (Zhf (Zd3 hl) (Zee l)) (Znj _ _) fun k s0 s1 s2 s3 cs l2 cc lo hi n e h1 h2=>Zby rfl h1 h2 rfl⟩

theorem Zs3{h1:Heap}{a}{l:Nat}{c}{kk:Nat}{out:List Re}(hL:LY h1 a l c kk out)(hb:out.length<2 ^ 20)(hf:FineR (sevS 4 (out++ [ZJ]))){R:V}(hR:R=fitV (sevS 4 (out++ [ZJ]))){fn:Func}(nn:Nat)(hres: ∀(n n_1 n_2 n_3 n_4:Int) (cs:List V) (l:Nat) (c:Option Nat) (n_5 n_6 n_7 e:Int),resV UY fn ([2,3].zip [.lb [I n,U n_1,U n_2,U n_3,U n_4, .ts cs l c,I n_5,I n_6,I n_7],I e])=some (.tup [.agg [I n,U n_1,U n_2,U n_3,U n_4, .ts cs l c,I n_5,I n_6,I n_7],I e])):
  ∃n n_1 n_2 n_3 n_4 cs l_1 c_1 n_5 n_6 n_7,(PCon UY 58 [] fun v=>v= .agg [I n,U n_1,U n_2,U n_3,U n_4, .ts cs l_1 c_1,I n_5,I n_6,I n_7])∧
   ∃(a_1:Option (Nat×Nat)) (l_3:Nat) (c_3:Option Nat) (k_1:Nat) (h:Heap),Zf UY h1 26 26 (.sl a l c kk) (.ts [I n,U n_1,U n_2,U n_3,U n_4, .ts cs l_1 c_1,I n_5,I n_6,I n_7] 1 (some 1))=some (.sl a_1 l_3 c_3 k_1,h)∧
   Con UY 46 [.sl a_1 l_3 c_3 k_1] h fun v h'=> ∃n n_1 n_2 n_3 n_4 cs l c n_5 n_6 n_7,v= .agg [I n,U n_1,U n_2,U n_3,U n_4, .ts cs l c,I n_5,I n_6,I n_7]∧
    ∃m m_1 m_2 m_3 m_4 cs2 l2 c2 m_5 m_6 m_7 m_8,(PCon UY 45 [.agg [I n,U n_1,U n_2,U n_3,U n_4, .ts cs l c,I n_5,I n_6,I n_7]] fun v=>v= .tup [.agg [I m,U m_1,U m_2,U m_3,U m_4, .ts cs2 l2 c2,I m_5,I m_6,I m_7],I m_8])∧
    Go.Y.Fin UY fn [2,3] (fun v h=> ∃r,Frz h v r∧r=R) .ret nn [.lb [I m,U m_1,U m_2,U m_3,U m_4, .ts cs2 l2 c2,I m_5,I m_6,I m_7],I m_8] h':=by
 refine Qh ZJ Zsw fun k0 s0 s1 s2 s3 cs l0 cc lo hi n he=> ?_
 obtain⟨a',l',c',k',h',q1,q2⟩:=hL.app1 ZJ he (by omega)
 obtain⟨D,hc⟩:=Zvv q2
 exact⟨a',l',c',k',h',q1,Zs2 hf hc fun k s0 s1 s2 s3 cs l cc lo hi n e h1 h2=>Zby (hres _ _ _ _ _ _ _ _ _ _ _ _) h1 h2 hR⟩

theorem Zlh(k:Int)(t:List UInt8):PCon UY 21 [.agg [I k, .s t]] (· =Js k t):=by
 refine Zt UK (fn:=Tryz.f21) rfl ZLr rfl ?_
 generalize hV:Js k t=R
 unfold Js at hV
 have hres: ∀(n n_1 n_2 n_3 n_4:Int) (cs:List V) (l:Nat) (c:Option Nat) (n_5 n_6 n_7 e:Int),resV UY Tryz.f21 ([2,3].zip [.lb [I n,U n_1,U n_2,U n_3,U n_4, .ts cs l c,I n_5,I n_6,I n_7],I e])=some (.tup [.agg [I n,U n_1,U n_2,U n_3,U n_4, .ts cs l c,I n_5,I n_6,I n_7],I e]):=fun _ _ _ _ _ _ _ _ _ _ _ _=>rfl
 refine⟨_,Zsv k t,Zg (fun hb=> ?_) (fun hb=> ?_)⟩
 ·have hm:mayP k t=false:=by simpa using hb
  rw[if_pos hm]at hV
  exact JM (.inr rfl) rfl (Xu _) (.i _ _) hV
 have hm:mayP k t=true:=by simpa using hb
 rw[if_neg (by rw[hm];decide)]at hV
 have hfew:=Za3 hm
 have hnn:=Zvo k t
 refine Qh ZJ Zsw fun k0 s0 s1 s2 s3 cs l0 cc lo hi n he=> ?_
 have key: ∀L:List Re,WJ k t=L-> ¬((k==2)=true∧anchB (ereL t)=true)->R=fitV (sevS 4 ((ZJ::L)++ [ZJ]))∧FineR (sevS 4 ((ZJ::L)++ [ZJ])):=fun L hL hn=>by
  rw[if_neg hn,hL]at hV
  rw[hL]at hfew hnn
  exact⟨hV.symm,Zhf hfew hnn⟩
 by_cases h0:k=0
 ·subst h0
  have hl:t.length<=200:=by
   have:leI (t.length:Nat) 200=true:=by unfold mayP at hm;simpa using hm
   have:(t.length:Int)<=200:=by simpa[leI]using this
   omega
  obtain⟨hR,hf⟩:=key (ZZ t) rfl (by simp)
  obtain⟨a',l',c',k',h',q1,q2⟩:=(LY.one (h:=Heap.empty) he).apps (ZZ t) (by rw[XX];simp;omega) none
  exact ifT rfl ⟨_,_,_,Zsz t (by omega),a',l',c',k',h',q1,ifF rfl (ifF rfl (Zs3 q2 (by simp[XX];omega) hf hR _ hres))⟩
 by_cases h1:k=1
 ·subst h1
  obtain⟨hR,hf⟩:=key (ZN (Vf t)) rfl (by simp)
  obtain⟨g1,g2⟩:=Zhb t
  have g3:=QI (Vf t)
  have hp:=Zfm t
  rw[Za2]at hp
  obtain⟨a',l',c',k',h',q1,q2⟩:=(LY.one (h:=Heap.empty) he).apps (ZN (Vf t)) (by simp;omega) none
  exact ifF rfl (ifT rfl ⟨_,_,_,_,_,hp,_,_,_,Zs1 (Vf t) (by omega) g2.ok g2.b,a',l',c',k',h',q1,ifF rfl (Zs3 q2 (by simp;omega) hf hR _ hres)⟩)
 by_cases h2:k=2
 ·subst h2
  refine ifF rfl (ifF rfl (ifT rfl ?_))
  have hp:=Zfk t
  rw[Va]at hp
  have ha:=Zm9 (B:=1000) (by decide) (ereL t) (Zea t)
  unfold AnR at ha
  have hla:=Zna (B:=1000) (by decide) (ereL t) (Zea t)
  unfold LbR at hla
  have hin:WJ 2 t= [Qx (ereL t)]:=rfl
  have eg:=Zjm (ereL t)
  revert hp ha hla hin eg key hV
  generalize ereL t=x
  intro hV key hp ha hla hin eg
  have key2:=key _ hin
  clear key
  revert eg hla
  generalize laterF x=y
  intro hla eg
  obtain⟨xk,xs,xl,xlo,xhi,xn⟩:=x
  rw[ZD]at hp ha hla
  refine⟨_,_,_,_,_,_,_,_,_,_,_,_,_,hp,_,ha,Zg (fun hb=> ?_) (fun hb=> ?_)⟩
  ·rw[if_pos ⟨rfl,hb⟩]at hV
   exact JM (.inr rfl) rfl (Xu _) (.i _ _) hV
  ·obtain⟨hR,hf⟩:=key2 (fun hc=>by rw[hb]at hc;exact absurd hc.2 (by decide))
   refine Qh y hla fun k0 s0 s1 s2 s3 cs l0 cc lo hi n he2=> ?_
   rw[he2]at eg
   obtain⟨a',l',c',k',h',q1,q2⟩:=(LY.one (h:=Heap.empty) he).app [Qx (.mk xk xs xl xlo xhi xn)] (new:= [I 7,U 0,U 0,U 0,U 0, .ts [I k0,U s0,U s1,U s2,U s3, .ts cs l0 cc,I lo,I hi,I n] 1 (some 1),I 0,I 0,I 1]) (by
    have e:row Zd [Qx (.mk xk xs xl xlo xhi xn)]=Zd (Qx (.mk xk xs xl xlo xhi xn)):=by simp[row]
    rw[e,eg]
    exact .cons _ _ _ _ (.i _ _) (.cons _ _ _ _ (.i _ _) (.cons _ _ _ _ (.i _ _) (.cons _ _ _ _ (.i _ _) (.cons _ _ _ _ (.i _ _) (.cons _ _ _ _ (.ts _ _ _ none (fun x hx=>by cases hx)) (.cons _ _ _ _ (.i _ _) (.cons _ _ _ _ (.i _ _) (.cons _ _ _ _ (.i _ _) .nil))))))))) rfl rfl rfl (by simp) rfl (some 1)
   exact⟨a',l',c',k',h',q1,Zs3 q2 (by simp) hf hR _ hres⟩
 ·exfalso
  unfold mayP at hm
  rw[if_neg (by simpa using h0),if_neg (by simpa using h1),if_neg (by simpa using h2)]at hm
  cases hm
theorem f5_0{s0 a n1 d c h}(K):CP UY 5 (pre (flat (Za Tryz.f5))) (.s s0::J a n1 none::.agg [I d,.s c]::Rp 103) h [0,1,3,5,6,8,23,37,38,39] K=(∃b,(PCon UY 12 [] fun v=>v=.b b)∧If (!b) (K .ret 106 [.s s0,J a n1 none,Ud, .lb [I d, .s c], .b false,Ud,Ud,Ud,Ud,Ud] h) ((fun P0=>If (ltI 250 (↑s0.length:Int)) P0 (If (ltI 60 n1) P0 (If (ltI 120 (↑c.length:Int)) P0 (K .normal 106 [.s s0,J a n1 none,Ud, .lb [I d, .s c], .b false,Ud, .s s0,J a n1 none,I (n1:Int),I 0] h)))) (K .ret 106 [.s s0,J a n1 none,Ud, .lb [I d, .s c], .b true,Ud, .s s0,Ud,Ud,Ud] h))):=by kernel_rfl
theorem f5_1{s0 a n1 e f v8 d h}(K):CP UY 5 (flat (Zx (post (flat (Za Tryz.f5))))) (MZ 106 [0,1,3,5,8,23,37,38,39] [.s s0,J a n1 none,V.undef,.lb [I e,.s f],v8,.s s0,J a n1 none,I (n1:Int),I d]) h [0,1,3,5,6,8,23,37,38,39] K=(If (ltI d n1) ((0<=d∧d<n1)∧ ∃c g j l m,Zo 3 (List.drop (d.toNat*3) a)=some [I c,.i .u8 g,J j l m]∧If (ltI 20 l) (K .ret 106 [.s s0,J a n1 none,Ud, .lb [I e, .s f], .b true, .lb [I c, .i .u8 g,J j l m], .s s0,J a n1 none,I (n1:Int),I d] h) (K .normal 106 [.s s0,J a n1 none,Ud, .lb [I e, .s f],Ud, .lb [I c, .i .u8 g,J j l m], .s s0,J a n1 none,I (n1:Int),I (IntKind.i64.wrap (d+(1:Int)))] h)) (K (.exit 0) 106 [.s s0,J a n1 none,Ud, .lb [I e, .s f],Ud,v8, .s s0,J a n1 none,I (n1:Int),I d] h)):=by kernel_rfl
theorem f5_2{s0 a n1 d e v8 h}(K):CP UY 5 ((post (flat (Za Tryz.f5))).drop 1) (MZ 106 [0,1,3,5,8,23] [.s s0,J a n1 none,V.undef,.lb [I d,.s e],v8,.s s0]) h [6] K=(∃b c f g i j l m n o p q,(PCon UY 16 [.s s0] fun(v:V)=>v=.tup [.agg (R9 b c f g i j l m n o p),I q])∧ ∃r t u w x y z a0 a1 a2 a3 a4,(PCon UY 17 [.s s0] fun(v:V)=>v=.tup [.agg (R9 r t u w x y z a0 a1 a2 a3),I a4])∧ ∃a5 a6 a7 a8 a9 b0 b1 b2 b3 b4 b5 b6,(PCon UY 18 [J a n1 none] fun(v:V)=>v=.tup [.agg (R9 a5 a6 a7 a8 a9 b0 b1 b2 b3 b4 b5),I b6])∧ ∃b7 b8 b9 c0 c1 c2 c3 c4 c5 c6 c7 c8,(PCon UY (19:Nat) [J a n1 none] fun(v:V)=>v=.tup [.agg (R9 b7 b8 b9 c0 c1 c2 c3 c4 c5 c6 c7),I c8])∧ ∃c9,∃d0,∃d1,∃d2,∃d3,∃d4,∃d5,∃d6,∃d7,∃d8,∃d9,∃e0,(PCon UY (20:Nat) [.agg [I d,.s e]] fun(v:V)=>v=.tup [.agg (R9 c9 d0 d1 d2 d3 d4 d5 d6 d7 d8 d9),I e0])∧ ∃e1,∃e2,∃e3,∃e4,∃e5,∃e6,∃e7,∃e8,∃e9,∃f0,∃f1,∃f2,(PCon UY (21:Nat) [.agg [I d,.s e]] fun(v:V)=>v=.tup [.agg (R9 e1 e2 e3 e4 e5 e6 e7 e8 e9 f0 f1),I f2])∧ ∃f3,(PCon UY (22:Nat) [.agg (R9 b c f g i j l m n o p),.agg (R9 r t u w x y z a0 a1 a2 a3)] fun(v:V)=>v=.b f3)∧If f3 (If (q==a4) (∃f4,(PCon UY (22:Nat) [.agg (R9 a5 a6 a7 a8 a9 b0 b1 b2 b3 b4 b5),.agg (R9 b7 b8 b9 c0 c1 c2 c3 c4 c5 c6 c7)] fun(v:V)=>v=.b f4)∧If f4 (If (b6==c8) (∃f6,(PCon UY (22:Nat) [.agg (R9 c9 d0 d1 d2 d3 d4 d5 d6 d7 d8 d9),.agg (R9 e1 e2 e3 e4 e5 e6 e7 e8 e9 f0 f1)] fun(v:V)=>v=.b f6)∧If f6 (K Out.ret 106 [.b (e0==f2)] h) (K Out.ret 106 [.b false] h)) (K Out.ret 106 [.b false] h)) (K Out.ret 106 [.b false] h)) (K Out.ret 106 [.b false] h)) (K Out.ret 106 [.b false] h)):=by kernel_rfl
def SaR(r:Re):Prop:=PCon UY 22 [.agg (Zd r), .agg (Zd r)] (· = .b true)
theorem Zvw{B:Nat}(hB:B<2 ^ 20){k:Int}{s:S4}{kids:List Re}{lo hi n:Int}(hl:kids.length<=B)(ih: ∀x∈kids,SaR x):SaR (.mk k s kids lo hi n):=by
 unfold SaR
 rw[ZD]
 refine ZE UK (fn:=Tryz.f22) rfl ?_
 refine Zl UK 67 ZKk rfl ?_
 refine ifF (by simp) (ifF (by simp) (ifF (by simp) (ifF (by simp) (ifF (by simp) (ifF (by simp) ?_)))))
 refine⟨rfl,ZL [2,3,5] [2,3,4,5] (fun m vs g=> ∃i:Nat,vs= [xLb k s kids lo hi n,xLb k s kids lo hi n,I (i:Nat)]∧i<=kids.length∧m=kids.length-i) kids.length Zy ⟨0,rfl,by omega,by omega⟩ ?_⟩
 rintro m vs g ⟨i,rfl,hi2,rfl⟩
 refine Zs UK ZKl rfl ?_
 refine Zm (fun hlt=> ?_) (fun hge=> ?_)
 ·have hc:=ih kids[i] (qe hlt)
  unfold SaR at hc
  have hrow:=Jp hlt
  generalize kids[i]=x at hc hrow
  obtain⟨xk,xs,xl,xlo,xhi,xn⟩:=x
  rw[Zp]at hrow
  rw[ZD]at hc
  have bi:=Zz hlt
  exact⟨bi,_,_,_,_,_,_,_,_,_,_,_,hrow,bi,_,_,_,_,_,_,_,_,_,_,_,hrow,true,hc,ifF rfl ⟨rfl,kids.length-(i+1),by omega,i+1,by rw[Zh (by omega)];rfl,by omega,rfl⟩⟩
 ·refine Zi [] ?_
  refine Zn UK ZKm rfl ?_
  exact Zv (.inr rfl) rfl (.b _) rfl
mutual
theorem Zvx{B:Nat}(hB:B<2 ^ 20): ∀r:Re,wfRe B r->SaR r
 | .mk k s kids lo hi n,h=>by
  rw[wfRe]at h
  exact Zvw hB h.2.2.1 (Zxn hB kids h.2.2.2)
theorem Zxn{B:Nat}(hB:B<2 ^ 20): ∀l:List Re,wfRe.wfRes B l-> ∀x∈l,SaR x
 | [],_,x,hx=>by cases hx
 |r::l,h,x,hx=>by
  rw[wfRe.wfRes]at h
  have h1:=Zvx hB r h.1
  have h2:=Zxn hB l h.2
  rcases qu.1 hx with e|hx
  ·exact e▸h1
  ·exact h2 x hx
end

def Zjr(r:Re)(e:Int):V:= .tup [.agg (Zd r), .i .i64 e]
theorem Zfx{r:Re}{e:Int}{f:FuncId}{args}(c:PCon UY f args (· =Zjr r e)){K:Int->Int->Int->Int->Int->List V->Nat->Option Nat->Int->Int->Int->Int->Prop}
  (hk: ∀k s0 s1 s2 s3 cs l cc lo hi n e',Zd r= [I k,U s0,U s1,U s2,U s3, .ts cs l cc,I lo,I hi,I n]->e'=e->K k s0 s1 s2 s3 cs l cc lo hi n e'):
  ∃n n_1 n_2 n_3 n_4 cs l c n_5 n_6 n_7 n_8,(PCon UY f args fun v=>v= .tup [.agg [I n,U n_1,U n_2,U n_3,U n_4, .ts cs l c,I n_5,I n_6,I n_7],I n_8])∧K n n_1 n_2 n_3 n_4 cs l c n_5 n_6 n_7 n_8:=by
 unfold Zjr at c
 obtain⟨xk,xs,xl,xlo,xhi,xn⟩:=r
 exact⟨_,_,_,_,_,_,_,_,_,_,_,_,c.mono fun v hv=>by rw[hv,ZD],hk _ _ _ _ _ _ _ _ _ _ _ _ (Zp _ _ _ _ _ _) rfl⟩
theorem Zeg:wfRe 1000 Xs:=by unfold Xs;rw[wfRe];exact⟨fun h=>absurd h (by decide),fun _ _ _ _=>rfl,by decide,by rw[wfRe.wfRes];trivial⟩
theorem Zvy(S:Re)(h:wfRe 1000 S):wfRe 1000 (Za1 S):=by
 unfold Za1
 split
 ·exact h
 ·exact Zeg
theorem Zhg(S:Re)(h:wfRe 1000 S): ∃r e,fitV S=Zjr r e∧wfRe 1000 r:=⟨Za1 S,fitE S,Zd9 S,Zvy S h⟩
theorem Zli(k:Int)(t:List UInt8): ∃r e,Js k t=Zjr r e∧wfRe 1000 r:=by
 unfold Js
 by_cases hm:mayP k t=false
 ·rw[if_pos hm];exact⟨_,_,rfl,Zeg⟩
 ·rw[if_neg hm]
  split
  ·exact⟨_,_,rfl,Zeg⟩
  ·exact Zhg _ (Za3 (by simpa using hm)).re
theorem Zo1(l:List Glob)(hl:l.length<=300): ∃r e,Zfp l=Zjr r e∧wfRe 1000 r:=by
 unfold Zfp
 split
 ·exact Zhg _ (Zd3 hl).re
 ·exact⟨_,_,rfl,Zeg⟩

theorem ZF7(haw:PCon UY 12 [] (· = .b true))(s:List UInt8)(l:List Glob)(hg:l.length<=60->(∀g∈l,g.sp.length<=20)->InG l)(k:Int)(t:List UInt8):
  PCon UY 5 [.s s,lst encG l, .agg [I k, .s t]] (· = .b true):=by
 refine ZE UK (fn:=Tryz.f5) rfl ?_
 refine Zl UK 106 f5_0 rfl ?_
 refine⟨true,haw,ifF rfl (XC (fun h1=>fin1 (.inr rfl) rfl (.b _) rfl) (fun h1=>XC (fun h2=>fin1 (.inr rfl) rfl (.b _) rfl) (fun h2=>XC (fun h3=>fin1 (.inr rfl) rfl (.b _) rfl) (fun h3=> ?_))))⟩
 refine⟨rfl,ZL [0,1,3,5,8,23,37,38,39] [0,1,3,5,6,8,23,37,38,39] (fun m vs g=> ∃(i:Nat) (v8:V),vs= [.s s,lst encG l, .undef, .lb [I k, .s t],v8, .s s,lst encG l,I (l.length:Nat),I (i:Nat)]∧i<=l.length∧m=l.length-i∧ ∀g∈l.take i,g.sp.length<=20) l.length Zy ⟨0, .undef,rfl,by omega,by omega,fun g hg=>by simp at hg⟩ ?_⟩
 rintro m vs g0 ⟨i,v8,rfl,hi,rfl,hsm⟩
 refine Zs UK f5_1 rfl ?_
 refine Zm (fun hlt=> ?_) (fun hge=> ?_)
 ·refine⟨Zz hlt,l[i].k,l[i].b,row encS l[i].sp,l[i].sp.length,none,by rw[qdq,Xi (f:=encG) (k:=3) WU hlt],XC (fun h4=>fin1 (.inr rfl) rfl (.b _) rfl) (fun h4=> ?_)⟩
  refine⟨rfl,l.length-(i+1),by omega,i+1,_,by rw[Zh (by omega)];rfl,by omega,rfl,fun g hg=> ?_⟩
  rw[qa hlt]at hg
  rcases qA.1 hg with hg|hg
  ·exact hsm g hg
  ·rw[List.mem_singleton]at hg;subst hg;omega
 ·have he:i=l.length:=by omega
  subst he
  rw[qm]at hsm
  refine Zi [0,1,3,5,8,23] ?_
  refine Zn UK f5_2 rfl ?_
  have hin:=hg (by omega) hsm
  obtain⟨r1,e1,q1,w1⟩:=Zhg (sevS 4 (ZZ s)) (WF (s:=s) (by omega)).re
  obtain⟨r2,e2,q2,w2⟩:=Zo1 l (by omega)
  obtain⟨r3,e3,q3,w3⟩:=Zli k t
  have a1:=Zxf s (by omega)
  have a2:=ZAn s (by omega)
  have b1:=Zow l (by omega) hin
  have b2:=Zlg l (by omega) hin
  have c1:=Zbz k t
  have c2:=Zlh k t
  rw[q1]at a1 a2
  rw[q2]at b1 b2
  rw[q3]at c1 c2
  have s1:=Zvx (B:=1000) (by decide) r1 w1
  have s2:=Zvx (B:=1000) (by decide) r2 w2
  have s3:=Zvx (B:=1000) (by decide) r3 w3
  unfold SaR at s1 s2 s3
  refine Zfx a1 fun k0 u0 u1 u2 u3 cs l0 cc lo hi2 n x1 p1 p1'=>Zfx a2 fun k1 v0 v1 v2 v3 ds l1 dc lo1 hi1 n1 x2 p2 p2'=>Zfx b1 fun k2 w0 w1 w2 w3 es l2 ec lo2 hi3 n2 x3 p3 p3'=>Zfx b2 fun k3 y0 y1 y2 y3 fs l3 fc lo3 hi4 n3 x4 p4 p4'=>Zfx c1 fun k4 z0 z1 z2 z3 gs l4 gc lo4 hi5 n4 x5 p5 p5'=>Zfx c2 fun k5 t0 t1 t2 t3 hs l5 hc lo5 hi6 n5 x6 p6 p6'=> ?_
  have s1':=s1
  rw[p1]at s1
  have p12:=p1.symm.trans p2
  have p34:=p3.symm.trans p4
  have p56:=p5.symm.trans p6
  rw[p3]at s2
  rw[p5]at s3
  have ss1:PCon UY 22 [.agg [I k0,U u0,U u1,U u2,U u3, .ts cs l0 cc,I lo,I hi2,I n], .agg [I k1,U v0,U v1,U v2,U v3, .ts ds l1 dc,I lo1,I hi1,I n1]] (· = .b true):=by rw[<-p12];exact s1
  have ss2:PCon UY 22 [.agg [I k2,U w0,U w1,U w2,U w3, .ts es l2 ec,I lo2,I hi3,I n2], .agg [I k3,U y0,U y1,U y2,U y3, .ts fs l3 fc,I lo3,I hi4,I n3]] (· = .b true):=by rw[<-p34];exact s2
  have ss3:PCon UY 22 [.agg [I k4,U z0,U z1,U z2,U z3, .ts gs l4 gc,I lo4,I hi5,I n4], .agg [I k5,U t0,U t1,U t2,U t3, .ts hs l5 hc,I lo5,I hi6,I n5]] (· = .b true):=by rw[<-p56];exact s3
  refine⟨true,ss1,ifT rfl (ifT (by rw[p1',p2'];simp) ⟨true,ss2,ifT rfl (ifT (by rw[p3',p4'];simp) ⟨true,ss3,ifT rfl (Zv (.inr rfl) rfl (.b _) (by rw[p5',p6'];simp))⟩)⟩)⟩
end Go.Y
