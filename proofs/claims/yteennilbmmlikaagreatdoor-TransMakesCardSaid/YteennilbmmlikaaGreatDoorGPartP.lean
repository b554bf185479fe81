/- A part of the proof. -/
import Derived.Test.YteennilbmmlikaaGreatDoorGLX
import Derived.Test.YteennilbmmlikaaGreatDoorYTryzP
import Derived.Test.YteennilbmmlikaaGreatDoorYLoop
import Derived.Test.YteennilbmmlikaaGreatDoorGReC
import Derived.KernelRfl
import Derived.Test.YteennilbmmlikaaGreatDoorYFrz
namespace Go.Y
open Gl

theorem JJ{α:Type}(P:Nat->α->Prop)(R:Nat->α->α->Prop)(x0:α): ∀(n:Nat),P 0 x0->(∀i,i<n-> ∀x,P i x-> ∃y,R i x y∧P (i+1) y)-> ∃H:Nat->α,H 0=x0∧(∀i,i<=n->P i (H i))∧ ∀i,i<n->R i (H i) (H (i+1))
 |0,h0,_=>⟨fun _=>x0,rfl,fun i hi=>by
   have:i=0:=by omega
   subst this;exact h0,fun i hi=>absurd hi (by omega)⟩
 |n+1,h0,step=>by
  obtain⟨H,e0,hP,hR⟩:=JJ P R x0 n h0 fun i hi=>step i (by omega)
  obtain⟨y,hy1,hy2⟩:=step n (by omega) (H n) (hP n (qnq _))
  refine⟨fun i=>if i=n+1 then y else H i,by simp[e0],fun i hi=> ?_,fun i hi=> ?_⟩
  ·by_cases e:i=n+1
   ·subst e;simp only[if_pos];exact hy2
   ·simp only[if_neg e];exact hP i (by omega)
  ·by_cases e:i=n
   ·subst e
    simp only[if_neg (show¬i=i+1 by omega),if_pos];exact hy1
   ·simp only[if_neg (show¬i=n+1 by omega),if_neg (show¬i+1=n+1 by omega)]
    exact hR i (by omega)

theorem Zi7(bo:List Nat->List Nat->List Nat)(x:Re): ∀(l:List Re) (A:Au0) (out:Part),partF.altF bo (l++ [x]) A out=
  ((partF bo x (partF.altF bo l A out).1).1,⟨bo (partF.altF bo l A out).2.first (partF bo x (partF.altF bo l A out).1).2.first,bo (partF.altF bo l A out).2.last (partF bo x (partF.altF bo l A out).1).2.last,(partF.altF bo l A out).2.empty||(partF bo x (partF.altF bo l A out).1).2.empty⟩)
 | [],A,out=>by rw[qy,partF.altF,partF.altF,partF.altF]
 |r::l,A,out=>by
  rw[qs,partF.altF,Zi7 bo x l]
  rw[show partF.altF bo (r::l) A out=partF.altF bo l (partF bo r A).1 ⟨bo out.first (partF bo r A).2.first,bo out.last (partF bo r A).2.last,out.empty||(partF bo r A).2.empty⟩ from by rw[partF.altF]]
theorem Zdu(bo:List Nat->List Nat->List Nat)(x:Re): ∀(l:List Re) (A:Au0) (out:Part),partF.catF bo (l++ [x]) A out=
  catP bo (partF bo x (partF.catF bo l A out).1).1 (partF.catF bo l A out).2 (partF bo x (partF.catF bo l A out).1).2
 | [],A,out=>by rw[qy,partF.catF,partF.catF,partF.catF]
 |r::l,A,out=>by
  rw[qs,partF.catF,Zdu bo x l]
  rw[show partF.catF bo (r::l) A out=partF.catF bo l (catP bo (partF bo r A).1 out (partF bo r A).2).1 (catP bo (partF bo r A).1 out (partF bo r A).2).2 from by rw[partF.catF]]
def Zk1(bo:List Nat->List Nat->List Nat)(g:Au0->Au0×Part)(lo hi:Int)(n i:Nat)(s:Au0×Part):Au0×Part:=
 catP bo (if hi<0∧i+1=n then Zkx bo (g s.1).1 (g s.1).2 else(g s.1).1) s.2 ⟨(g s.1).2.first,(g s.1).2.last,(g s.1).2.empty||decide (lo<=(i:Int))⟩
theorem Zmr(bo:List Nat->List Nat->List Nat)(g:Au0->Au0×Part)(lo hi:Int)(n:Nat): ∀(k i:Nat) (A:Au0) (out:Part),repP bo g lo hi n (k+1) i A out=Zk1 bo g lo hi n (i+k) (repP bo g lo hi n k i A out)
 |0,i,A,out=>by rw[repP,repP,repP];rfl
 |k+1,i,A,out=>by
  have h1:repP bo g lo hi n (k+1+1) i A out=repP bo g lo hi n (k+1) (i+1) (Zk1 bo g lo hi n i (A,out)).1 (Zk1 bo g lo hi n i (A,out)).2:=by rw[repP];rfl
  have h2:repP bo g lo hi n (k+1) i A out=repP bo g lo hi n k (i+1) (Zk1 bo g lo hi n i (A,out)).1 (Zk1 bo g lo hi n i (A,out)).2:=by rw[repP];rfl
  rw[h1,Zmr bo g lo hi n k (i+1),h2,show i+1+k=i+(k+1) by omega]

theorem Zaq(l:List Re)(i:Nat):cntRe.cnts (l.take i)<=cntRe.cnts l:=by
 induction l generalizing i with
 |nil=>simp
 |cons r l ih=>
  cases i with
  |zero=>rw[List.take_zero,cntRe.cnts];omega
  |succ i=>rw[List.take_succ_cons,cntRe.cnts,cntRe.cnts];have:=ih i;omega
theorem Zar(x:Re): ∀l:List Re,cntRe.cnts (l++ [x])=cntRe.cnts l+cntRe x
 | []=>by rw[qy,cntRe.cnts,cntRe.cnts,cntRe.cnts];omega
 |r::l=>by rw[qs,cntRe.cnts,Zar x l,cntRe.cnts];omega
theorem WX{B:Nat} : ∀ {l:List Re},wfRe.wfRes B l-> ∀i,wfRe.wfRes B (l.take i)
 | [],h,i=>by simpa using h
 |r::l,h,0=>by rw[List.take_zero,wfRe.wfRes];trivial
 |r::l,h,i+1=>by
  rw[wfRe.wfRes]at h
  rw[List.take_succ_cons,wfRe.wfRes]
  exact⟨h.1,WX h.2 i⟩
theorem Zbn{B:Nat} : ∀ {l:List Re},wfRe.wfRes B l-> ∀x∈l,wfRe B x
 | [],_,x,hx=>by cases hx
 |r::l,h,x,hx=>by
  rw[wfRe.wfRes]at h
  rcases qu.1 hx with rfl|hx
  ·exact h.1
  ·exact Zbn h.2 x hx
end Go.Y
namespace Go.Y
open Go.Proofs
set_option maxRecDepth 1000000
set_option maxHeartbeats 0
theorem ZIo(id k s0 s1 s2 s3 kc kn lo hi gn h K):CP UY 74 (pre (flat (Za Tryz.f74))) (.p (some (id,0))::.agg (R9 k s0 s1 s2 s3 kc kn none lo hi gn)::Rp 50) h [0,2,3,4,5,6,12,13] K=(∃a,(PCon UY 71 [.agg (R9 k s0 s1 s2 s3 kc kn none lo hi gn)] fun v=>v=I a)∧K .normal 52 [.p (some (id,0)),Ud, .lb (R9 k s0 s1 s2 s3 kc kn none lo hi gn), .lb [S0,S0, .b false], .lb [S0,S0, .b true],I a,I a,I 0] h):=by kernel_rfl
theorem ZIp(id k s0 s1 s2 s3 kc kn lo hi gn x6 d e f g j m o q a h K):CP UY 74 (flat (Zx (post (flat (Za Tryz.f74))))) (MZ 52 [0,2,3,4,5,6,12,13] [.p (some (id,0)),V.undef,.lb (R9 k s0 s1 s2 s3 kc kn none lo hi gn),.lb [S0,S0,.b false],.lb [J f g e,J m o j,.b q],I x6,I d,I a]) h [0,2,3,4,5,6,12,13] K=(If (ltI a d) (((0:Int)<=(0:Int)∧(0:Int)<(kn:Int))∧ ∃c i l n r s t u w x y,Zo 9 kc=some (R9 c i l n r s t u w x y)∧Con UY 32 [.p (some (id,0)),.agg (R9 c i l n r s t u w x y)] h fun(v:V) (h':Heap)=> ∃z a0 a1 a2 a3 a4 a5,(fun P0=>v=.agg [J z a0 a1,J a2 a3 a4,.b a5]∧If (ltI hi 0) (If (a==IntKind.i64.wrap (x6-(1:Int))) (Con UY 119 [.p (some (id,0)),J a2 a3 a4,J z a0 a1] h' fun(v:V) (h':Heap)=>v=.tup []∧If a5 (Con UY 73 [.p (some (id,0)),.agg [J f g e,J m o j,.b q],.agg [J z a0 a1,J a2 a3 a4,.b true]] h' fun(v:V) (h':Heap)=> ∃a6 a7 a8 a9 b0 b1 b2,v=.agg [J a6 a7 a8,J a9 b0 b1,.b b2]∧K .normal 52 [.p (some (id,0)),Ud, .lb (R9 k s0 s1 s2 s3 kc kn none lo hi gn), .lb [S0,S0, .b false], .lb [J a6 a7 a8,J a9 b0 b1, .b b2],I x6,I d,I (IntKind.i64.wrap (a+(1:Int)))] h') (Con UY 73 [.p (some (id,0)),.agg [J f g e,J m o j,.b q],.agg [J z a0 a1,J a2 a3 a4,.b (leI lo a)]] h' fun(v:V) (h':Heap)=> ∃a6 a7 a8 a9 b0 b1 b2,v=.agg [J a6 a7 a8,J a9 b0 b1,.b b2]∧K .normal 52 [.p (some (id,0)),Ud, .lb (R9 k s0 s1 s2 s3 kc kn none lo hi gn), .lb [S0,S0, .b false], .lb [J a6 a7 a8,J a9 b0 b1, .b b2],I x6,I d,I (IntKind.i64.wrap (a+(1:Int)))] h')) P0) P0) (If a5 (Con UY 73 [.p (some (id,0)),.agg [J f g e,J m o j,.b q],.agg [J z a0 a1,J a2 a3 a4,.b true]] h' fun(v:V) (h':Heap)=> ∃a6 a7 a8 a9 b0 b1 b2,v=.agg [J a6 a7 a8,J a9 b0 b1,.b b2]∧K .normal 52 [.p (some (id,0)),Ud, .lb (R9 k s0 s1 s2 s3 kc kn none lo hi gn), .lb [S0,S0, .b false], .lb [J a6 a7 a8,J a9 b0 b1, .b b2],I x6,I d,I (IntKind.i64.wrap (a+(1:Int)))] h') (Con UY 73 [.p (some (id,0)),.agg [J f g e,J m o j,.b q],.agg [J z a0 a1,J a2 a3 a4,.b (leI lo a)]] h' fun(v:V) (h':Heap)=> ∃a6 a7 a8 a9 b0 b1 b2,v=.agg [J a6 a7 a8,J a9 b0 b1,.b b2]∧K .normal 52 [.p (some (id,0)),Ud, .lb (R9 k s0 s1 s2 s3 kc kn none lo hi gn), .lb [S0,S0, .b false], .lb [J a6 a7 a8,J a9 b0 b1, .b b2],I x6,I d,I (IntKind.i64.wrap (a+(1:Int)))] h'))) (K (.exit 0) 52 [.p (some (id,0)),Ud, .lb (R9 k s0 s1 s2 s3 kc kn none lo hi gn), .lb [S0,S0, .b false], .lb [J f g e,J m o j, .b q],I x6,I d,I a] h)):=by kernel_rfl
theorem ZIq(a c d e f g j i h K):CP UY 74 ((post (flat (Za Tryz.f74))).drop 1) (MZ 52 [4,5] [.lb [S0,S0,.b j],.lb [J c d a,J f g e,.b i]]) h [4] K=(K .ret 52 [.lb [J c d a,J f g e, .b i]] h):=by kernel_rfl
theorem ZCz{c n h}(K):CP UY 117 (pre (flat (Za Tryz.f117))) (J c n none::V.fn (.func 30) [] []::Rp 17) h [0,1,7,8] K=(K .normal 19 [J c n none, .fn (Fn.func 30) [] [],I (n:Int),I 0] h):=by kernel_rfl
theorem ZC0{c n x8 h}(K):CP UY 117 (flat (Zx (post (flat (Za Tryz.f117))))) (MZ 19 [0,1,7,8] [J c n none,V.fn (Fn.func 30) [] [],I (n:Int),I x8]) h [0,1,4,7,8] K=(If (ltI x8 n) ((0<=x8∧x8<n)∧ ∃a b d e f g i j l m o,Zo 9 (List.drop (x8.toNat*9) c)=some (R9 a b d e f g i j l m o)∧ ∃p,(PCon UY 30 [.agg (R9 a b d e f g i j l m o)] fun v=>v=.b p)∧If p (K .ret 19 [J c n none, .fn (Fn.func 30) [] [],I x8,I (n:Int),I x8] h) (K .normal 19 [J c n none, .fn (Fn.func 30) [] [],Ud,I (n:Int),I (IntKind.i64.wrap (x8+(1:Int)))] h)) (K (.exit 0) 19 [J c n none, .fn (Fn.func 30) [] [],Ud,I (n:Int),I x8] h)):=by kernel_rfl
theorem ZC1{h}(K):CP UY 117 ((post (flat (Za Tryz.f117))).drop 1) (MZ 19 [] []) h [4] K=(K .ret 19 [I (-1)] h):=by kernel_rfl
theorem ZIr{c n h}(K):CP UY 70 (flat (Za Tryz.f70)) (J c n none::V.fn (.func 30) [] []::Rp 7) h [4] K=(Con UY 117 [J c n none,V.fn (Fn.func 30) [] []] h fun(v:V) (h':Heap)=> ∃a,v=I a∧K .ret 9 [.b (leI 0 a)] h'):=by kernel_rfl
theorem ZIs{b n0 h}(K):CP UY 33 (flat (Za Tryz.f33)) (J b n0 none::Rp 7) h [2] K=((n0=0->K .ret 8 [S0] h)∧((∃a c d e f,Zf UY h 32 32 (J [] 0 (some 0)) (J b n0 none)=some (S a c d e,f)∧K .ret 8 [S a c d e] f)∨Zf UY h 32 32 (J [] 0 (some 0)) (J b n0 none)=some (J [] 0 (some 0),h)∧K .ret 8 [J [] 0 (some 0)] h)):=by kernel_rfl
theorem Jp{kids:List Re}{i:Nat}(hi:i<kids.length):Zo 9 (List.drop ((i:Int).toNat*9) (row Zd kids))=some (Zd kids[i]):=by
 rw[qdq];exact Xi (f:=Zd) (k:=9) ZK hi
theorem Zas: ∀l:List Re,anchB.anchs l=l.any anchB
 | []=>by rw[anchB.anchs];rfl
 |r::l=>by rw[anchB.anchs,Zas l];rfl

theorem ZC2{B:Nat}(hB:B<2 ^ 20){kids:List Re}(hl:kids.length<=B)(ih: ∀x∈kids,PCon UY 30 [.agg (Zd x)] (· = .b (anchB x)))(h:Heap):
  Con UY 117 [lst Zd kids, .fn (.func 30) [] []] h fun v h'=> ∃n:Int,v= I n∧leI 0 n=kids.any anchB∧h'=h:=by
 refine Zu UK (fn:=Tryz.f117) (Zl UK 19 ZCz rfl ?_)
 refine⟨rfl,ZL [0,1,7,8] [0,1,4,7,8] (fun m vs g=> ∃i:Nat,vs= [lst Zd kids, .fn (.func 30) [] [],I kids.length,I (i:Nat)]∧i<=kids.length∧m=kids.length-i∧(kids.take i).any anchB=false∧g=h) kids.length Zy ⟨0,rfl,by omega,by omega,by simp,rfl⟩ ?_⟩
 rintro m vs g ⟨i,rfl,hi,rfl,ha,rfl⟩
 refine Zs UK ZC0 rfl ?_
 refine Zm (fun hlt=> ?_) (fun hge=> ?_)
 ·have hc:=ih kids[i] (qe hlt)
  have hrow:=Jp hlt
  have hsn:(kids.take (i+1)).any anchB=anchB kids[i]:=by rw[qa hlt,List.any_append,ha];simp
  have hmem:anchB kids[i]=true->kids.any anchB=true:=fun e=>List.any_eq_true.2 ⟨_,qe hlt,e⟩
  generalize kids[i]=x at hc hrow hsn hmem
  obtain⟨xk,xs,xl,xlo,xhi,xn⟩:=x
  rw[Zp]at hc hrow
  refine⟨Zz hlt,_,_,_,_,_,_,_,_,_,_,_,hrow,_,hc,Zg (fun hb=> ?_) (fun hb=> ?_)⟩
  ·exact Xv (.inr rfl) rfl (AfterZ.now ⟨_,rfl,by rw[hmem hb];simp[leI],rfl⟩)
  ·exact⟨rfl,kids.length-(i+1),by omega,i+1,by rw[Zh (by omega)];rfl,by omega,rfl,by rw[hsn,hb],rfl⟩
 ·have he:i=kids.length:=by omega
  subst he
  rw[qm]at ha
  refine Zi [] ?_
  refine Zn UK ZC1 rfl ?_
  exact finC (.inr rfl) rfl (.now ⟨-1,rfl,by rw[ha];rfl,rfl⟩)

structure AX(r:Re):Prop where
 c:PCon UY 30 [.agg (Zd r)] (· = .b (anchB r))
theorem Zuo{B:Nat}(hB:B<2 ^ 20){k:Int}{s:S4}{kids:List Re}{lo hi n:Int}(hl:kids.length<=B)(ih: ∀x∈kids,PCon UY 30 [.agg (Zd x)] (· = .b (anchB x))):PCon UY 30 [.agg (Zd (.mk k s kids lo hi n))] (· = .b (anchB (.mk k s kids lo hi n))):=by
 rw[Zp,anchB,Zas]
 refine Zt UK (fn:=Tryz.f30) rfl ZIm rfl ?_
 refine Zg (fun h2=>Zv (.inr rfl) rfl (.b _) (by rw[h2];rfl)) (fun h2=>Zg (fun h3=>Zv (.inr rfl) rfl (.b _) (by rw[h2,h3];rfl)) (fun h3=> ?_))
 have c70:Con UY 70 [lst Zd kids, .fn (.func 30) [] []] .empty fun v h'=>v= .b (kids.any anchB):=by
  refine Zu UK (fn:=Tryz.f70) (Zn UK ZIr rfl ?_)
  exact(ZC2 hB hl ih .empty).mono fun v h' ⟨m,hv,hm,_⟩=>⟨m,hv,finC (.inr rfl) rfl (.now (by rw[hm];rfl))⟩
 exact c70.mono fun v h' hv=>⟨_,hv,Zv (.inr rfl) rfl (.b _) (by rw[h2,h3];rfl)⟩
mutual
theorem Zwt{B:Nat}(hB:B<2 ^ 20): ∀r:Re,wfRe B r->AX r
 | .mk k s kids lo hi n,h=>by
  rw[wfRe]at h
  have ih:=Zq9 hB kids h.2.2.2
  exact⟨Zuo hB h.2.2.1 fun x hx=>(ih x hx).c⟩
theorem Zq9{B:Nat}(hB:B<2 ^ 20): ∀l:List Re,wfRe.wfRes B l-> ∀x∈l,AX x
 | [],_,x,hx=>by cases hx
 |r::l,h,x,hx=>by
  rw[wfRe.wfRes]at h
  have h1:=Zwt hB r h.1
  have h2:=Zq9 hB l h.2
  rcases qu.1 hx with e|hx
  ·rw[e];exact h1
  ·exact h2 x hx
end

/-! ### Spots -/
theorem Zff(x:Re): ∀(l:List Re) (n:Nat),spotN.spots (l++ [x]) n=min (spotN.spots l n+spotN x) 301
 | [],n=>by rw[qy,spotN.spots,spotN.spots,spotN.spots]
 |r::l,n=>by rw[qs,spotN.spots,Zff x l,spotN.spots]
structure SX(r:Re):Prop where
 c:PCon UY 31 [.agg (Zd r)] (· = I (spotN r:Nat))
theorem minV(a b:Nat):((fun(x y:Int)=>if y<x then y else x) (a:Int) (b:Int))=((min a b:Nat):Int):=by
 show(if(b:Int)<a then(b:Int)else a)=_
 split<;>omega
theorem Zup{B:Nat}(hB:B<2 ^ 20){k:Int}{s:S4}{kids:List Re}{lo hi n:Int}(hwf:wfRe B (.mk k s kids lo hi n))(ih: ∀x∈kids,PCon UY 31 [.agg (Zd x)] (· = I (spotN x:Nat))):PCon UY 31 [.agg (Zd (.mk k s kids lo hi n))] (· = I (spotN (.mk k s kids lo hi n):Nat)):=by
  have hw:=hwf
  rw[wfRe]at hw
  obtain⟨h1,h2,h3,h4⟩:=hw
  have h6:k=6->PCon UY 71 [.agg (Zd (.mk k s kids lo hi n))] (· = I (Xw lo hi:Nat))∧Xw lo hi<=8:=fun e=>by
    obtain⟨g1,g2,g3,g4⟩:=h1 e
    exact⟨Zi6 k s kids lo hi n g1,Zgx g2 (by omega)⟩
  have sb: ∀i m,m<=301->spotN.spots (kids.take i) m<=301:=fun i m hm=>(Zdm (kids.take i) (WX h4 i) m hm).1
  rw[Zp]at h6 ⊢
  refine ZE UK (fn:=Tryz.f31) rfl ?_
  refine Zl UK 33 ZIj rfl ?_
  have main: ∀n0:Nat,n0=(if k=1 then 1 else 0)->PreV UY 33 [1,3,12,13,14] (post (flat (Za Tryz.f31))) (FinS UY Tryz.f31 fun v h=> ∃r,Frz h v r∧r= I (spotN (.mk k s kids lo hi n):Nat)) .normal 33 [.lb [I k,U s.1,U s.2.1,U s.2.2.1,U s.2.2.2,lst Zd kids,I lo,I hi,I n],I (n0:Nat),lst Zd kids,I kids.length,I 0] .empty:=by
    intro n0 hn0
    have hn1:n0<=301:=by rw[hn0];split<;>omega
    refine⟨rfl,ZL [1,3,12,13,14] [1,3,12,13,14] (fun m vs g=> ∃i:Nat,vs= [.lb [I k,U s.1,U s.2.1,U s.2.2.1,U s.2.2.2,lst Zd kids,I lo,I hi,I n],I (spotN.spots (kids.take i) n0:Nat),lst Zd kids,I kids.length,I (i:Nat)]∧i<=kids.length∧m=kids.length-i) kids.length Zy ⟨0,by rw[List.take_zero,spotN.spots];rfl,by omega,by omega⟩ ?_⟩
    rintro m vs g ⟨i,rfl,hle,rfl⟩
    refine Zs UK ZIk rfl ?_
    refine Zm (fun hlt=> ?_) (fun hge=> ?_)
    · have hc:=ih kids[i] (qe hlt)
      have hrow:=Jp hlt
      have hx:=(Zcl kids[i] (Zbn h4 _ (qe hlt))).1
      have hsn:spotN.spots (kids.take (i+1)) n0=min (spotN.spots (kids.take i) n0+spotN kids[i]) 301:=by rw[qa hlt,Zff]
      have hsb:=sb i n0 hn1
      generalize kids[i]=x at hc hrow hx hsn
      obtain⟨xk,xs,xl,xlo,xhi,xn⟩:=x
      rw[Zp]at hc hrow
      refine⟨Zz hlt,_,_,_,_,_,_,_,_,_,_,_,hrow,_,hc,rfl,kids.length-(i+1),by omega,i+1,?_,by omega,rfl⟩
      rw[Zh (by omega),hsn,ZG (n:=((spotN.spots (kids.take i) n0:Nat):Int)+(spotN (.mk xk xs xl xlo xhi xn):Nat)) (by omega) (by omega)]
      have:=minV (spotN.spots (kids.take i) n0+spotN (.mk xk xs xl xlo xhi xn)) 301
      rw[<-this];rfl
    · have he:i=kids.length:=by omega
      subst he
      have hsb:=sb kids.length n0 hn1
      rw[qm]at hsb ⊢
      refine Zi [1,3] ?_
      refine Zn UK ZIl rfl ?_
      refine Zg (fun e=> ?_) (fun e=>Zv (.inr rfl) rfl (.i _ _) ?_)
      · have e:k=6:=by simpa using e
        obtain⟨c6,t6⟩:=h6 e
        refine⟨_,c6,Zv (.inr rfl) rfl (.i _ _) ?_⟩
        have hb:spotN.spots kids n0*Xw lo hi<=301*8:=Nat.mul_le_mul hsb t6
        have ew:IntKind.i64.wrap (((spotN.spots kids n0:Nat):Int)*((Xw lo hi:Nat):Int))=((spotN.spots kids n0*Xw lo hi:Nat):Int):=by
          rw[ZG (by have:(0:Int)<=((spotN.spots kids n0*Xw lo hi:Nat):Int):=by omega
                    rw[<-Int.natCast_mul];omega) (by rw[<-Int.natCast_mul];omega),Int.natCast_mul]
        rw[ew,spotN,if_pos e]
        have:=minV (spotN.spots kids n0*Xw lo hi) 301
        rw[<-hn0,<-this];rfl
      · have e:k≠6:=by simpa using e
        rw[spotN,if_neg e]
        have:=minV (spotN.spots kids n0) 301
        rw[<-hn0,<-this];rfl
  exact Zg (fun e=>main 1 (by rw[if_pos (by simpa using e)])) (fun e=>main 0 (by rw[if_neg (by simpa using e)]))
mutual
theorem Zwu{B:Nat}(hB:B<2 ^ 20): ∀r:Re,wfRe B r->SX r
 | .mk k s kids lo hi n,h=>by
  have hw:=h
  rw[wfRe]at hw
  have ih:=Zra hB kids hw.2.2.2
  exact⟨Zup hB h fun x hx=>(ih x hx).c⟩
theorem Zra{B:Nat}(hB:B<2 ^ 20): ∀l:List Re,wfRe.wfRes B l-> ∀x∈l,SX x
 | [],_,x,hx=>by cases hx
 |r::l,h,x,hx=>by
  rw[wfRe.wfRes]at h
  have h1:=Zwu hB r h.1
  have h2:=Zra hB l h.2
  rcases qu.1 hx with e|hx
  ·rw[e];exact h1
  ·exact h2 x hx
end
theorem ZIt{k s0 s1 s2 s3 kc kn lo hi gn h}(K):CP UY 29 (flat (Za Tryz.f29)) (.agg (R9 k s0 s1 s2 s3 kc kn none lo hi gn)::Rp 11) h [2] K=(∃a c,(PCon UY 69 [.agg (R9 k s0 s1 s2 s3 kc kn none lo hi gn)] fun v=>v=.tup [.s a,I c])∧K .ret 12 [.b (c==(0:Int))] h):=by kernel_rfl
theorem ZIu{k s0 s1 s2 s3 kc kn lo hi gn h}(K):CP UY 69 (flat (Za Tryz.f69)) (.agg (R9 k s0 s1 s2 s3 kc kn none lo hi gn)::Rp 13) h [2,3] K=(Con UY 113 [.p (some (h.nx,0)),.agg (R9 k s0 s1 s2 s3 kc kn none lo hi gn),I 0,I 0] (h.pushT (UY.tag (178:Nat)) (YObj.arr [I 0] true)) fun(v:V) (h':Heap)=> ∃a,v=.b a∧If (!a) (K .ret 14 [.s #[].toList,I 5] h') (Con UY 114 [.p (some (h'.nx,0)),.agg (R9 k s0 s1 s2 s3 kc kn none lo hi gn)] (h'.pushT (UY.tag (182:Nat)) (YObj.arr [.p none,S none (0:Nat) (some (0:Nat)) (0:Nat)] true)) fun(v:V) (h'_1:Heap)=>v=.tup []∧ ∃b,RCon UY (115:Nat) [.p (some (h'.nx,0))] h'_1 (I b)∧If (ltI 200 b) (K .ret 14 [.s #[].toList,I 2] h'_1) (Con UY 116 [.p (some (h'.nx,0))] h'_1 fun(v:V) (h':Heap)=> ∃c,v=.s c∧K .ret 14 [.s c,I 0] h'))):=by kernel_rfl
theorem ZC3{id k s0 s1 s2 s3 kc kn lo hi gn lv dp h}(K):CP UY 113 (flat (Za Tryz.f113)) (.p (some (id,0))::.agg (R9 k s0 s1 s2 s3 kc kn none lo hi gn)::I lv::I dp::Rp 123) h [8] K=(∃a,(PCon UY 143 [.agg (R9 k s0 s1 s2 s3 kc kn none lo hi gn)] fun v=>v=.b a)∧If (!a) (K .ret 127 [.b false] h) (If (k==(0:Int)) (If (leI lv 1) (K .ret 127 [.b ((↑kn:Int)==(0:Int))] h) (K .ret 127 [.b false] h)) (If (k==(1:Int)) (K .ret 127 [.b ((↑kn:Int)==(0:Int))] h) ((fun P2=>If (k==(2:Int)) P2 (If (k==(3:Int)) P2 (If (k==(4:Int)) (If (leI lv 1) (If (ltI 1 kn) (Con UY 144 [.p (some (id,0)),J kc kn none,I 2,I dp] h fun(v:V) (h':Heap)=> ∃b,v=.b b∧K .ret 127 [.b b] h') (K .ret 127 [.b false] h)) (K .ret 127 [.b false] h)) (If (k==(5:Int)) (If (lv==(0:Int)) (If (ltI 1 kn) (Con UY 144 [.p (some (id,0)),J kc kn none,I 1,I dp] h fun(v:V) (h':Heap)=> ∃b,v=.b b∧K .ret 127 [.b b] h') (K .ret 127 [.b false] h)) (K .ret 127 [.b false] h)) (If (k==(6:Int)) ((fun P1=>If (leI 0 lo) (If (leI lo 8) ((fun P0=>If (hi==(-1:Int)) (If (leI lv 2) P0 (K .ret 127 [.b false] h)) (If (leI lo hi) (If (leI lv 2) (If (leI hi 8) P0 (K .ret 127 [.b false] h)) (K .ret 127 [.b false] h)) P1)) (If ((↑kn:Int)==(1:Int)) (Con UY 144 [.p (some (id,0)),J kc kn none,I 3,I dp] h fun(v:V) (h':Heap)=> ∃b,v=.b b∧K .ret 127 [.b b] h') (K .ret 127 [.b false] h))) P1) P1) (If (leI lv 2) (K .ret 127 [.b false] h) (K .ret 127 [.b false] h))) (If (k==(7:Int)) (Con UY 145 [.p (some (id,0)),.agg (R9 k s0 s1 s2 s3 kc kn none lo hi gn),I dp] h fun(v:V) (h':Heap)=> ∃b,v=.b b∧K .ret 127 [.b b] h') (K .ret 127 [.b false] h))))))) (If (leI lv 2) (K .ret 127 [.b ((↑kn:Int)==(0:Int))] h) (K .ret 127 [.b false] h)))))):=by kernel_rfl
theorem ZC4{k s0 s1 s2 s3 kc kn lo hi gn h}(K):CP UY 143 (flat (Za Tryz.f143)) (.agg (R9 k s0 s1 s2 s3 kc kn none lo hi gn)::Rp 36) h [2] K=((fun P0=>If (k==(1:Int)) P0 (If (s0==(0:Int)&&(s1==(0:Int)&&(s2==(0:Int)&&(s3==(0:Int)&&true)))) P0 (K .ret 37 [.b false] h))) ((fun P1=>If (k==(6:Int)) P1 (If (lo==(0:Int)) (If (hi==(0:Int)) P1 (K .ret 37 [.b false] h)) (K .ret 37 [.b false] h))) (If (k==(7:Int)) (K .ret 37 [.b true] h) (K .ret 37 [.b (gn==(0:Int))] h)))):=by kernel_rfl
theorem ZC5{id c n lv dp h}(K):CP UY 144 (pre (flat (Za Tryz.f144))) (.p (some (id,0))::J c n none::I lv::I dp::Rp 20) h [0,2,3,11,12,13] K=(K .normal 24 [.p (some (id,0)),I lv,I dp,J c n none,I (n:Int),I 0] h):=by kernel_rfl
theorem ZC6{id c n lv dp a h}(K):CP UY 144 (flat (Zx (post (flat (Za Tryz.f144))))) (MZ 24 [0,2,3,11,12,13] [.p (some (id,0)),I lv,I dp,J c n none,I (n:Int),I a]) h [0,2,3,8,11,12,13] K=(If (ltI a n) ((0<=a∧a<n)∧ ∃b d e f g i j l m o q,Zo 9 (List.drop (a.toNat*9) c)=some (R9 b d e f g i j l m o q)∧Con UY 113 [.p (some (id,0)),.agg (R9 b d e f g i j l m o q),I lv,I dp] h fun(v:V) (h':Heap)=> ∃r,v=.b r∧If (!r) (K .ret 24 [.p (some (id,0)),I lv,I dp, .b false,J c n none,I (n:Int),I a] h') (K .normal 24 [.p (some (id,0)),I lv,I dp,Ud,J c n none,I (n:Int),I (IntKind.i64.wrap (a+(1:Int)))] h')) (K (.exit 0) 24 [.p (some (id,0)),I lv,I dp,Ud,J c n none,I (n:Int),I a] h)):=by kernel_rfl
theorem ZC7{h}(K):CP UY 144 ((post (flat (Za Tryz.f144))).drop 1) (MZ 24 [] []) h [8] K=(K .ret 24 [.b true] h):=by kernel_rfl
theorem ZC8{id k s0 s1 s2 s3 kc kn lo hi gn dp h}(K):CP UY 145 (flat (Za Tryz.f145)) (.p (some (id,0))::.agg (R9 k s0 s1 s2 s3 kc kn none lo hi gn)::I dp::Rp 40) h [6] K=(∃a,Zb h id 0 1=some [I a]∧ ∃b,Zj h id 0 [I (IntKind.i64.wrap (a+(1:Int)))]=some b∧ ∃c,(fun P0=>Zb b id 0 1=some [I c]∧If (ltI 9 c) (If (gn==(0:Int)) P0 (K .ret 43 [.b false] b)) (If (gn==c) P0 (K .ret 43 [.b false] b))) (If (ltI dp 64) (If ((↑kn:Int)==(1:Int)) (Con UY 144 [.p (some (id,0)),J kc kn none,I 0,I (IntKind.i64.wrap (dp+(1:Int)))] b fun(v:V) (h':Heap)=> ∃d,v=.b d∧K .ret 43 [.b d] h') (K .ret 43 [.b false] b)) (K .ret 43 [.b false] b))):=by kernel_rfl
def Zeq(k:Int)(s:S4)(lo hi gn:Int):Bool:=(k==1||(s.1==0&&(s.2.1==0&&(s.2.2.1==0&&(s.2.2.2==0&&true)))))&&(k==6||(lo==0&&hi==0))&&(k==7||gn==0)
abbrev XS(x:Int):Int:=IntKind.i64.wrap x
def rightF:Re->Int->Int->Int->Option Int
 | .mk k s kids lo hi n,lv,dp,g=>
  if Zeq k s lo hi n=false then none
  else if k=0 then(if leI lv 1&&((kids.length:Nat):Int)==0 then some g else none)
  else if k=1 then(if((kids.length:Nat):Int)==0 then some g else none)
  else if k=2∨k=3 then(if leI lv 2&&((kids.length:Nat):Int)==0 then some g else none)
  else if k=4 then(if leI lv 1&&ltI 1 kids.length then kidsF kids 2 dp g else none)
  else if k=5 then(if lv==0&&ltI 1 kids.length then kidsF kids 1 dp g else none)
  else if k=6 then(if leI 0 lo&&leI lo 8&&(hi== -1||(leI lo hi&&leI hi 8))&&leI lv 2&&((kids.length:Nat):Int)==1 then kidsF kids 3 dp g else none)
  else if k=7 then(if(n==if ltI 9 (XS (g+1))then 0 else XS (g+1))&&ltI dp 64&&((kids.length:Nat):Int)==1 then kidsF kids 0 (XS (dp+1)) (XS (g+1))else none)
  else none
where
 kidsF:List Re->Int->Int->Int->Option Int
  | [],_,_,g=>some g
  |r::l,lv,dp,g=>match rightF r lv dp g with
   |none=>none
   |some g'=>kidsF l lv dp g'

abbrev JH(h:Heap)(id:Nat)(g:Int):Prop:=h.get id=some (.arr [I g] true)
def JP(id:Nat)(o:Option Int)(v:V)(h':Heap):Prop:=v= .b o.isSome∧ ∀g,o=some g->JH h' id g
structure JR(r:Re):Prop where
 c: ∀(lv dp g:Int) (h:Heap) (id:Nat),JH h id g->Con UY 113 [.p (some (id,0)), .agg (Zd r),I lv,I dp] h (JP id (rightF r lv dp g))

theorem Zuq{B:Nat}(hB:B<2 ^ 20)(k:Int)(s:S4)(kids:List Re)(lo hi gn:Int):PCon UY 143 [.agg (Zd (.mk k s kids lo hi gn))] (· = .b (Zeq k s lo hi gn)):=by
 rw[Zp]
 refine Zt UK (fn:=Tryz.f143) rfl ZC4 rfl ?_
 unfold Zeq
 generalize (s.1==0&&(s.2.1==0&&(s.2.2.1==0&&(s.2.2.2==0&&true))))=z
 cases k==1<;>cases z<;>cases k==6<;>cases lo==0<;>cases hi==0<;>cases k==7<;>exact Zv (n:=37) (.inr rfl) rfl (.b _) (by simp)

theorem Zms{l:List Re}{i:Nat}(hi:i<l.length):l.drop i=l[i]::l.drop (i+1):=(List.getElem_cons_drop hi).symm
theorem Zmt{B:Nat}(hB:B<2 ^ 20){kids:List Re}(hl:kids.length<=B)(ih: ∀x∈kids,JR x)(lv dp g:Int){h:Heap}{id:Nat}(hj:JH h id g):
  Con UY 144 [.p (some (id,0)),lst Zd kids,I lv,I dp] h (JP id (rightF.kidsF kids lv dp g)):=by
 refine Zu UK (fn:=Tryz.f144) (Zl UK 24 ZC5 rfl ?_)
 refine⟨rfl,ZL [0,2,3,11,12,13] [0,2,3,8,11,12,13] (fun m vs h'=> ∃(i:Nat) (g':Int),vs= [.p (some (id,0)),I lv,I dp,lst Zd kids,I kids.length,I (i:Nat)]∧i<=kids.length∧m=kids.length-i∧JH h' id g'∧rightF.kidsF kids lv dp g=rightF.kidsF (kids.drop i) lv dp g') kids.length Zy ⟨0,g,rfl,by omega,by omega,hj,rfl⟩ ?_⟩
 rintro m vs h' ⟨i,g',rfl,hi,rfl,hj',he⟩
 refine Zs UK ZC6 rfl ?_
 refine Zm (fun hlt=> ?_) (fun hge=> ?_)
 ·have hc:=(ih kids[i] (qe hlt)).c lv dp g' h' id hj'
  have hrow:=Jp hlt
  rw[Zms hlt,rightF.kidsF]at he
  generalize kids[i]=x at hc hrow he
  obtain⟨xk,xs,xl,xlo,xhi,xn⟩:=x
  rw[Zp]at hc hrow
  generalize rightF (.mk xk xs xl xlo xhi xn) lv dp g'=o at hc he
  refine⟨Zz hlt,_,_,_,_,_,_,_,_,_,_,_,hrow,hc.mono fun v h2 ⟨e1,e2⟩=>⟨_,e1,Zg (fun hb=> ?_) (fun hb=> ?_)⟩⟩
  ·have ho:o=none:=by cases o with
    |none=>rfl
    |some y=>cases hb
   subst ho
   exact Xv (.inr rfl) rfl (AfterZ.now ⟨by rw[he];rfl,fun y hy=>by rw[he]at hy;cases hy⟩)
  ·cases o with
   |none=>cases hb
   |some y=>exact⟨rfl,kids.length-(i+1),by omega,i+1,y,by rw[Zh (by omega)];rfl,by omega,rfl,e2 y rfl,he⟩
 ·have hi':i=kids.length:=by omega
  subst hi'
  rw[List.drop_length,rightF.kidsF]at he
  refine Zi [] ?_
  refine Zn UK ZC7 rfl ?_
  exact finC (.inr rfl) rfl (.now ⟨by rw[he];rfl,fun y hy=>by rw[he]at hy;cases hy;exact hj'⟩)
theorem Qw{id:Nat}{h:Heap}{b:Bool}(hb:b=false):JP id none (.b b) h:=⟨by rw[hb];rfl,fun _ e=>by cases e⟩
theorem Zur{id:Nat}{h:Heap}{g:Int}(hj:JH h id g)(b:Bool):JP id (if b=true then some g else none) (.b b) h:=by
 cases b
 ·exact Qw rfl
 ·exact⟨rfl,fun y e=>by cases e;exact hj⟩
theorem Zrb{B:Nat}(hB:B<2 ^ 20){k:Int}{s:S4}{kids:List Re}{lo hi n:Int}(hl:kids.length<=B)(ih: ∀x∈kids,JR x)(dp g:Int){h:Heap}{id:Nat}(hj:JH h id g):
  Con UY 145 [.p (some (id,0)), .agg (Zd (.mk k s kids lo hi n)),I dp] h (JP id (if(n==if ltI 9 (XS (g+1))then 0 else XS (g+1))&&ltI dp 64&&((kids.length:Nat):Int)==1 then rightF.kidsF kids 0 (XS (dp+1)) (XS (g+1))else none)):=by
 rw[Zp]
 refine Zu UK (fn:=Tryz.f145) (Zn UK ZC8 rfl ?_)
 have hc:Zb h id 0 1=some [I g]:=by rw[Zr hj];rfl
 have hg2:JH (h.set id (some (.arr [I (XS (g+1))] true))) id (XS (g+1)):=by rw[JH,qc,if_pos rfl]
 refine⟨g,hc,h.set id (some (.arr [I (XS (g+1))] true)),by simp[Zj,hj,splice,XS],XS (g+1),by rw[Zr hg2];rfl,?_⟩
 have hk:=Zmt hB hl ih 0 (XS (dp+1)) (XS (g+1)) hg2
 have no: ∀ {b:Bool},b=false->Fin UY Tryz.f145 [6] (AfterZ (JP id (if b=true then rightF.kidsF kids 0 (XS (dp+1)) (XS (g+1))else none))) .ret 43 [.b false] (h.set id (some (.arr [I (XS (g+1))] true))):=fun hb=>by
  subst hb
  exact finC (.inr rfl) rfl (.now (Qw rfl))
 have yes: ∀ {b:Bool},b=true->Con UY 144 [.p (some (id,0)),lst Zd kids,I 0,I (XS (dp+1))] (h.set id (some (.arr [I (XS (g+1))] true))) fun v h'=> ∃b',v= .b b'∧Fin UY Tryz.f145 [6] (AfterZ (JP id (if b=true then rightF.kidsF kids 0 (XS (dp+1)) (XS (g+1))else none))) .ret 43 [.b b'] h':=fun hb=>by
  subst hb
  exact hk.mono fun v h' ⟨e1,e2⟩=>⟨_,e1,finC (.inr rfl) rfl (.now ⟨rfl,e2⟩)⟩
 refine Zg (fun q9=> ?_) (fun q9=> ?_)<;>rw[q9]
 ·refine Zg (fun qn=>Zg (fun qd=>Zg (fun q1=>yes ?_) (fun q1=>no ?_)) (fun qd=>no ?_)) (fun qn=>no ?_)
  all_goals simp_all
 ·refine Zg (fun qn=>Zg (fun qd=>Zg (fun q1=>yes ?_) (fun q1=>no ?_)) (fun qd=>no ?_)) (fun qn=>no ?_)
  all_goals simp_all

theorem Zrc{B:Nat}(hB:B<2 ^ 20){k:Int}{s:S4}{kids:List Re}{lo hi n:Int}(hl:kids.length<=B)(ih: ∀x∈kids,JR x):JR (.mk k s kids lo hi n):=by
  refine⟨fun lv dp g h id hj=> ?_⟩
  have hbc:=Zuq hB k s kids lo hi n
  have hgc:=Zrb hB (k:=k) (s:=s) (lo:=lo) (hi:=hi) (n:=n) hl ih dp g hj
  rw[Zp]at hbc hgc ⊢
  rw[rightF]
  refine Zu UK (fn:=Tryz.f113) (Zn UK ZC3 rfl ?_)
  refine⟨_,hbc,?_⟩
  generalize Zeq k s lo hi n=bb
  have fin: ∀ {o:Option Int} {b:Bool},JP id o (.b b) h->Fin UY Tryz.f113 [8] (AfterZ (JP id o)) .ret 127 [.b b] h:=fun hp=>finC (.inr rfl) rfl (.now hp)
  have kid: ∀(l:Int),Con UY 144 [.p (some (id,0)),lst Zd kids,I l,I dp] h fun v h'=> ∃b',v= .b b'∧Fin UY Tryz.f113 [8] (AfterZ (JP id (rightF.kidsF kids l dp g))) .ret 127 [.b b'] h':=fun l=>
    (Zmt hB hl ih l dp g hj).mono fun v h' ⟨e1,e2⟩=>⟨_,e1,finC (.inr rfl) rfl (.now ⟨rfl,e2⟩)⟩
  refine Zg (fun hb=> ?_) (fun hb=> ?_)
  · have hb:bb=false:=by simpa using hb
    rw[if_pos hb]
    exact fin (Qw rfl)
  have hb:bb=true:=by simpa using hb
  rw[if_neg (by simp[hb])]
  clear hb hbc
  have kk: ∀ {x:Int} {b:Bool},(k==x)=b->(b=true↔k=x):=fun e=>by rw[<-e];simp
  refine Zg (fun k0=> ?_) (fun k0=> ?_)
  · rw[if_pos ((kk k0).1 rfl)]
    refine Zg (fun h1=> ?_) (fun h1=> ?_)<;>rw[h1]
    · exact fin (Zur hj _)
    · exact fin (Qw rfl)
  rw[if_neg (fun e=>by cases(kk k0).2 e)]
  refine Zg (fun k1=> ?_) (fun k1=> ?_)
  · rw[if_pos ((kk k1).1 rfl)]
    exact fin (Zur hj _)
  rw[if_neg (fun e=>by cases(kk k1).2 e)]
  refine Zg (fun k2=> ?_) (fun k2=> ?_)
  · rw[if_pos (.inl ((kk k2).1 rfl))]
    refine Zg (fun h1=> ?_) (fun h1=> ?_)<;>rw[h1]
    · exact fin (Zur hj _)
    · exact fin (Qw rfl)
  refine Zg (fun k3=> ?_) (fun k3=> ?_)
  · rw[if_pos (.inr ((kk k3).1 rfl))]
    refine Zg (fun h1=> ?_) (fun h1=> ?_)<;>rw[h1]
    · exact fin (Zur hj _)
    · exact fin (Qw rfl)
  rw[if_neg (fun e=>by rcases e with e|e; · cases(kk k2).2 e
                       · cases(kk k3).2 e)]
  refine Zg (fun k4=> ?_) (fun k4=> ?_)
  · rw[if_pos ((kk k4).1 rfl)]
    refine Zg (fun h1=> ?_) (fun h1=> ?_)<;>rw[h1]
    · refine Zg (fun h2=> ?_) (fun h2=> ?_)<;>rw[h2]
      · exact kid 2
      · exact fin (Qw rfl)
    · exact fin (Qw rfl)
  rw[if_neg (fun e=>by cases(kk k4).2 e)]
  refine Zg (fun k5=> ?_) (fun k5=> ?_)
  · rw[if_pos ((kk k5).1 rfl)]
    refine Zg (fun h1=> ?_) (fun h1=> ?_)<;>rw[h1]
    · refine Zg (fun h2=> ?_) (fun h2=> ?_)<;>rw[h2]
      · exact kid 1
      · exact fin (Qw rfl)
    · exact fin (Qw rfl)
  rw[if_neg (fun e=>by cases(kk k5).2 e)]
  refine Zg (fun k6=> ?_) (fun k6=> ?_)
  · rw[if_pos ((kk k6).1 rfl)]
    have no:Fin UY Tryz.f113 [8] (AfterZ (JP id none)) .ret 127 [.b false] h:=fin (Qw rfl)
    refine Zg (fun h1=> ?_) (fun h1=> ?_)<;>rw[h1]
    · refine Zg (fun h2=> ?_) (fun h2=> ?_)<;>rw[h2]
      · refine Zg (fun h3=> ?_) (fun h3=> ?_)<;>rw[h3]
        · refine Zg (fun h4=> ?_) (fun h4=> ?_)<;>rw[h4]
          · refine Zg (fun h5=> ?_) (fun h5=> ?_)<;>rw[h5]
            · exact kid 3
            · exact no
          · exact no
        · refine Zg (fun h4=> ?_) (fun h4=> ?_)<;>rw[h4]
          · refine Zg (fun h5=> ?_) (fun h5=> ?_)<;>rw[h5]
            · refine Zg (fun h6=> ?_) (fun h6=> ?_)<;>rw[h6]
              · refine Zg (fun h7=> ?_) (fun h7=> ?_)<;>rw[h7]
                · exact kid 3
                · exact no
              · exact no
            · rw[Bool.and_false];exact no
          · refine Zg (fun h5=> ?_) (fun h5=> ?_)<;>rw[h5]<;>exact no
      · refine Zg (fun h5=> ?_) (fun h5=> ?_)<;>rw[h5]<;>exact no
    · refine Zg (fun h5=> ?_) (fun h5=> ?_)<;>rw[h5]<;>exact no
  rw[if_neg (fun e=>by cases(kk k6).2 e)]
  refine Zg (fun k7=> ?_) (fun k7=> ?_)
  · rw[if_pos ((kk k7).1 rfl)]
    exact hgc.mono fun v h' ⟨e1,e2⟩=>⟨_,e1,finC (.inr rfl) rfl (.now ⟨rfl,e2⟩)⟩
  rw[if_neg (fun e=>by cases(kk k7).2 e)]
  exact fin (Qw rfl)

mutual
theorem Zwv{B:Nat}(hB:B<2 ^ 20): ∀r:Re,wfRe B r->JR r
 | .mk k s kids lo hi n,h=>by
  rw[wfRe]at h
  exact Zrc hB h.2.2.1 (Zrd hB kids h.2.2.2)
theorem Zrd{B:Nat}(hB:B<2 ^ 20): ∀l:List Re,wfRe.wfRes B l-> ∀x∈l,JR x
 | [],_,x,hx=>by cases hx
 |r::l,h,x,hx=>by
  rw[wfRe.wfRes]at h
  have h1:=Zwv hB r h.1
  have h2:=Zrd hB l h.2
  rcases qu.1 hx with e|hx
  ·exact e▸h1
  ·exact h2 x hx
end
theorem ZIv{l c d e f g j a m h}(K):CP UY 26 (flat (Za Tryz.f26)) (.agg [J l c none,J d e none,J f g none,J j a none,.b m]::Rp 34) h [2] K=(∃i,Zj (h.pushT (UY.tag (3:Nat)) (YObj.arr [I 0] true)) h.nx 0 [I (c:Int)]=some i∧ ∃n,Zb i h.nx 0 1=some [I n]∧If (ltI 300 n) (K .ret 35 [.b false] i) (∃o,Zb i h.nx 0 1=some [I o]∧If ((↑a:Int) !=o) (K .ret 35 [.b false] i) (∃q,Zb i h.nx 0 1=some [I q]∧ ∃r,(PCon UY 64 [J d e none,I q] fun(v:V)=>v=.b r)∧If (!r) (K .ret 35 [.b false] i) (∃s,Zb i h.nx 0 1=some [I s]∧ ∃t,(PCon UY 64 [J f g none,I s] fun(v:V)=>v=.b t)∧If (!t) (K .ret 35 [.b false] i) (Con UY 65 [J j a none,V.fn (Fn.func (66:Nat)) [] [.p (some (h.nx,0))]] i fun(v:V) (h':Heap)=> ∃u,v=.b u∧K .ret 35 [.b !u] h'))))):=by kernel_rfl
theorem ZIw(a n0 x1 h K):CP UY 64 (pre (flat (Za Tryz.f64))) (J a n0 none::I x1::Rp 33) h [0,1,2,7,8,9] K=(K .normal 35 [J a n0 none,I x1,Ud,J a n0 none,I (n0:Int),I 0] h):=by kernel_rfl
theorem ZIx(a n0 x1 x9 h K):CP UY 64 (flat (Zx (post (flat (Za Tryz.f64))))) (MZ 35 [0,1,2,7,8,9] [J a n0 none,I x1,V.undef,J a n0 none,I (n0:Int),I x9]) h [0,1,2,4,7,8,9] K=(If (ltI x9 n0) ((0<=x9∧x9<n0)∧ ∃c,(fun P0=>Zo 1 (List.drop (x9.toNat*1) a)=some [I c]∧If (ltI c 0) P0 (If (leI x1 c) P0 ((fun P1=>If (ltI 0 x9) (((0:Int)<=IntKind.i64.wrap (x9-(1:Int))∧IntKind.i64.wrap (x9-(1:Int))<(n0:Int))∧ ∃d,Zo 1 (List.drop ((IntKind.i64.wrap (x9-(1:Int))).toNat*1) a)=some [I d]∧If (leI c d) P0 P1) P1) (K .normal 35 [J a n0 none,I x1,Ud,Ud,J a n0 none,I (n0:Int),I (IntKind.i64.wrap (x9+(1:Int)))] h)))) (K .ret 35 [J a n0 none,I x1,Ud, .b false,J a n0 none,I (n0:Int),I x9] h)) (K (.exit 0) 35 [J a n0 none,I x1,Ud,Ud,J a n0 none,I (n0:Int),I x9] h)):=by kernel_rfl
theorem ZIy(h K):CP UY 64 ((post (flat (Za Tryz.f64))).drop 1) (MZ 35 [] []) h [4] K=(K .ret 35 [.b true] h):=by kernel_rfl
end Go.Y
namespace Go.Y
set_option maxRecDepth 1000000
set_option maxHeartbeats 0
section
variable {Y:YP}
def Zbo(n:Nat)(so sl:List Nat)(I:Nat->List V->Heap->Prop)(m id:Nat)(Q:Out->St->Prop)(o:Out)(len:Nat)(vs:List V)(h:Heap):Prop:=
 match o with
 | .normal=>len=n∧ ∃m',m'<m∧ ∃vs',WkE (pick so sl vs) vs'∧I m' vs' h
 | .exit j=>if j=id then AtV so Q .normal len vs h else AtV so Q (.exit j) len vs h
 | .ret=>AtV so Q .ret len vs h

theorem Zre{n:Nat}(sl so:List Nat){σ:St}{l:List Code}{Q:Out->St->Prop}(I:Nat->List V->Heap->Prop)(m0:Nat)(hn:σ.env.length=n)
  (h0: ∃vs',WkE (sl.map fun i=>lv i σ) vs'∧I m0 vs' σ.h)
  (round: ∀m vs h,I m vs h->TriL Y (flat (Zx l)) ⟨mk n (sl.zip vs),[],h⟩ (VQ so (Zbo n so sl I m (Xa l) Q))) (hsub:sl.all so.contains=true:=by rfl) (hl:Zgp l=true:=by kernel_rfl):TriL Y l σ Q:=by
 rw[Ze8 hl]
 refine QH (Zce (fun m τ=>τ.env.length=n∧ ∃vs',WkE (sl.map fun i=>lv i τ) vs'∧I m vs' τ.h) (n:=m0) ⟨hn,h0⟩ ?_)
 rintro m τ ⟨hτ,vs',hw,hI⟩
 have hr:=XG (c:=Zx l) (r:= []) (by rw[qi];exact round m _ _ hI)
 refine(Zad hτ rfl rfl (Zqp (hw.mk sl) hr)).mono ?_
 intro o σ' ho
 cases o with
 |normal=>
  obtain⟨h1,m',h2,vs2,h3,h4⟩:=ho
  exact⟨m',h2,h1,vs2,by rw[QZ hsub rfl];exact h3,h4⟩
 |exit j=>
  have ho:Zbo n so sl I m (Xa l) Q (.exit j) σ'.env.length (so.map fun i=>lv i σ') σ'.h:=ho
  simp only[Zbo]at ho
  by_cases hj:j=Xa l
  ·rw[if_pos hj]at ho
   simp only[if_pos hj]
   exact ho σ' rfl rfl rfl
  ·rw[if_neg hj]at ho
   simp only[if_neg hj]
   exact ho σ' rfl rfl rfl
 |ret=>exact ho σ' rfl rfl rfl
theorem WB{n:Nat}{so sl:List Nat}{I:Nat->List V->Heap->Prop}{m id j:Nat}{Q:Out->St->Prop}{len:Nat}{vs}{h:Heap}(hj:j=id)(hk:AtV so Q .normal len vs h):Zbo n so sl I m id Q (.exit j) len vs h:=by
 simp only[Zbo]
 rw[if_pos hj]
 exact hk
end
end Go.Y
namespace Go.Y
open Go.Proofs
set_option maxRecDepth 1000000
set_option maxHeartbeats 0
theorem Zoj{id k s0 s1 s2 s3 kc kn lo hi gn h}(K):CP UY 32 (pre (flat (Za Tryz.f32))) (.p (some (id,0))::.agg (R9 k s0 s1 s2 s3 kc kn none lo hi gn)::Rp 103) h [0,3,4,5,12,14] K=(K .normal 105 [.p (some (id,0)), .lb (R9 k s0 s1 s2 s3 kc kn none lo hi gn), .lb [S0,S0, .b false], .lb [S0,S0, .b true], .agg [S0,S0, .b true],I k] h):=by kernel_rfl
theorem Zok{id k s0 s1 s2 s3 kc kn lo hi gn h}(K):CP UY 32 (pre (flat (Xj (post (flat (Za Tryz.f32)))))) (MZ 105 [0,3,4,5,12,14] [.p (some (id,0)),.lb (R9 k s0 s1 s2 s3 kc kn none lo hi gn),.lb [S0,S0,.b false],.lb [S0,S0,.b true],.agg [S0,S0,.b true],I k]) h [0,3,4,5,12,14,15] K=(K .normal 105 [.p (some (id,0)), .lb (R9 k s0 s1 s2 s3 kc kn none lo hi gn), .lb [S0,S0, .b false], .lb [S0,S0, .b true], .agg [S0,S0, .b true],I k, .b (k==(1:Int))] h):=by kernel_rfl
theorem ZIz{id k s0 s1 s2 s3 kc kn lo hi gn h}(K):CP UY 32 (flat (Zdh (post (flat (Xj (post (flat (Za Tryz.f32)))))))) (MZ 105 [0,3,4,5,12,14,15] [.p (some (id,0)),.lb (R9 k s0 s1 s2 s3 kc kn none lo hi gn),.lb [S0,S0,.b false],.lb [S0,S0,.b true],.agg [S0,S0,.b true],I k,.b true]) h [4,5] K=(∃a c d e,Zb h id 0 1=some [S a c d e]∧ ∃f g i j,Zb h id 0 1=some [S f g i j]∧ ∃l m n o q,Zf UY h 31 31 (S f g i j) (J [U s0,U s1,U s2,U s3] 1 (some 1))=some (S l m n o,q)∧ ∃r,Zj q id 0 [S l m n o]=some r∧ ∃s t u v,Zb r id 3 1=some [S s t u v]∧ ∃w x y z a0,Zf UY r 33 33 (S s t u v) (J [S0] 1 (some 1))=some (S w x y z,a0)∧ ∃a1,Zj a0 id 3 [S w x y z]=some a1∧K .ret 105 [.lb [J [I (c:Int)] 1 (some 1),J [I (c:Int)] 1 (some 1), .b false], .lb [S0,S0, .b true]] a1):=by kernel_rfl
theorem Zrf{id k s0 s1 s2 s3 kc kn lo hi gn h}(K):CP UY 32 (pre (flat (Vc (post (flat (Xj (post (flat (Za Tryz.f32))))))))) (MZ 105 [0,3,4,5,12,14,15] [.p (some (id,0)),.lb (R9 k s0 s1 s2 s3 kc kn none lo hi gn),.lb [S0,S0,.b false],.lb [S0,S0,.b true],.agg [S0,S0,.b true],I k,.b false]) h [0,3,4,5,12,14,51] K=(K .normal 105 [.p (some (id,0)), .lb (R9 k s0 s1 s2 s3 kc kn none lo hi gn), .lb [S0,S0, .b false], .lb [S0,S0, .b true], .agg [S0,S0, .b true],I k, .b (k==(5:Int))] h):=by kernel_rfl
theorem ZI0{id k s0 s1 s2 s3 kc kn lo hi gn h}(K):CP UY 32 (pre (flat (Zdh (post (flat (Vc (post (flat (Xj (post (flat (Za Tryz.f32)))))))))))) (MZ 105 [0,3,4,5,12,14,51] [.p (some (id,0)),.lb (R9 k s0 s1 s2 s3 kc kn none lo hi gn),.lb [S0,S0,.b false],.lb [S0,S0,.b true],.agg [S0,S0,.b true],I k,.b true]) h [0,4,5,12,55,56,57] K=(K .normal 105 [.p (some (id,0)), .lb [S0,S0, .b false], .lb [S0,S0, .b false], .agg [S0,S0, .b true],J kc kn none,I (kn:Int),I 0] h):=by kernel_rfl
theorem ZI1{id kc kn d e f g j a h}(K):CP UY 32 (flat (Zx (post (flat (Zdh (post (flat (Vc (post (flat (Xj (post (flat (Za Tryz.f32)))))))))))))) (MZ 105 [0,4,5,12,55,56,57] [.p (some (id,0)),.lb [S0,S0,.b false],.lb [J d e none,J f g none,.b j],.agg [S0,S0,.b true],J kc kn none,I (kn:Int),I a]) h [0,4,5,12,55,56,57] K=(If (ltI a kn) ((0<=a∧a<kn)∧ ∃c i l m n o q r s t u,Zo 9 (List.drop (a.toNat*9) kc)=some (R9 c i l m n o q r s t u)∧Con UY 32 [.p (some (id,0)),.agg (R9 c i l m n o q r s t u)] h fun(v:V) (h':Heap)=> ∃w x y z a0 a1 a2,v=.agg [J w x y,J z a0 a1,.b a2]∧ ∃a3 a4 a5,(PCon UY 72 [J d e none,J w x y] fun v=>v=J a3 a4 a5)∧ ∃a6 a7 a8,(PCon UY 72 [J f g none,J z a0 a1] fun(v:V)=>v=J a6 a7 a8)∧If j (K .normal 105 [.p (some (id,0)), .lb [S0,S0, .b false], .lb [J a3 a4 a5,J a6 a7 a8, .b true], .agg [S0,S0, .b true],J kc kn none,I (kn:Int),I (IntKind.i64.wrap (a+(1:Int)))] h') (K .normal 105 [.p (some (id,0)), .lb [S0,S0, .b false], .lb [J a3 a4 a5,J a6 a7 a8, .b a2], .agg [S0,S0, .b true],J kc kn none,I (kn:Int),I (IntKind.i64.wrap (a+(1:Int)))] h')) (K (.exit 1) 105 [.p (some (id,0)), .lb [S0,S0, .b false], .lb [J d e none,J f g none, .b j], .agg [S0,S0, .b true],J kc kn none,I (kn:Int),I a] h)):=by kernel_rfl
theorem Zus{id k s0 s1 s2 s3 kc kn lo hi gn h}(K):CP UY 32 (pre (flat (Vc (post (flat (Vc (post (flat (Xj (post (flat (Za Tryz.f32)))))))))))) (MZ 105 [0,3,4,5,12,14,51] [.p (some (id,0)),.lb (R9 k s0 s1 s2 s3 kc kn none lo hi gn),.lb [S0,S0,.b false],.lb [S0,S0,.b true],.agg [S0,S0,.b true],I k,.b false]) h [0,3,4,5,14,82] K=(If (k==(4:Int)) (K .normal 105 [.p (some (id,0)), .lb (R9 k s0 s1 s2 s3 kc kn none lo hi gn), .lb [S0,S0, .b false], .lb [S0,S0, .b true],I k, .b true] h) (K .normal 105 [.p (some (id,0)), .lb (R9 k s0 s1 s2 s3 kc kn none lo hi gn), .lb [S0,S0, .b false], .lb [S0,S0, .b true],I k, .b (k==(7:Int))] h)):=by kernel_rfl
theorem ZC9{id k s0 s1 s2 s3 kc kn lo hi gn h}(K):CP UY 32 (pre (flat (Zdh (post (flat (Vc (post (flat (Vc (post (flat (Xj (post (flat (Za Tryz.f32))))))))))))))) (MZ 105 [0,3,4,5,14,82] [.p (some (id,0)),.lb (R9 k s0 s1 s2 s3 kc kn none lo hi gn),.lb [S0,S0,.b false],.lb [S0,S0,.b true],I k,.b true]) h [0,4,5,86,87,88] K=(K .normal 105 [.p (some (id,0)), .lb [S0,S0, .b false], .lb [S0,S0, .b true],J kc kn none,I (kn:Int),I 0] h):=by kernel_rfl
theorem ZDa{id kc kn d e f g j a h}(K):CP UY 32 (flat (Zx (post (flat (Zdh (post (flat (Vc (post (flat (Vc (post (flat (Xj (post (flat (Za Tryz.f32))))))))))))))))) (MZ 105 [0,4,5,86,87,88] [.p (some (id,0)),.lb [S0,S0,.b false],.lb [J d e none,J f g none,.b j],J kc kn none,I (kn:Int),I a]) h [0,4,5,86,87,88] K=(If (ltI a kn) ((0<=a∧a<kn)∧ ∃c i l m n o q r s t u,Zo 9 (List.drop (a.toNat*9) kc)=some (R9 c i l m n o q r s t u)∧ ∃w x y z a0 a1 a2 a3,(Con UY 32 [.p (some (id,0)),.agg (R9 c i l m n o q r s t u)] h fun(v:V) (h':Heap)=>v=.agg [J w x y,J z a0 a1,.b a2]∧h'=a3)∧ ∃a4 a5 a6 a7 a8 a9 b0 b1,(Con UY 73 [.p (some (id,0)),.agg [J d e none,J f g none,.b j],.agg [J w x y,J z a0 a1,.b a2]] a3 fun(v:V) (h':Heap)=>v=.agg [J a4 a5 a6,J a7 a8 a9,.b b0]∧h'=b1)∧K .normal 105 [.p (some (id,0)), .lb [S0,S0, .b false], .lb [J a4 a5 a6,J a7 a8 a9, .b b0],J kc kn none,I (kn:Int),I (IntKind.i64.wrap (a+(1:Int)))] b1) (K (.exit 3) 105 [.p (some (id,0)), .lb [S0,S0, .b false], .lb [J d e none,J f g none, .b j],J kc kn none,I (kn:Int),I a] h)):=by kernel_rfl
theorem ZDb{id k s0 s1 s2 s3 kc kn lo hi gn h}(K):CP UY 32 (flat (Vc (post (flat (Vc (post (flat (Vc (post (flat (Xj (post (flat (Za Tryz.f32)))))))))))))) (MZ 105 [0,3,4,5,14,82] [.p (some (id,0)),.lb (R9 k s0 s1 s2 s3 kc kn none lo hi gn),.lb [S0,S0,.b false],.lb [S0,S0,.b true],I k,.b false]) h [4,5] K=(If (k==(6:Int)) (Con UY 74 [.p (some (id,0)),.agg (R9 k s0 s1 s2 s3 kc kn none lo hi gn)] h fun(v:V) (h':Heap)=> ∃a c d e f g i,v=.agg [J a c d,J e f g,.b i]∧K .ret 105 [.lb [J a c d,J e f g, .b i], .lb [S0,S0, .b true]] h') (K .normal 105 [.lb [S0,S0, .b false], .lb [S0,S0, .b true]] h)):=by kernel_rfl
theorem Zmu{g a c d e f h}(K):CP UY 32 ((post (flat (Za Tryz.f32))).drop 1) (MZ 105 [4,5] [.lb [S0,S0,.b g],.lb [J a c none,J d e none,.b f]]) h [4] K=(K .ret 105 [.lb [J a c none,J d e none, .b f]] h):=by kernel_rfl
end Go.Y
