/- A part of the proof. -/
import Derived.Test.YteennilbmmlikaaGreatDoorGReC
import Derived.Test.YteennilbmmlikaaGreatDoorGPartP
import Derived.Test.YteennilbmmlikaaGreatDoorYTryzP
import Derived.Test.YteennilbmmlikaaGreatDoorYLoop
import Derived.Test.YteennilbmmlikaaGreatDoorGLX
namespace Go.Y
open Go.Proofs Go.Sort
set_option maxRecDepth 100000
set_option maxHeartbeats 2000000

def Zat(r:Re):Prop:= ∀ {h:Heap} {id:Nat} {A:Au0},AuB A->MkA h id A->A.sets.length+cntRe r<=300->
 ∃h1,(Con UY 32 [.p (some (id,0)), .agg (Zd r)] h fun v h'=>v= .agg (XA (partF boS r A).2)∧h'=h1)∧MkA h1 id (partF boS r A).1

abbrev Jk:V:= .lb [.sl none 0 (some 0) 0, .sl none 0 (some 0) 0, .b false]
abbrev Zys:V:= .lb [.sl none 0 (some 0) 0, .sl none 0 (some 0) 0, .b true]
abbrev reLb(k:Int)(s:S4)(kids:List Re)(lo hi n:Int):V:= .lb [I k,U s.1,U s.2.1,U s.2.2.1,U s.2.2.2,lst Zd kids,I lo,I hi,I n]

theorem Zmv(fol:List (List Nat)):row (fun v:V=> [v]) (fol.map fun l=>lst encI (ints l))=row XO fol:=by
 induction fol with
 |nil=>rfl
 |cons l fol ih=>
  have h1:row XO (l::fol)=XO l++row XO fol:=rfl
  have h2:row (fun v:V=> [v]) ((l::fol).map fun l=>lst encI (ints l))= [lst encI (ints l)]++row (fun v:V=> [v]) (fol.map fun l=>lst encI (ints l)):=rfl
  rw[h1,h2,ih]
theorem LX.mapV{h:Heap}{a}{l:Nat}{c}{kk:Nat}{fol:List (List Nat)}(hl:LX XO 1 h a l c kk fol):LX (fun v:V=> [v]) 1 h a l c kk (fol.map fun l=>lst encI (ints l)):=
 ⟨fun e=>hl.nil (by simpa using e),fun e=>by
  obtain⟨j,h1,h2,h3,h4,h5⟩:=hl.cells (fun e'=>e (by rw[e'];rfl))
  exact⟨j,h1,h2,h3,by rw[Zmv];exact h4,h5⟩,by rw[hl.len];simp⟩
theorem Zut{s:S4}{lo hi n:Int} :Zat (.mk 1 s [] lo hi n):=by
 intro h id A hA hM hn
 rw[cntRe,if_pos rfl]at hn
 have hpf:partF boS (.mk 1 s [] lo hi n) A=(⟨A.sets++ [s],A.fol++ [[]]⟩,⟨[A.sets.length],[A.sets.length],false⟩):=by rw[partF];rfl
 rw[hpf]
 obtain⟨hl0,a1,l1,c1,k1,a2,l2,c2,k2,hg,hL1,hL2,hn1,hn2,hn3⟩:=hM
 have hlen1:=hL1.len
 have hlen2:=hL2.len
 have hwf:=hA.wf
 obtain⟨b1,m1,d1,e1,g1,q1,q2,q3,r1,q4,q5⟩:=LX.app (Y:=UY) (st:=31) (e:=25) (te:=⟨4,32, .arr 4 23,[U 0,U 0,U 0,U 0]⟩) s rfl Zcm (by kernel_rfl) (by kernel_rfl) rfl (by decide) rfl (by decide) hL1 (by omega)
 subst q4
 have hg1:g1.get id=some (.arr [.sl a1 l1 c1 k1, .sl none 0 (some 0) 0, .sl none 0 (some 0) 0, .sl a2 l2 c2 k2, .b false] true):=by rw[q3.2 id hl0 fun o ho=>hn1 _ _ ho rfl];exact hg
 obtain⟨g2,hg2d⟩: ∃g2,g2=g1.set id (some (.arr [.sl (some (r1,0)) m1 d1 e1, .sl none 0 (some 0) 0, .sl none 0 (some 0) 0, .sl a2 l2 c2 k2, .b false] true)):=⟨_,rfl⟩
 have hst1:Zj g1 id 0 [.sl (some (r1,0)) m1 d1 e1]=some g2:=by rw[hg2d];simp[Zj,hg1,splice]
 have hg2:g2.get id=some (.arr [.sl (some (r1,0)) m1 d1 e1, .sl none 0 (some 0) 0, .sl none 0 (some 0) 0, .sl a2 l2 c2 k2, .b false] true):=by rw[hg2d,qc,if_pos rfl]
 have hr1:r1≠id:=by omega
 have hL1':LX setC 4 g2 (some (r1,0)) m1 d1 e1 (A.sets++ [s]):=q2.fr (by rw[hg2d];simp) fun j hj hlt=>by
  cases hj;rw[hg2d,qc,if_neg hr1]
 have hL2':LX XO 1 g2 a2 l2 c2 k2 A.fol:=hL2.fr (by rw[hg2d];simp;exact q3.1) fun j hj hlt=>by
  rw[hg2d,qc,if_neg (hn2 j 0 hj),q3.2 j hlt fun o ho=>hn3 j o 0 ho hj]
 obtain⟨b3,m3,d3,e3,g3,u1,u2,u3,r3,u4,u5⟩:=LX.app (f:=fun v:V=> [v]) (k:=1) (new:= [.sl none 0 (some 0) 0]) (out:=A.fol.map fun l=>lst encI (ints l)) (Y:=UY) (st:=33) (e:=32) (te:=⟨1,24, .slice 3,[.sl none 0 (some 0) 0]⟩) (.sl none 0 (some 0) 0:V) rfl (fun _=>rfl) (by kernel_rfl) (by kernel_rfl) rfl (by decide) rfl (by decide) hL2'.mapV (by simp;omega)
 subst u4
 have hidg2:id<g2.nx:=by rw[hg2d];simp;have:=q3.1;omega
 have hg3:g3.get id=some (.arr [.sl (some (r1,0)) m1 d1 e1, .sl none 0 (some 0) 0, .sl none 0 (some 0) 0, .sl a2 l2 c2 k2, .b false] true):=by rw[u3.2 id hidg2 fun o ho=>hn2 _ _ ho rfl];exact hg2
 obtain⟨g4,hg4d⟩: ∃g4,g4=g3.set id (some (.arr [.sl (some (r1,0)) m1 d1 e1, .sl none 0 (some 0) 0, .sl none 0 (some 0) 0, .sl (some (r3,0)) m3 d3 e3, .b false] true)):=⟨_,rfl⟩
 have hst2:Zj g3 id 3 [.sl (some (r3,0)) m3 d3 e3]=some g4:=by rw[hg4d];simp[Zj,hg3,splice]
 have hg4:g4.get id=some (.arr [.sl (some (r1,0)) m1 d1 e1, .sl none 0 (some 0) 0, .sl none 0 (some 0) 0, .sl (some (r3,0)) m3 d3 e3, .b false] true):=by rw[hg4d,qc,if_pos rfl]
 have hr3:r3≠id:=by omega
 obtain⟨j3,v1,v2,v3,v4,v5⟩:=u2.cells (by simp)
 cases v1
 subst v2
 have hr13:r1<g2.nx:=by
  obtain⟨j,w1,w2,w3,w4,w5⟩:=hL1'.cells (by simp)
  cases w1;exact w3
 have hne13:r1≠r3:=by omega
 have ha2: ∀o,a2≠some (r1,o):=fun o ho=>by
  by_cases he:A.fol= []
  ·rw[hL2.nil he]at ho;cases ho
  ·obtain⟨j,w1,w2,w3,w4,w5⟩:=hL2.cells he
   rw[w1]at ho;cases ho;omega
 have hg4r:g4.get r3=some (.arr (row XO A.fol++ [.sl none 0 (some 0) 0]) true):=by
  rw[hg4d,qc,if_neg hr3,v4,Xo,Zmv];rfl
 have hrow:row XO (A.fol++ [[]])=row XO A.fol++ [.ts [] 0 none]:=by rw[Xo];rfl
 refine⟨g4.set r3 (some (.arr (row XO (A.fol++ [[]])) true)),?_,?_⟩
 ·refine Con.weakH (Zu UK (fn:=Tryz.f32) ?_)
  rw[Zp]
  refine Zl UK 105 Zoj rfl ?_
  refine⟨rfl,Wj (n:=105) [4,5] (by kernel_rfl) ?_⟩
  refine Zl UK 105 Zok rfl ?_
  refine⟨rfl,Xk (b:=true) (by kernel_rfl) (by kernel_rfl) ?_⟩
  refine Zs UK ZIz rfl ?_
  refine⟨_,_,_,_,(Zr hg 0 1).trans rfl,_,_,_,_,(Zr hg 0 1).trans rfl,_,_,_,_,_,q1,_,hst1,_,_,_,_,(Zr hg2 3 1).trans rfl,_,_,_,_,_,u1,_,hst2,?_⟩
  refine Xv (.inr rfl) rfl ?_
  refine⟨[], .agg (XA ⟨[A.sets.length],[A.sets.length],false⟩), .inl (.agg _ _ (.cons _ _ _ _ (.frz _ _ ?_) (.cons _ _ _ _ (.frz _ _ ?_) (.cons _ _ _ _ (.same _) .nil)))), .inr ⟨r3,_,_,hg4r,?_,rfl,rfl⟩⟩
  ·rw[hlen1];exact .ts _ _ _ none (fun x hx=>by cases hx)
  ·rw[hlen1];exact .ts _ _ _ none (fun x hx=>by cases hx)
  ·rw[hrow];exact(WkL.refl _).append (.cons _ _ _ _ (.inr (.inl ⟨_,_,_,rfl,rfl,fun x hx=>by cases hx⟩)) .nil)
 ·refine⟨by simp[hg4d];have:=u3.1;omega,some (r1,0),m1,d1,e1,some (r3,0),m3,d3,1,by rw[qc,if_neg (Ne.symm hr3)];exact hg4,?_,?_,fun j o hj=>by cases hj;exact hr1,fun j o hj=>by cases hj;exact hr3,fun j o o' hj hj'=>by cases hj;cases hj';exact hne13 rfl⟩
  ·exact hL1'.fr (by simp[hg4d];exact u3.1) fun j hj hlt=>by
    cases hj
    rw[qc,if_neg hne13,hg4d,qc,if_neg hr1,u3.2 r1 hlt fun o ho=>by
     exact ha2 o ho]
  ·exact⟨fun e=>by simp at e,fun _=>⟨r3,rfl,rfl,by simp[hg4d];exact v3,by rw[qc,if_pos rfl],v5⟩,by have:=u2.len;simp at this ⊢;omega⟩
end Go.Y
namespace Go.Y
open Go.Proofs Go.Sort
set_option maxRecDepth 100000
set_option maxHeartbeats 2000000

theorem Zrg{kids:List Re}{i:Nat}(hi:i<kids.length):Zo 9 (List.drop ((i:Int).toNat*9) (row Zd kids))=some (Zd kids[i]):=by
 rw[qdq];exact Xi (f:=Zd) (k:=9) ZK hi

theorem Zdv(b:Bool):Wk (.lb [.sl none 0 (some 0) 0, .sl none 0 (some 0) 0, .b b]) (.lb (XA ⟨[],[],b⟩)):=
 .inr ⟨_,_,rfl,rfl, .cons _ _ _ _ (.inr (.inl ⟨_,_,_,rfl,rfl,fun x hx=>by cases hx⟩)) (.cons _ _ _ _ (.inr (.inl ⟨_,_,_,rfl,rfl,fun x hx=>by cases hx⟩)) (.cons _ _ _ _ (.refl _) .nil))⟩

abbrev altS(A:Au0)(kids:List Re)(i:Nat):Au0×Part:=partF.altF boS (kids.take i) A ⟨[],[],false⟩
abbrev catS(A:Au0)(kids:List Re)(i:Nat):Au0×Part:=partF.catF boS (kids.take i) A ⟨[],[],true⟩

theorem Zuu(hs:ZO UY.P 75)(hcm:ZC UY.P 76){B:Nat}(hB:B<2 ^ 20){s:S4}{kids:List Re}{lo hi n:Int}(hwf:wfRe.wfRes B kids)(hkl:kids.length<=B)(ih: ∀x∈kids,Zat x):Zat (.mk 5 s kids lo hi n):=by
 intro h id A hA hM hn
 rw[cntRe,if_neg (by decide),if_neg (by decide)]at hn
 have hpf:partF boS (.mk 5 s kids lo hi n) A=altS A kids kids.length:=by rw[partF,altS,qm];rfl
 rw[hpf]
 have bnd: ∀i,AuB (altS A kids i).1∧PaB (altS A kids i).1.sets.length (altS A kids i).2∧(altS A kids i).1.sets.length<=300:=fun i=>by
  obtain⟨b1,b2,b3⟩:=Zum (kids.take i) (WX hwf i) A hA ⟨[],[],false⟩ (PaB.nil _ _)
  have b3:(altS A kids i).1.sets.length=A.sets.length+cntRe.cnts (kids.take i):=b3
  exact⟨b1,b2,by have:=Zaq kids i;omega⟩
 have stp: ∀ {i} (hi:i<kids.length),altS A kids (i+1)=((partF boS kids[i] (altS A kids i).1).1,⟨boS (altS A kids i).2.first (partF boS kids[i] (altS A kids i).1).2.first,boS (altS A kids i).2.last (partF boS kids[i] (altS A kids i).1).2.last,(altS A kids i).2.empty||(partF boS kids[i] (altS A kids i).1).2.empty⟩):=fun {i} hi=>by
  show partF.altF boS (kids.take (i+1)) A ⟨[],[],false⟩=_
  rw[qa hi,Zi7]
 have cnt: ∀ {i} (hi:i<kids.length),(altS A kids i).1.sets.length+cntRe kids[i]<=300:=fun {i} hi=>by
  have h1:(altS A kids i).1.sets.length=A.sets.length+cntRe.cnts (kids.take i):=(Zum (kids.take i) (WX hwf i) A hA ⟨[],[],false⟩ (PaB.nil _ _)).2.2
  have h2:=Zaq kids (i+1)
  rw[qa hi,Zar]at h2
  omega
 obtain⟨H,h0,hP,hR⟩:=JJ (fun i g=>MkA g id (altS A kids i).1) (fun i g g'=> ∀hi:i<kids.length,Con UY 32 [.p (some (id,0)), .agg (Zd kids[i])] g fun v h'=>v= .agg (XA (partF boS kids[i] (altS A kids i).1).2)∧h'=g') h kids.length (by
  show MkA h id (altS A kids 0).1
  rw[altS,List.take_zero,partF.altF];exact hM) (fun i hi g hg=>by
  obtain⟨g',c1,c2⟩:=ih kids[i] (qe hi) (bnd i).1 hg (cnt hi)
  exact⟨g',fun _=>c1,by show MkA g' id (altS A kids (i+1)).1;rw[stp hi];exact c2⟩)
 refine⟨H kids.length,?_,hP _ (qnq _)⟩
 refine Zu UK (fn:=Tryz.f32) ?_
 rw[Zp]
 refine Zl UK 105 Zoj rfl ?_
 refine⟨rfl,Wj (n:=105) [4,5] (by kernel_rfl) ?_⟩
 refine Zl UK 105 Zok rfl ?_
 refine⟨rfl,Xk (b:=false) (by kernel_rfl) (by kernel_rfl) ?_⟩
 refine Zl UK 105 Zrf rfl ?_
 refine⟨rfl,Xk (b:=true) (by kernel_rfl) (by kernel_rfl) ?_⟩
 refine Zl UK 105 ZI0 rfl ?_
 refine⟨rfl,Zre [0,4,5,12,55,56,57] [0,4,5,12,55,56,57] (fun m vs g=> ∃i:Nat,vs= [.p (some (id,0)),Jk, .lb (XA (altS A kids i).2), .agg [.sl none 0 (some 0) 0, .sl none 0 (some 0) 0, .b true],lst Zd kids,I kids.length,I (i:Nat)]∧i<=kids.length∧m=kids.length-i∧g=H i) kids.length Zy ?_ ?_⟩
 ·refine⟨_, .cons _ _ _ _ (.refl _) (.cons _ _ _ _ (.refl _) (.cons _ _ _ _ (Zdv false) (WkE.refl _))),0,?_,by omega,by omega,h0.symm⟩
  rw[altS,List.take_zero,partF.altF];rfl
 rintro m vs g ⟨i,rfl,hi,rfl,rfl⟩
 refine Zs UK ZI1 rfl ?_
 refine Zm (fun hlt=> ?_) (fun hge=> ?_)
 ·have hc:=hR i hlt hlt
  have hst:=stp hlt
  have hb:=bnd i
  have hb':=Vl kids[i] (Zbn hwf _ (qe hlt)) _ hb.1
  have hcn:=cnt hlt
  have hrow:=Zrg hlt
  generalize kids[i]=x at hc hst hb' hcn hrow
  obtain⟨xk,xs,xl,xlo,xhi,xn⟩:=x
  rw[Zp]at hc hrow
  generalize altS A kids i=S at hb hc hst hb' hcn
  generalize partF boS (.mk xk xs xl xlo xhi xn) S.1=T at hc hst hb'
  refine⟨Zz hlt,_,_,_,_,_,_,_,_,_,_,_,hrow,hc.mono fun v g ⟨hv,hg⟩=> ?_⟩
  subst hv hg
  have l1:=hb.2.1.fi.len;have l2:=hb.2.1.la.len;have l3:=hb'.2.1.fi.len;have l4:=hb'.2.1.la.len
  refine⟨_,_,_,_,_,_,_,rfl,_,_,_,Zao hs hcm S.2.first T.2.first (by omega) (by omega),_,_,_,Zao hs hcm S.2.last T.2.last (by omega) (by omega),?_⟩
  have next: ∀b:Bool,b=(S.2.empty||T.2.empty)->Zbo 105 [0,4,5,12,55,56,57] [0,4,5,12,55,56,57] (fun m vs g=> ∃i:Nat,vs= [.p (some (id,0)),Jk, .lb (XA (altS A kids i).2), .agg [.sl none 0 (some 0) 0, .sl none 0 (some 0) 0, .b true],lst Zd kids,I kids.length,I (i:Nat)]∧i<=kids.length∧m=kids.length-i∧g=H i) (kids.length-i) (Xa (post (flat (Zdh (post (flat (Vc (post (flat (Xj (post (flat (Za Tryz.f32)))))))))))))
    (VQ [4,5] (Zgq UY 105 [4,5] (Wy (post (flat (Za Tryz.f32)))) ((post (flat (Za Tryz.f32))).drop 1) (FinS UY Tryz.f32 (AfterZ fun v h'=>v= .agg (XA (altS A kids kids.length).2)∧h'=H kids.length))))
    .normal 105 [.p (some (id,0)),Jk, .lb [lst encI (ints (boS S.2.first T.2.first)),lst encI (ints (boS S.2.last T.2.last)), .b b], .agg [.sl none 0 (some 0) 0, .sl none 0 (some 0) 0, .b true],lst Zd kids,I kids.length,I (IntKind.i64.wrap (((i:Nat):Int)+1))] (H (i+1)):=fun b hbe=>
   ⟨rfl,kids.length-(i+1),by omega,_,WkE.refl _,i+1,by rw[Zh (by omega),hst,hbe];rfl,by omega,rfl,rfl⟩
  exact Zg (fun he=>next _ (by rw[he];rfl)) (fun he=>next _ (by rw[he];rfl))
 ·have he:i=kids.length:=by omega
  subst he
  refine WB (by kernel_rfl) (Qe rfl ⟨rfl,[4,5],rfl,?_⟩)
  refine Zn UK Zmu rfl ?_
  exact finC (.inr rfl) rfl (.now ⟨rfl,rfl⟩)
end Go.Y
namespace Go.Y
open Go.Proofs Go.Sort
set_option maxRecDepth 100000
set_option maxHeartbeats 2000000

theorem Zrh(hs:ZO UY.P 75)(hcm:ZC UY.P 76){B:Nat}(hB:B<2 ^ 20){s:S4}{kids:List Re}{lo hi n:Int}(hwf:wfRe.wfRes B kids)(hkl:kids.length<=B)(ih: ∀x∈kids,Zat x):Zat (.mk 4 s kids lo hi n):=by
 intro h id A hA hM hn
 rw[cntRe,if_neg (by decide),if_neg (by decide)]at hn
 have hpf:partF boS (.mk 4 s kids lo hi n) A=catS A kids kids.length:=by rw[partF,catS,qm];rfl
 rw[hpf]
 have bnd: ∀i,AuB (catS A kids i).1∧PaB (catS A kids i).1.sets.length (catS A kids i).2∧(catS A kids i).1.sets.length=A.sets.length+cntRe.cnts (kids.take i):=fun i=>
  Zmk (kids.take i) (WX hwf i) A hA ⟨[],[],true⟩ (PaB.nil _ _)
 have stp: ∀ {i} (hi:i<kids.length),catS A kids (i+1)=catP boS (partF boS kids[i] (catS A kids i).1).1 (catS A kids i).2 (partF boS kids[i] (catS A kids i).1).2:=fun {i} hi=>by
  show partF.catF boS (kids.take (i+1)) A ⟨[],[],true⟩=_
  rw[qa hi,Zdu]
 have cnt: ∀ {i} (hi:i<kids.length),(catS A kids i).1.sets.length+cntRe kids[i]<=300:=fun {i} hi=>by
  have h1:=(bnd i).2.2
  have h2:=Zaq kids (i+1)
  rw[qa hi,Zar]at h2
  omega
 obtain⟨H,h0,hP,hR⟩:=JJ (fun i g=>MkA g id (catS A kids i).1) (fun i g g'=> ∀hi:i<kids.length,∃g1,(Con UY 32 [.p (some (id,0)), .agg (Zd kids[i])] g fun v h'=>v= .agg (XA (partF boS kids[i] (catS A kids i).1).2)∧h'=g1)∧
   Con UY 73 [.p (some (id,0)), .agg (XA (catS A kids i).2), .agg (XA (partF boS kids[i] (catS A kids i).1).2)] g1 fun v h'=>v= .agg (XA (catS A kids (i+1)).2)∧h'=g') h kids.length (by
  show MkA h id (catS A kids 0).1
  rw[catS,List.take_zero,partF.catF];exact hM) (fun i hi g hg=>by
  obtain⟨g1,c1,c2⟩:=ih kids[i] (qe hi) (bnd i).1 hg (cnt hi)
  have hb:=Vl kids[i] (Zbn hwf _ (qe hi)) _ (bnd i).1
  have hcn:=cnt hi
  have ho:=(bnd i).2.1.mono (show(catS A kids i).1.sets.length<=(partF boS kids[i] (catS A kids i).1).1.sets.length by omega)
  refine⟨VG g1 id (partF boS kids[i] (catS A kids i).1).1.fol (catS A kids i).2.last (partF boS kids[i] (catS A kids i).1).2.first (catS A kids i).2.last.length,fun _=>⟨g1,c1,?_⟩,?_⟩
  ·rw[stp hi]
   exact Zmp hs hcm hb.1 c2 (by omega) ho hb.2.1
  ·show MkA _ id (catS A kids (i+1)).1
   rw[stp hi]
   exact Zmq hb.1 c2 ho hb.2.1)
 refine⟨H kids.length,?_,hP _ (qnq _)⟩
 refine Zu UK (fn:=Tryz.f32) ?_
 rw[Zp]
 refine Zl UK 105 Zoj rfl ?_
 refine⟨rfl,Wj (n:=105) [4,5] (by kernel_rfl) ?_⟩
 refine Zl UK 105 Zok rfl ?_
 refine⟨rfl,Xk (b:=false) (by kernel_rfl) (by kernel_rfl) ?_⟩
 refine Zl UK 105 Zrf rfl ?_
 refine⟨rfl,Xk (b:=false) (by kernel_rfl) (by kernel_rfl) ?_⟩
 refine Zl UK 105 Zus rfl ?_
 refine ifT rfl ⟨rfl,Xk (b:=true) (by kernel_rfl) (by kernel_rfl) ?_⟩
 refine Zl UK 105 ZC9 rfl ?_
 refine⟨rfl,Zre [0,4,5,86,87,88] [0,4,5,86,87,88] (fun m vs g=> ∃i:Nat,vs= [.p (some (id,0)),Jk, .lb (XA (catS A kids i).2),lst Zd kids,I kids.length,I (i:Nat)]∧i<=kids.length∧m=kids.length-i∧g=H i) kids.length Zy ?_ ?_⟩
 ·refine⟨_, .cons _ _ _ _ (.refl _) (.cons _ _ _ _ (.refl _) (.cons _ _ _ _ (Zdv true) (WkE.refl _))),0,?_,by omega,by omega,h0.symm⟩
  rw[catS,List.take_zero,partF.catF];rfl
 rintro m vs g ⟨i,rfl,hi,rfl,rfl⟩
 refine Zs UK ZDa rfl ?_
 refine Zm (fun hlt=> ?_) (fun hge=> ?_)
 ·obtain⟨g1,hc,hc2⟩:=hR i hlt hlt
  have hrow:=Zrg hlt
  generalize kids[i]=x at hc hc2 hrow
  obtain⟨xk,xs,xl,xlo,xhi,xn⟩:=x
  rw[Zp]at hc hrow
  exact⟨Zz hlt,_,_,_,_,_,_,_,_,_,_,_,hrow,_,_,_,_,_,_,_,g1,hc,_,_,_,_,_,_,_,_,hc2,rfl,kids.length-(i+1),by omega,_,WkE.refl _,i+1,by rw[Zh (by omega)];rfl,by omega,rfl,rfl⟩
 ·have he:i=kids.length:=by omega
  subst he
  refine WB (by kernel_rfl) (Qe rfl ⟨rfl,[4,5],rfl,?_⟩)
  refine Zn UK Zmu rfl ?_
  exact finC (.inr rfl) rfl (.now ⟨rfl,rfl⟩)

theorem Zri(hs:ZO UY.P 75)(hcm:ZC UY.P 76){B:Nat}(hB:B<2 ^ 20){s:S4}{kids:List Re}{lo hi n:Int}(hwf:wfRe.wfRes B kids)(hkl:kids.length<=B)(ih: ∀x∈kids,Zat x):Zat (.mk 7 s kids lo hi n):=by
 intro h id A hA hM hn
 rw[cntRe,if_neg (by decide),if_neg (by decide)]at hn
 have hpf:partF boS (.mk 7 s kids lo hi n) A=catS A kids kids.length:=by rw[partF,catS,qm];rfl
 rw[hpf]
 have bnd: ∀i,AuB (catS A kids i).1∧PaB (catS A kids i).1.sets.length (catS A kids i).2∧(catS A kids i).1.sets.length=A.sets.length+cntRe.cnts (kids.take i):=fun i=>
  Zmk (kids.take i) (WX hwf i) A hA ⟨[],[],true⟩ (PaB.nil _ _)
 have stp: ∀ {i} (hi:i<kids.length),catS A kids (i+1)=catP boS (partF boS kids[i] (catS A kids i).1).1 (catS A kids i).2 (partF boS kids[i] (catS A kids i).1).2:=fun {i} hi=>by
  show partF.catF boS (kids.take (i+1)) A ⟨[],[],true⟩=_
  rw[qa hi,Zdu]
 have cnt: ∀ {i} (hi:i<kids.length),(catS A kids i).1.sets.length+cntRe kids[i]<=300:=fun {i} hi=>by
  have h1:=(bnd i).2.2
  have h2:=Zaq kids (i+1)
  rw[qa hi,Zar]at h2
  omega
 obtain⟨H,h0,hP,hR⟩:=JJ (fun i g=>MkA g id (catS A kids i).1) (fun i g g'=> ∀hi:i<kids.length,∃g1,(Con UY 32 [.p (some (id,0)), .agg (Zd kids[i])] g fun v h'=>v= .agg (XA (partF boS kids[i] (catS A kids i).1).2)∧h'=g1)∧
   Con UY 73 [.p (some (id,0)), .agg (XA (catS A kids i).2), .agg (XA (partF boS kids[i] (catS A kids i).1).2)] g1 fun v h'=>v= .agg (XA (catS A kids (i+1)).2)∧h'=g') h kids.length (by
  show MkA h id (catS A kids 0).1
  rw[catS,List.take_zero,partF.catF];exact hM) (fun i hi g hg=>by
  obtain⟨g1,c1,c2⟩:=ih kids[i] (qe hi) (bnd i).1 hg (cnt hi)
  have hb:=Vl kids[i] (Zbn hwf _ (qe hi)) _ (bnd i).1
  have hcn:=cnt hi
  have ho:=(bnd i).2.1.mono (show(catS A kids i).1.sets.length<=(partF boS kids[i] (catS A kids i).1).1.sets.length by omega)
  refine⟨VG g1 id (partF boS kids[i] (catS A kids i).1).1.fol (catS A kids i).2.last (partF boS kids[i] (catS A kids i).1).2.first (catS A kids i).2.last.length,fun _=>⟨g1,c1,?_⟩,?_⟩
  ·rw[stp hi]
   exact Zmp hs hcm hb.1 c2 (by omega) ho hb.2.1
  ·show MkA _ id (catS A kids (i+1)).1
   rw[stp hi]
   exact Zmq hb.1 c2 ho hb.2.1)
 refine⟨H kids.length,?_,hP _ (qnq _)⟩
 refine Zu UK (fn:=Tryz.f32) ?_
 rw[Zp]
 refine Zl UK 105 Zoj rfl ?_
 refine⟨rfl,Wj (n:=105) [4,5] (by kernel_rfl) ?_⟩
 refine Zl UK 105 Zok rfl ?_
 refine⟨rfl,Xk (b:=false) (by kernel_rfl) (by kernel_rfl) ?_⟩
 refine Zl UK 105 Zrf rfl ?_
 refine⟨rfl,Xk (b:=false) (by kernel_rfl) (by kernel_rfl) ?_⟩
 refine Zl UK 105 Zus rfl ?_
 refine ifF rfl ⟨rfl,Xk (b:=true) (by kernel_rfl) (by kernel_rfl) ?_⟩
 refine Zl UK 105 ZC9 rfl ?_
 refine⟨rfl,Zre [0,4,5,86,87,88] [0,4,5,86,87,88] (fun m vs g=> ∃i:Nat,vs= [.p (some (id,0)),Jk, .lb (XA (catS A kids i).2),lst Zd kids,I kids.length,I (i:Nat)]∧i<=kids.length∧m=kids.length-i∧g=H i) kids.length Zy ?_ ?_⟩
 ·refine⟨_, .cons _ _ _ _ (.refl _) (.cons _ _ _ _ (.refl _) (.cons _ _ _ _ (Zdv true) (WkE.refl _))),0,?_,by omega,by omega,h0.symm⟩
  rw[catS,List.take_zero,partF.catF];rfl
 rintro m vs g ⟨i,rfl,hi,rfl,rfl⟩
 refine Zs UK ZDa rfl ?_
 refine Zm (fun hlt=> ?_) (fun hge=> ?_)
 ·obtain⟨g1,hc,hc2⟩:=hR i hlt hlt
  have hrow:=Zrg hlt
  generalize kids[i]=x at hc hc2 hrow
  obtain⟨xk,xs,xl,xlo,xhi,xn⟩:=x
  rw[Zp]at hc hrow
  exact⟨Zz hlt,_,_,_,_,_,_,_,_,_,_,_,hrow,_,_,_,_,_,_,_,g1,hc,_,_,_,_,_,_,_,_,hc2,rfl,kids.length-(i+1),by omega,_,WkE.refl _,i+1,by rw[Zh (by omega)];rfl,by omega,rfl,rfl⟩
 ·have he:i=kids.length:=by omega
  subst he
  refine WB (by kernel_rfl) (Qe rfl ⟨rfl,[4,5],rfl,?_⟩)
  refine Zn UK Zmu rfl ?_
  exact finC (.inr rfl) rfl (.now ⟨rfl,rfl⟩)
end Go.Y
namespace Go.Y
open Go.Proofs Go.Sort
set_option maxRecDepth 100000
set_option maxHeartbeats 2000000

theorem Zyt(a b:Int):leI a b=decide (a<=b):=by
 unfold leI
 by_cases h:a<=b<;>simp[h]

abbrev repS(A:Au0)(x:Re)(lo hi:Int)(i:Nat):Au0×Part:=repP boS (partF boS x) lo hi (Xw lo hi) i 0 A ⟨[],[],true⟩

theorem Zrj(hs:ZO UY.P 75)(hcm:ZC UY.P 76){B:Nat}{k:Int}{s:S4}{x:Re}{lo hi n:Int}(h1:0<=lo)(h2:lo<=8)(h3:hi<=8)(hwf:wfRe B x)(ih:Zat x){h:Heap}{id:Nat}{A:Au0}(hA:AuB A)(hM:MkA h id A)(hn:A.sets.length+Xw lo hi*cntRe x<=300):
  ∃g,(Con UY 74 [.p (some (id,0)), .agg (Zd (.mk k s [x] lo hi n))] h fun v h'=>v= .agg (XA (repS A x lo hi (Xw lo hi)).2)∧h'=g)∧MkA g id (repS A x lo hi (Xw lo hi)).1:=by
 have hN:=Zgx h2 h3
 have htc:=Zi6 k s [x] lo hi n h1
 have stp: ∀i,repS A x lo hi (i+1)=Zk1 boS (partF boS x) lo hi (Xw lo hi) i (repS A x lo hi i):=fun i=>by
  rw[repS,Zmr,Nat.zero_add]
 have bnd: ∀i,i<=Xw lo hi->AuB (repS A x lo hi i).1∧PaB (repS A x lo hi i).1.sets.length (repS A x lo hi i).2∧(repS A x lo hi i).1.sets.length=A.sets.length+i*cntRe x:=fun i _=>
  Zyq (fun A hA=>Vl x hwf A hA) lo hi _ i 0 A _ hA (PaB.nil _ _)
 have cnt: ∀i,i<Xw lo hi->(repS A x lo hi i).1.sets.length+cntRe x<=300:=fun i hi'=>by
  have e1:=(bnd i (by omega)).2.2
  have e2:(i+1)*cntRe x<=Xw lo hi*cntRe x:=Nat.mul_le_mul_right _ hi'
  rw[Nat.add_mul,Nat.one_mul]at e2
  omega
 generalize hNN:Xw lo hi=N at*
 obtain⟨H,h0,hP,hR⟩:=JJ (fun i g=>MkA g id (repS A x lo hi i).1) (fun i g g'=> ∃g1 g2,(Con UY 32 [.p (some (id,0)), .agg (Zd x)] g fun v h'=>v= .agg (XA (partF boS x (repS A x lo hi i).1).2)∧h'=g1)∧
   (hi<0∧i+1=N->Con UY 119 [.p (some (id,0)),lst encI (ints (partF boS x (repS A x lo hi i).1).2.last),lst encI (ints (partF boS x (repS A x lo hi i).1).2.first)] g1 fun v h'=>v= .tup []∧h'=g2)∧(¬(hi<0∧i+1=N)->g2=g1)∧
   Con UY 73 [.p (some (id,0)), .agg (XA (repS A x lo hi i).2), .agg (XA ⟨(partF boS x (repS A x lo hi i).1).2.first,(partF boS x (repS A x lo hi i).1).2.last,(partF boS x (repS A x lo hi i).1).2.empty||decide (lo<=(i:Int))⟩)] g2 fun v h'=>v= .agg (XA (repS A x lo hi (i+1)).2)∧h'=g') h N (by
  show MkA h id (repS A x lo hi 0).1
  rw[repS,repP];exact hM) (fun i hi' g hg=>by
  obtain⟨g1,c1,c2⟩:=ih (bnd i (by omega)).1 hg (cnt i hi')
  have hb:=Vl x hwf _ (bnd i (by omega)).1
  have hcn:=cnt i hi'
  have ho:=(bnd i (by omega)).2.1.mono (show(repS A x lo hi i).1.sets.length<=(partF boS x (repS A x lo hi i).1).1.sets.length by omega)
  rw[stp i]
  unfold Zk1
  generalize repS A x lo hi i=S at*
  generalize partF boS x S.1=T at*
  by_cases hc:hi<0∧i+1=N
  ·have m1:=Zcn hb.1 c2 hb.2.1.la hb.2.1.fi T.2.last.length (qnq _)
   rw[qm]at m1
   have a1:AuB (Zkx boS T.1 T.2):=hb.1.link hb.2.1.fi.2
   rw[if_pos hc]
   refine⟨VG (VG g1 id T.1.fol T.2.last T.2.first T.2.last.length) id (Zkx boS T.1 T.2).fol S.2.last T.2.first S.2.last.length,⟨g1,VG g1 id T.1.fol T.2.last T.2.first T.2.last.length,c1,fun _=>Zq8 hs hcm hb.1 c2 (by omega) hb.2.1.la hb.2.1.fi,fun hn=>absurd hc hn,?_⟩,?_⟩
   ·exact Zmp hs hcm a1 m1 (show T.1.sets.length<=300 by omega) ho ⟨hb.2.1.fi,hb.2.1.la⟩
   ·exact Zmq a1 m1 ho ⟨hb.2.1.fi,hb.2.1.la⟩
  ·rw[if_neg hc]
   refine⟨VG g1 id T.1.fol S.2.last T.2.first S.2.last.length,⟨g1,g1,c1,fun h=>absurd h hc,fun _=>rfl,?_⟩,?_⟩
   ·exact Zmp hs hcm hb.1 c2 (by omega) ho ⟨hb.2.1.fi,hb.2.1.la⟩
   ·exact Zmq hb.1 c2 ho ⟨hb.2.1.fi,hb.2.1.la⟩)
 refine⟨H N,?_,hP _ (qnq _)⟩
 refine Zu UK (fn:=Tryz.f74) ?_
 rw[Zp]at htc ⊢
 refine Zl UK 52 (fun K=>ZIo id k s.1 s.2.1 s.2.2.1 s.2.2.2 (row Zd [x]) 1 lo hi n h K) rfl ?_
 refine⟨_,htc,rfl,ZH2 [0,2,3,4,5,6,12,13] [0,2,3,4,5,6,12,13] rfl (by kernel_rfl) (fun m vs g=> ∃i:Nat,vs= [.p (some (id,0)), .undef,reLb k s [x] lo hi n,Jk, .lb (XA (repS A x lo hi i).2),I (N:Nat),I (N:Nat),I (i:Nat)]∧i<=N∧m=N-i∧g=H i) N Zy ?_ ?_⟩
 ·refine⟨_, .cons _ _ _ _ (.refl _) (.cons _ _ _ _ (.refl _) (.cons _ _ _ _ (.refl _) (.cons _ _ _ _ (.refl _) (.cons _ _ _ _ (Zdv true) (WkE.refl _))))),0,?_,by omega,by omega,h0.symm⟩
  rw[repS,repP];rfl
 rintro m vs g ⟨i,rfl,hi',rfl,rfl⟩
 refine Zs UK (fun K=>ZIp id k s.1 s.2.1 s.2.2.1 s.2.2.2 (row Zd [x]) 1 lo hi n (N:Nat) (N:Nat) none (row encI (ints (repS A x lo hi i).2.first)) (ints (repS A x lo hi i).2.first).length none (row encI (ints (repS A x lo hi i).2.last)) (ints (repS A x lo hi i).2.last).length (repS A x lo hi i).2.empty (i:Nat) (H i) K) rfl ?_
 refine Zm (fun hlt=> ?_) (fun hge=> ?_)
 ·obtain⟨g1,g2,c1,c2,c3,c4⟩:=hR i hlt
  have hrow:Zo 9 (row Zd [x])=some (Zd x):=by
   have:=Xi (f:=Zd) (k:=9) ZK (l:= [x]) (i:=0) (by simp)
   rwa [Nat.zero_mul]at this
  obtain⟨xk,xs,xl,xlo,xhi,xn⟩:=x
  rw[Zp]at c1 hrow
  generalize partF boS (.mk xk xs xl xlo xhi xn) (repS A (.mk xk xs xl xlo xhi xn) lo hi i).1=T at c1 c2 c3 c4
  refine⟨⟨by omega,by omega⟩,_,_,_,_,_,_,_,_,_,_,_,hrow,c1.mono fun v g ⟨hv,hg⟩=> ?_⟩
  subst hv hg
  refine⟨_,_,_,_,_,_,_,rfl,?_⟩
  have hle:leI lo ((i:Nat):Int)=decide (lo<=(i:Int)):=Zyt _ _
  have last: ∀(b:Bool),b=(T.2.empty||decide (lo<=(i:Int)))->Con UY 73 [.p (some (id,0)), .agg (XA (repS A (.mk xk xs xl xlo xhi xn) lo hi i).2), .agg [lst encI (ints T.2.first),lst encI (ints T.2.last), .b b]] g2 fun v h'=> ∃(cs:List V) (l:Nat) (c:Option Nat) (cs_2:List V) (l_2:Nat) (c_2:Option Nat) (b':Bool),v= .agg [.ts cs l c, .ts cs_2 l_2 c_2, .b b']∧
    Zb5 UY 52 [0,2,3,4,5,6,12,13] [0,2,3,4,5,6,12,13] (fun m vs g=> ∃i:Nat,vs= [.p (some (id,0)), .undef,reLb k s [.mk xk xs xl xlo xhi xn] lo hi n,Jk, .lb (XA (repS A (.mk xk xs xl xlo xhi xn) lo hi i).2),I (N:Nat),I (N:Nat),I (i:Nat)]∧i<=N∧m=N-i∧g=H i) (N-i) (Xa (post (flat (Za Tryz.f74)))) ((post (flat (Za Tryz.f74))).drop 1)
     (FinS UY Tryz.f74 (AfterZ fun v h'=>v= .agg (XA (repS A (.mk xk xs xl xlo xhi xn) lo hi N).2)∧h'=H N)) .normal 52 [.p (some (id,0)), .undef,reLb k s [.mk xk xs xl xlo xhi xn] lo hi n,Jk, .lb [.ts cs l c, .ts cs_2 l_2 c_2, .b b'],I (N:Nat),I (N:Nat),I (IntKind.i64.wrap (((i:Nat):Int)+1))] h':=fun b hb=>by
   subst hb
   exact c4.mono fun v g ⟨hv,hg⟩=>⟨_,_,_,_,_,_,_,hv,rfl,N-(i+1),by omega,_,WkE.refl _,i+1,by rw[Zh (by omega)];rfl,by omega,rfl,hg⟩
  have fork: ∀g',g'=g2->If T.2.empty (Con UY 73 [.p (some (id,0)), .agg (XA (repS A (.mk xk xs xl xlo xhi xn) lo hi i).2), .agg [lst encI (ints T.2.first),lst encI (ints T.2.last), .b true]] g' fun v h'=> ∃(cs:List V) (l:Nat) (c:Option Nat) (cs_2:List V) (l_2:Nat) (c_2:Option Nat) (b':Bool),v= .agg [.ts cs l c, .ts cs_2 l_2 c_2, .b b']∧
    Zb5 UY 52 [0,2,3,4,5,6,12,13] [0,2,3,4,5,6,12,13] (fun m vs g=> ∃i:Nat,vs= [.p (some (id,0)), .undef,reLb k s [.mk xk xs xl xlo xhi xn] lo hi n,Jk, .lb (XA (repS A (.mk xk xs xl xlo xhi xn) lo hi i).2),I (N:Nat),I (N:Nat),I (i:Nat)]∧i<=N∧m=N-i∧g=H i) (N-i) (Xa (post (flat (Za Tryz.f74)))) ((post (flat (Za Tryz.f74))).drop 1)
     (FinS UY Tryz.f74 (AfterZ fun v h'=>v= .agg (XA (repS A (.mk xk xs xl xlo xhi xn) lo hi N).2)∧h'=H N)) .normal 52 [.p (some (id,0)), .undef,reLb k s [.mk xk xs xl xlo xhi xn] lo hi n,Jk, .lb [.ts cs l c, .ts cs_2 l_2 c_2, .b b'],I (N:Nat),I (N:Nat),I (IntKind.i64.wrap (((i:Nat):Int)+1))] h')
    (Con UY 73 [.p (some (id,0)), .agg (XA (repS A (.mk xk xs xl xlo xhi xn) lo hi i).2), .agg [lst encI (ints T.2.first),lst encI (ints T.2.last), .b (leI lo ((i:Nat):Int))]] g' fun v h'=> ∃(cs:List V) (l:Nat) (c:Option Nat) (cs_2:List V) (l_2:Nat) (c_2:Option Nat) (b':Bool),v= .agg [.ts cs l c, .ts cs_2 l_2 c_2, .b b']∧
    Zb5 UY 52 [0,2,3,4,5,6,12,13] [0,2,3,4,5,6,12,13] (fun m vs g=> ∃i:Nat,vs= [.p (some (id,0)), .undef,reLb k s [.mk xk xs xl xlo xhi xn] lo hi n,Jk, .lb (XA (repS A (.mk xk xs xl xlo xhi xn) lo hi i).2),I (N:Nat),I (N:Nat),I (i:Nat)]∧i<=N∧m=N-i∧g=H i) (N-i) (Xa (post (flat (Za Tryz.f74)))) ((post (flat (Za Tryz.f74))).drop 1)
     (FinS UY Tryz.f74 (AfterZ fun v h'=>v= .agg (XA (repS A (.mk xk xs xl xlo xhi xn) lo hi N).2)∧h'=H N)) .normal 52 [.p (some (id,0)), .undef,reLb k s [.mk xk xs xl xlo xhi xn] lo hi n,Jk, .lb [.ts cs l c, .ts cs_2 l_2 c_2, .b b'],I (N:Nat),I (N:Nat),I (IntKind.i64.wrap (((i:Nat):Int)+1))] h'):=by
   rintro g' rfl
   exact Zg (fun he=>last true (by rw[he];rfl)) (fun he=>last _ (by rw[he,hle];rfl))
  refine XC (fun hneg=>Zg (fun hl=> ?_) (fun hl=> ?_)) (fun hpos=> ?_)
  ·have hl:((i:Nat):Int)=(N:Int)-1:=by
    have hl:=hl
    rw[ZG (by omega) (by omega)]at hl
    simpa using hl
   exact(c2 ⟨hneg,by omega⟩).mono fun v g ⟨hv,hg⟩=>⟨hv,fork g hg⟩
  ·have hl:((i:Nat):Int)≠(N:Int)-1:=by
    have hl:=hl
    rw[ZG (by omega) (by omega)]at hl
    simpa using hl
   exact fork _ (c3 (fun hh=>hl (by omega))).symm
  ·exact fork _ (c3 (fun hh=>by omega)).symm
 ·have he:i=N:=by omega
  subst he
  refine Zku [4,5] (by kernel_rfl) rfl rfl ?_
  refine Zn UK (fun K=>ZIq none (row encI (ints (repS A x lo hi i).2.first)) (ints (repS A x lo hi i).2.first).length none (row encI (ints (repS A x lo hi i).2.last)) (ints (repS A x lo hi i).2.last).length false (repS A x lo hi i).2.empty (H i) K) rfl ?_
  exact finC (.inr rfl) rfl (.now ⟨rfl,rfl⟩)
end Go.Y
namespace Go.Y
open Go.Proofs Go.Sort
set_option maxRecDepth 100000
set_option maxHeartbeats 2000000

theorem Zuv(hs:ZO UY.P 75)(hcm:ZC UY.P 76){B:Nat}{s:S4}{x:Re}{lo hi n:Int}(h1:0<=lo)(h2:lo<=8)(h3:hi<=8)(hwf:wfRe B x)(ih:Zat x):Zat (.mk 6 s [x] lo hi n):=by
 intro h id A hA hM hn
 rw[cntRe,if_neg (by decide),if_pos rfl,cntRe.cnts,cntRe.cnts,Nat.add_zero]at hn
 have hpf:partF boS (.mk 6 s [x] lo hi n) A=repS A x lo hi (Xw lo hi):=by rw[partF];rfl
 rw[hpf]
 obtain⟨g,hc,hm⟩:=Zrj hs hcm (k:=6) (s:=s) (n:=n) h1 h2 h3 hwf ih hA hM hn
 refine⟨g,?_,hm⟩
 refine Zu UK (fn:=Tryz.f32) ?_
 rw[Zp]at hc ⊢
 refine Zl UK 105 Zoj rfl ?_
 refine⟨rfl,Wj (n:=105) [4,5] (by kernel_rfl) ?_⟩
 refine Zl UK 105 Zok rfl ?_
 refine⟨rfl,Xk (b:=false) (by kernel_rfl) (by kernel_rfl) ?_⟩
 refine Zl UK 105 Zrf rfl ?_
 refine⟨rfl,Xk (b:=false) (by kernel_rfl) (by kernel_rfl) ?_⟩
 refine Zl UK 105 Zus rfl ?_
 refine ifF rfl ⟨rfl,Xk (b:=false) (by kernel_rfl) (by kernel_rfl) ?_⟩
 refine Zs UK ZDb rfl ?_
 refine ifT rfl (hc.mono fun v g ⟨hv,hg⟩=> ?_)
 subst hv hg
 exact⟨_,_,_,_,_,_,_,rfl,Xv (.inr rfl) rfl (AfterZ.now ⟨rfl,rfl⟩)⟩

theorem Zol{k:Int}{s:S4}{lo hi n:Int}(k1:k≠1)(k4:k≠4)(k5:k≠5)(k6:k≠6)(k7:k≠7):Zat (.mk k s [] lo hi n):=by
 intro h id A hA hM hn
 have hpf:partF boS (.mk k s [] lo hi n) A=(A,⟨[],[],true⟩):=by
  rw[partF];dsimp only;rw[if_neg k1,if_neg k5,if_neg (fun e=>e.elim k4 k7),if_neg k6]
 rw[hpf]
 refine⟨h,?_,hM⟩
 have e1:(k==1)=false:=by simpa using k1
 have e4:(k==4)=false:=by simpa using k4
 have e5:(k==5)=false:=by simpa using k5
 have e6:(k==6)=false:=by simpa using k6
 have e7:(k==7)=false:=by simpa using k7
 refine Zu UK (fn:=Tryz.f32) ?_
 rw[Zp]
 refine Zl UK 105 Zoj rfl ?_
 refine⟨rfl,Wj (n:=105) [4,5] (by kernel_rfl) ?_⟩
 refine Zl UK 105 Zok rfl ?_
 rw[e1]
 refine⟨rfl,Xk (b:=false) (by kernel_rfl) (by kernel_rfl) ?_⟩
 refine Zl UK 105 Zrf rfl ?_
 rw[e5]
 refine⟨rfl,Xk (b:=false) (by kernel_rfl) (by kernel_rfl) ?_⟩
 refine Zl UK 105 Zus rfl ?_
 refine ifF e4 ?_
 rw[e7]
 refine⟨rfl,Xk (b:=false) (by kernel_rfl) (by kernel_rfl) ?_⟩
 refine Zs UK ZDb rfl ?_
 refine ifF e6 ⟨rfl,[4,5],rfl,Zym [4,5] (vs:= [Jk,Zys]) [Jk, .lb (XA ⟨[],[],true⟩)] (by kernel_rfl) Zy rfl (.cons _ _ _ _ (.refl _) (.cons _ _ _ _ (Zdv true) .nil)) ?_⟩
 refine Zn UK Zmu rfl ?_
 exact finC (.inr rfl) rfl (.now ⟨rfl,rfl⟩)

structure PX(r:Re):Prop where
 p:Zat r
mutual
theorem Zww(hs:ZO UY.P 75)(hcm:ZC UY.P 76){B:Nat}(hB:B<2 ^ 20): ∀r:Re,wfRe B r->PX r
 | .mk k s kids lo hi n,h=>by
  rw[wfRe]at h
  obtain⟨h1,h2,h3,h4⟩:=h
  have ih:=Zrk hs hcm hB kids h4
  have ih: ∀x∈kids,Zat x:=fun x hx=>(ih x hx).p
  refine⟨?_⟩
  by_cases k4:k=4
  ·subst k4;exact Zrh hs hcm hB h4 h3 ih
  by_cases k5:k=5
  ·subst k5;exact Zuu hs hcm hB h4 h3 ih
  by_cases k7:k=7
  ·subst k7;exact Zri hs hcm hB h4 h3 ih
  by_cases k6:k=6
  ·subst k6
   obtain⟨g1,g2,g3,g4⟩:=h1 rfl
   obtain⟨x,rfl⟩:=List.length_eq_one_iff.1 g4
   exact Zuv hs hcm g1 g2 (by omega) (Zbn h4 x (by simp)) (ih x (by simp))
  have hk:=h2 k4 k5 k6 k7
  subst hk
  by_cases k1:k=1
  ·subst k1;exact Zut
  ·exact Zol k1 k4 k5 k6 k7
theorem Zrk(hs:ZO UY.P 75)(hcm:ZC UY.P 76){B:Nat}(hB:B<2 ^ 20): ∀l:List Re,wfRe.wfRes B l-> ∀x∈l,PX x
 | [],_,x,hx=>by cases hx
 |r::l,h,x,hx=>by
  rw[wfRe.wfRes]at h
  have h1:=Zww hs hcm hB r h.1
  have h2:=Zrk hs hcm hB l h.2
  rcases qu.1 hx with e|hx
  ·rw[e];exact h1
  ·exact h2 x hx
end
theorem ZI2(hs:ZO UY.P 75)(hcm:ZC UY.P 76){B:Nat}(hB:B<2 ^ 20){r:Re}(h:wfRe B r):Zat r:=(Zww hs hcm hB r h).p
end Go.Y
namespace Go.Y
open Go.Proofs
set_option maxRecDepth 1000000
set_option maxHeartbeats 0
theorem ZI3{k s0 s1 s2 s3 kc kn lo hi gn h}(K):CP UY 10 (flat (Za Tryz.f10)) (.agg (R9 k s0 s1 s2 s3 kc kn none lo hi gn)::Rp 46) h [2,3] K=(∃a,(PCon UY 29 [.agg (R9 k s0 s1 s2 s3 kc kn none lo hi gn)] fun v=>v=.b a)∧If (!a) (K .ret 47 [.lb [S0,S0,S0,S0, .b false],I 5] h) (∃b,(PCon UY 30 [.agg (R9 k s0 s1 s2 s3 kc kn none lo hi gn)] fun v=>v=.b b)∧If b (K .ret 47 [.lb [S0,S0,S0,S0, .b false],I 5] h) (∃c,(PCon UY 31 [.agg (R9 k s0 s1 s2 s3 kc kn none lo hi gn)] fun v=>v=I c)∧If (ltI 300 c) (K .ret 47 [.lb [S0,S0,S0,S0, .b false],I 2] h) (Con UY 32 [.p (some (h.nx,0)),.agg (R9 k s0 s1 s2 s3 kc kn none lo hi gn)] (h.push (YObj.arr [S0,S0,S0,S0,.b false] true)) fun(v:V) (h':Heap)=> ∃d e f g i j l,v=.agg [J d e f,J g i j,.b l]∧ ∃m n o,(PCon UY 33 [J d e f] fun v=>v=J m n o)∧ ∃q r s,(PCon UY 33 [J g i j] fun(v:V)=>v=J q r s)∧ ∃t,Zj h' h.nx 1 [J m n o]=some t∧ ∃u,Zj t h.nx 2 [J q r s]=some u∧ ∃w,Zj u h.nx 4 [.b l]=some w∧ ∃x y z a0 a1 a2 a3 a4 a5 a6 a7 a8 a9,Zb w h.nx 0 5=some [J x y z,J a0 a1 a2,J a3 a4 a5,J a6 a7 a8,.b a9]∧K .ret 47 [.lb [J x y z,J a0 a1 a2,J a3 a4 a5,J a6 a7 a8, .b a9],I (0:Int)] w)))):=by kernel_rfl
end Go.Y
namespace Go.Y
open Go.Proofs Go.Sort
set_option maxRecDepth 100000
set_option maxHeartbeats 2000000

theorem Zyu(l:List Int)(h:Heap)(c:Option Nat):Frz h (.ts (row encI l) l.length c) (lst encI l):= .ts _ _ _ none (fun x hx=>by cases hx)
theorem Zrl(l:List Int)(hl:l.length<2 ^ 29):PCon UY 33 [lst encI l] (· =lst encI l):=by
 refine Zt UK (fn:=Tryz.f33) rfl ZIs rfl ?_
 by_cases h0:l= []
 ·subst h0
  refine⟨fun _=>Zv (.inr rfl) rfl (QY encI _ _ _) rfl, .inr ⟨by kernel_rfl,Zv (.inr rfl) rfl (Zyu [] _ _) rfl⟩⟩
 ·have hpos:0<l.length:=List.length_pos_iff.2 h0
  refine⟨fun e=>absurd e (by omega), .inl ?_⟩
  obtain⟨m,hm⟩: ∃m,l.length=m+1:=⟨l.length-1,by omega⟩
  have hap:=Zin (Y:=UY) (st:=32) (e:=3) (te:=⟨1,8, .int .i64,[I 0]⟩) (by kernel_rfl) (by kernel_rfl) (by decide) (by decide) (cs:=row encI l) (c:=row encI l) (n:=m) (cap:=none) (by rw[<-hm];exact ZA (by rw[JX];exact Nat.mul_one _)) (Zch l) (by omega) .empty
  rw[<-hm]at hap
  refine⟨_,_,_,_,_,hap,Zv (.inr rfl) rfl (.sl _ _ _ _ _ (row encI l) true (row encI l) (row encI l) none (by simp[qk]) (by rw[ql];exact ZA (by rw[JX];exact Nat.mul_one _)) (fun x hx=>by cases hx) (by decide) (Zci _ _)) rfl⟩

theorem LX.frzD{α:Type}{f:α->List V}{k:Nat}{h:Heap}{a}{l:Nat}{c}{kk:Nat}{out:List α}{D:List Nat}(hk:k≠0)(hfl: ∀x,(f x).length=k)(hcold: ∀x,ZQ (f x)=true)(hl:LX f k h a l c kk out)(hD: ∀j o,a=some (j,o)->j∈D):
  Frz (VW h D) (.sl a l c kk) (lst f out):=by
 have hlen:=hl.len
 by_cases hne:out= []
 ·have ha:=hl.nil hne
  subst hne ha hlen
  exact .sln _ _ _ (fun x hx=>by cases hx)
 ·obtain⟨id,rfl,rfl,hid,hg,_⟩:=hl.cells hne
  subst hlen
  exact .sl _ _ _ _ _ (row f out) true (row f out) _ _ (by rw[QW,if_pos (hD _ _ rfl),hg]) (by rw[ql];exact ZA (Xf hfl out).symm) (fun x hx=>by cases hx) hk (ZU _ (Jj hcold out))

theorem Zrm(hs:ZO UY.P 75)(hcm:ZC UY.P 76){B:Nat}(hB:B<2 ^ 20){r:Re}(hwf:wfRe B r){h:Heap}{id:Nat}{A:Au0}(hA:AuB A)(hM:MkA h id A)(hn:A.sets.length+cntRe r<=300):
  Con UY 32 [.p (some (id,0)), .agg (Zd r)] h fun v h'=>v= .agg (XA (partF boS r A).2)∧h'.get id=some (.arr [lst setC (partF boS r A).1.sets, .sl none 0 (some 0) 0, .sl none 0 (some 0) 0,lst XO (partF boS r A).1.fol, .b false] true):=by
 obtain⟨g,hc,hm⟩:=ZI2 hs hcm hB hwf hA hM hn
 generalize partF boS r A=S at hc hm
 obtain⟨hl0,a1,l1,c1,k1,a2,l2,c2,k2,hg,hL1,hL2,hn1,hn2,hn3⟩:=hm
 refine Con.coolR (hc.mono fun v h' ⟨hv,hh⟩=> ?_)
 subst hv hh
 have hD1: ∀j o,a1=some (j,o)->j∈(a1.toList.map (·.1)++a2.toList.map (·.1)):=fun j o e=>by rw[e];simp
 have hD2: ∀j o,a2=some (j,o)->j∈(a1.toList.map (·.1)++a2.toList.map (·.1)):=fun j o e=>by rw[e];simp
 refine⟨a1.toList.map (·.1)++a2.toList.map (·.1),id,_,_,true,hg,fun hmem=> ?_, .cons _ _ _ _ (.frz _ _ (hL1.frzD (by decide) Zcm Zq7 hD1)) (.cons _ _ _ _ (.same _) (.cons _ _ _ _ (.same _) (.cons _ _ _ _ (.frz _ _ (hL2.frzD (by decide) Zap Zoh hD2)) (.cons _ _ _ _ (.same _) .nil)))),_, .same _,rfl,by rw[qc,if_pos rfl]⟩
 rcases qA.1 hmem with hm|hm
 ·obtain⟨⟨j,o⟩,h1,h2⟩:=List.mem_map.1 hm
  simp only[Option.mem_toList]at h1
  exact hn1 j o h1 h2
 ·obtain⟨⟨j,o⟩,h1,h2⟩:=List.mem_map.1 hm
  simp only[Option.mem_toList]at h1
  exact hn2 j o h1 h2

abbrev ZY(l:List Int):List V:= [lst encI l]
abbrev auC(a:Au):List V:= [lst setC a.sets,lst encI a.first,lst encI a.last,lst ZY a.follow, .b a.empty]
def auZ:Au:=⟨[],[],[],[],false⟩
theorem Zyv(fol:List (List Nat)):lst XO fol=lst ZY (fol.map ints):=by
 have:row XO fol=row ZY (fol.map ints):=by
  induction fol with
  |nil=>rfl
  |cons l fol ih=>
   have h1:row XO (l::fol)=XO l++row XO fol:=rfl
   have h2:row ZY ((l::fol).map ints)=ZY (ints l)++row ZY (fol.map ints):=rfl
   rw[h1,h2,ih]
 simp only[lst,this,List.length_map]

def Zyw(b:Bool)(r:Re):V:=if b=false∨anchB r=true then .tup [.agg (auC auZ), .i .i64 5]else if 300<spotN r then .tup [.agg (auC auZ), .i .i64 2]else .tup [.agg (auC (Zoe boS r)), .i .i64 0]

theorem Zk2(h:Heap):Frz h (.agg [.sl none 0 (some 0) 0, .sl none 0 (some 0) 0, .sl none 0 (some 0) 0, .sl none 0 (some 0) 0, .b false]) (.agg (auC auZ)):=
 .agg _ _ (.cons _ _ _ _ (QY _ _ _ _) (.cons _ _ _ _ (QY _ _ _ _) (.cons _ _ _ _ (QY _ _ _ _) (.cons _ _ _ _ (QY _ _ _ _) (.cons _ _ _ _ (.b _) .nil)))))
theorem Zuw(hs:ZO UY.P 75)(hcm:ZC UY.P 76){B:Nat}(hB:B<2 ^ 20){r:Re}(hwf:wfRe B r){b:Bool}(hmay:PCon UY 29 [.agg (Zd r)] (· = .b b)):PCon UY 10 [.agg (Zd r)] (· =Zyw b r):=by
 have han:=(Zwt hB r hwf).c
 have hsp:=(Zwu hB r hwf).c
 have hfew: ¬300<spotN r->cntRe r<=300:=fun h=>Zqz hwf (by omega)
 have hpc: ¬300<spotN r-> ∀ {h:Heap} {id:Nat},MkA h id ⟨[],[]⟩->Con UY 32 [.p (some (id,0)), .agg (Zd r)] h fun v h'=>v= .agg (XA (partF boS r ⟨[],[]⟩).2)∧h'.get id=some (.arr [lst setC (partF boS r ⟨[],[]⟩).1.sets, .sl none 0 (some 0) 0, .sl none 0 (some 0) 0,lst XO (partF boS r ⟨[],[]⟩).1.fol, .b false] true):=fun h _ _ hM=>
  Zrm hs hcm hB hwf ⟨rfl,fun l hl=>by cases hl⟩ hM (by have:=hfew h;simpa using this)
 have hbd: ¬300<spotN r->PaB 300 (partF boS r ⟨[],[]⟩).2:=fun h=>by
  obtain⟨b1,b2,b3⟩:=Vl r hwf ⟨[],[]⟩ ⟨rfl,fun l hl=>by cases hl⟩
  exact b2.mono (by have:=hfew h;simp at b3;omega)
 unfold Zyw
 obtain⟨k,s,kids,lo,hi,n⟩:=r
 generalize hmk:Zoe boS (.mk k s kids lo hi n)=M
 have hM':M=auF (partF boS (.mk k s kids lo hi n) ⟨[],[]⟩).1 (partF boS (.mk k s kids lo hi n) ⟨[],[]⟩).2:=hmk.symm
 generalize anchB (.mk k s kids lo hi n)=an at han
 generalize spotN (.mk k s kids lo hi n)=sp at hsp hpc hbd hfew
 generalize partF boS (.mk k s kids lo hi n) ⟨[],[]⟩=S at hpc hbd hM'
 rw[Zp]at han hsp hmay hpc ⊢
 refine Zt UK (fn:=Tryz.f10) rfl ZI3 rfl ?_
 refine⟨_,hmay,Zg (fun hb=> ?_) (fun hb=>⟨_,han,Zg (fun ha=> ?_) (fun ha=>⟨_,hsp,XC (fun h3=> ?_) (fun h3=> ?_)⟩)⟩)⟩
 ·have hb:b=false:=by simpa using hb
  rw[if_pos (.inl hb)]
  exact Zik (.inr rfl) rfl (Zk2 _) (.i _ _) rfl
 ·rw[if_pos (.inr ha)]
  exact Zik (.inr rfl) rfl (Zk2 _) (.i _ _) rfl
 ·have hb:b=true:=by simpa using hb
  rw[if_neg (by rw[hb,ha];simp),if_pos (by omega)]
  exact Zik (.inr rfl) rfl (Zk2 _) (.i _ _) rfl
 ·have hb:b=true:=by simpa using hb
  have h3: ¬300<sp:=by omega
  rw[if_neg (by rw[hb,ha];simp),if_neg h3]
  have hM0:MkA (Heap.empty.push (.arr [.sl none 0 (some 0) 0, .sl none 0 (some 0) 0, .sl none 0 (some 0) 0, .sl none 0 (some 0) 0, .b false] true)) Heap.empty.nx ⟨[],[]⟩:=
   ⟨by simp,none,0,some 0,0,none,0,some 0,0,by rw[qk,if_pos rfl],LX.start _ _ _ _ _,LX.start _ _ _ _ _,fun j o e=>(by cases e),fun j o e=>(by cases e),fun j o o' e=>(by cases e)⟩
  have hbd:=hbd h3
  refine(hpc h3 hM0).mono fun v h' ⟨hv,hg⟩=> ?_
  subst hv
  have l1:=hbd.fi.len;have l2:=hbd.la.len
  refine⟨_,_,_,_,_,_,_,rfl,_,_,_,Zrl _ (by rw[Qo];omega),_,_,_,Zrl _ (by rw[Qo];omega),?_⟩
  obtain⟨g1,hg1⟩: ∃g,g=h'.set Heap.empty.nx (some (.arr [lst setC S.1.sets,lst encI (ints S.2.first), .sl none 0 (some 0) 0,lst XO S.1.fol, .b false] true)):=⟨_,rfl⟩
  have e1:Zj h' Heap.empty.nx 1 [lst encI (ints S.2.first)]=some g1:=by rw[hg1];simp[Zj,hg,splice]
  have e1g:g1.get Heap.empty.nx=some (.arr [lst setC S.1.sets,lst encI (ints S.2.first), .sl none 0 (some 0) 0,lst XO S.1.fol, .b false] true):=by rw[hg1,qc,if_pos rfl]
  obtain⟨g2,hg2⟩: ∃g,g=g1.set Heap.empty.nx (some (.arr [lst setC S.1.sets,lst encI (ints S.2.first),lst encI (ints S.2.last),lst XO S.1.fol, .b false] true)):=⟨_,rfl⟩
  have e2:Zj g1 Heap.empty.nx 2 [lst encI (ints S.2.last)]=some g2:=by rw[hg2];simp[Zj,e1g,splice]
  have e2g:g2.get Heap.empty.nx=some (.arr [lst setC S.1.sets,lst encI (ints S.2.first),lst encI (ints S.2.last),lst XO S.1.fol, .b false] true):=by rw[hg2,qc,if_pos rfl]
  obtain⟨g3,hg3⟩: ∃g,g=g2.set Heap.empty.nx (some (.arr [lst setC S.1.sets,lst encI (ints S.2.first),lst encI (ints S.2.last),lst XO S.1.fol, .b S.2.empty] true)):=⟨_,rfl⟩
  have e3:Zj g2 Heap.empty.nx 4 [.b S.2.empty]=some g3:=by rw[hg3];simp[Zj,e2g,splice]
  have e3g:g3.get Heap.empty.nx=some (.arr [lst setC S.1.sets,lst encI (ints S.2.first),lst encI (ints S.2.last),lst XO S.1.fol, .b S.2.empty] true):=by rw[hg3,qc,if_pos rfl]
  have hv:V.agg (auC M)= .agg [lst setC S.1.sets,lst encI (ints S.2.first),lst encI (ints S.2.last),lst XO S.1.fol, .b S.2.empty]:=by rw[hM',Zyv S.1.fol];rfl
  exact⟨g1,e1,g2,e2,g3,e3,_,_,_,_,_,_,_,_,_,_,_,_,_,(Zr e3g 0 5).trans rfl,Zik (.inr rfl) rfl (r1:= .agg (auC M)) (by rw[hv];exact .agg _ _ (.cons _ _ _ _ (.ts _ _ _ none (fun _ hx=>hx)) (.cons _ _ _ _ (.ts _ _ _ none (fun _ hx=>hx)) (.cons _ _ _ _ (.ts _ _ _ none (fun _ hx=>hx)) (.cons _ _ _ _ (.ts _ _ _ none (fun _ hx=>hx)) (.cons _ _ _ _ (.b _) .nil)))))) (.i _ _) rfl⟩
end Go.Y
