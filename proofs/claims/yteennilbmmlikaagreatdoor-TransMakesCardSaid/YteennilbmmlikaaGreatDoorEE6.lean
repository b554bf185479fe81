/- A part of the proof. -/
import Derived.Test.YteennilbmmlikaaGreatDoorYTryzP
import Derived.Test.YteennilbmmlikaaGreatDoorYLoop
import Derived.Test.YteennilbmmlikaaGreatDoorGEr5
import Derived.Test.YteennilbmmlikaaGreatDoorGPartP
import Derived.Test.YteennilbmmlikaaGreatDoorYFrz
import Derived.Test.YteennilbmmlikaaGreatDoorGA2
namespace Go.Y
open Go.Proofs
set_option maxRecDepth 1000000
set_option maxHeartbeats 0
theorem ZAb{c n h}(K):CP UY 117 (pre (flat (Za Tryz.f117))) (J c n none::V.fn (.func 56) [] []::Rp 17) h [0,1,7,8] K=(K .normal 19 [J c n none, .fn (Fn.func 56) [] [],I (n:Int),I 0] h):=by kernel_rfl
theorem ZAc{c n x8 h}(K):CP UY 117 (flat (Zx (post (flat (Za Tryz.f117))))) (MZ 19 [0,1,7,8] [J c n none,V.fn (Fn.func 56) [] [],I (n:Int),I x8]) h [0,1,4,7,8] K=(If (ltI x8 n) ((0<=x8∧x8<n)∧ ∃a b d e f g i j l m o,Zo 9 (List.drop (x8.toNat*9) c)=some (R9 a b d e f g i j l m o)∧ ∃p,(PCon UY 56 [.agg (R9 a b d e f g i j l m o)] fun v=>v=.b p)∧If p (K .ret 19 [J c n none, .fn (Fn.func 56) [] [],I x8,I (n:Int),I x8] h) (K .normal 19 [J c n none, .fn (Fn.func 56) [] [],Ud,I (n:Int),I (IntKind.i64.wrap (x8+(1:Int)))] h)) (K (.exit 0) 19 [J c n none, .fn (Fn.func 56) [] [],Ud,I (n:Int),I x8] h)):=by kernel_rfl
theorem ZAd{h}(K):CP UY 117 ((post (flat (Za Tryz.f117))).drop 1) (MZ 19 [] []) h [4] K=(K .ret 19 [I (-1)] h):=by kernel_rfl
theorem ZFx{c n h}(K):CP UY 70 (flat (Za Tryz.f70)) (J c n none::V.fn (.func 56) [] []::Rp 7) h [4] K=(Con UY 117 [J c n none,V.fn (Fn.func 56) [] []] h fun(v:V) (h':Heap)=> ∃a,v=I a∧K .ret 9 [.b (leI 0 a)] h'):=by kernel_rfl
theorem ZKn{a e f g j c d l m n h}(K):CP UY 56 (flat (Za Tryz.f56)) (.agg (R9 a e f g j c d none l m n)::Rp 15) h [2] K=(If (a==(2:Int)) (K .ret 16 [.b true] h) (If (a==(3:Int)) (K .ret 16 [.b true] h) (Con UY 70 [J c d none,V.fn (Fn.func (56:Nat)) [] []] h fun(v:V) (h':Heap)=> ∃b,v=.b b∧K .ret 16 [.b b] h'))):=by kernel_rfl
theorem ZKo{a c d e f g j l m b h}(K):CP UY 60 (pre (flat (Za Tryz.f60))) (.agg (R9 a c d e f g j none l m b)::Rp 36) h [1,2,3,4] K=(If (a==(7:Int)) (If (ltI 0 b) (((10:Int)=(0:Int)->False)∧K .normal 37 [.lb [I a,U c,U d,U e,U f,J g j none,I l,I m,I ((IntKind.i64.wrap (b+(1:Int))).tmod (10:Int))], .lb R0,S0,I 0] h) (K .normal 37 [.lb (R9 a c d e f g j none l m b), .lb R0,S0,I 0] h)) (K .normal 37 [.lb (R9 a c d e f g j none l m b), .lb R0,S0,I 0] h)):=by kernel_rfl
theorem ZKp{e f g j m d b o p q a3 l3 c3 k3 x4 h}(K):CP UY 60 (flat (Zx (post (flat (Za Tryz.f60))))) (MZ 37 [1,2,3,4] [.lb (R9 e f g j m d b none o p q),.lb R0,S a3 l3 c3 k3,I x4]) h [1,2,3,4] K=(If (ltI x4 b) ((0<=x4∧x4<b)∧ ∃a c i l n r s t u w x,Zo 9 (List.drop (x4.toNat*9) d)=some (R9 a c i l n r s t u w x)∧ ∃y z a0 a1 a2 a4 a5 a6 a7 a8 a9,(PCon UY 60 [.agg (R9 a c i l n r s t u w x)] fun(v:V)=>v=.agg (R9 y z a0 a1 a2 a4 a5 a6 a7 a8 a9))∧ ∃b0 b1 b2 b3 b4,Zf UY h 26 26 (S a3 l3 c3 k3) (J (R9 y z a0 a1 a2 a4 a5 a6 a7 a8 a9) 1 (some 1))=some (S b0 b1 b2 b3,b4)∧K .normal 37 [.lb (R9 e f g j m d b none o p q), .lb R0,S b0 b1 b2 b3,I (IntKind.i64.wrap (x4+(1:Int)))] b4) (K (.exit 0) 37 [.lb (R9 e f g j m d b none o p q), .lb R0,S a3 l3 c3 k3,I x4] h)):=by kernel_rfl
theorem ZKq{a b c d e l m f g j a3 l3 c3 k3 h}(K):CP UY 60 ((post (flat (Za Tryz.f60))).drop 1) (MZ 37 [1,2,3] [.lb (R9 a b c d e l m none f g j),.lb R0,S a3 l3 c3 k3]) h [2] K=(K .ret 37 [.lb [I a,U b,U c,U d,U e,S a3 l3 c3 k3,I f,I g,I j]] h):=by kernel_rfl
theorem ZKr{a c d e f g j l m n h}(K):CP UY 59 (pre (flat (Za Tryz.f59))) (.agg (R9 a c d e f g j none l m n)::Rp 29) h [1,3,4] K=(If (a==(2:Int)) (K .normal 30 [.lb (R9 a c d e f g j none l m n), .b true,I 0] h) (K .normal 30 [.lb (R9 a c d e f g j none l m n), .b (a==(3:Int)),I 0] h)):=by kernel_rfl
theorem ZKs{f g j m o e d p q r b3 a h}(K):CP UY 59 (flat (Zx (post (flat (Za Tryz.f59))))) (MZ 30 [1,3,4] [.lb (R9 f g j m o e d none p q r),.b b3,I a]) h [1,3,4] K=(If (ltI a d) (If b3 (K .normal 30 [.lb (R9 f g j m o e d none p q r), .b true,I (IntKind.i64.wrap (a+(1:Int)))] h) ((0<=a∧a<d)∧ ∃c i l n s t u w x y z,Zo 9 (List.drop (a.toNat*9) e)=some (R9 c i l n s t u w x y z)∧ ∃a0,(PCon UY 59 [.agg (R9 c i l n s t u w x y z)] fun v=>v=.b a0)∧K .normal 30 [.lb (R9 f g j m o e d none p q r), .b a0,I (IntKind.i64.wrap (a+(1:Int)))] h)) (K (.exit 0) 30 [.lb (R9 f g j m o e d none p q r), .b b3,I a] h)):=by kernel_rfl
theorem ZKt{a h}(K):CP UY 59 ((post (flat (Za Tryz.f59))).drop 1) (MZ 30 [3] [.b a]) h [2] K=(K .ret 30 [.b a] h):=by kernel_rfl
theorem ZAe{B:Nat}(hB:B<2 ^ 20){kids:List Re}(hl:kids.length<=B)(ih: ∀x∈kids,PCon UY 56 [.agg (Zd x)] (· = .b (anchB x)))(h:Heap):
  Con UY 117 [lst Zd kids, .fn (.func 56) [] []] h fun v h'=> ∃n:Int,v= I n∧leI 0 n=kids.any anchB∧h'=h:=by
 refine Zu UK (fn:=Tryz.f117) (Zl UK 19 ZAb rfl ?_)
 refine⟨rfl,ZL [0,1,7,8] [0,1,4,7,8] (fun m vs g=> ∃i:Nat,vs= [lst Zd kids, .fn (.func 56) [] [],I kids.length,I (i:Nat)]∧i<=kids.length∧m=kids.length-i∧(kids.take i).any anchB=false∧g=h) kids.length Zy ⟨0,rfl,by omega,by omega,by simp,rfl⟩ ?_⟩
 rintro m vs g ⟨i,rfl,hi,rfl,ha,rfl⟩
 refine Zs UK ZAc rfl ?_
 refine Zm (fun hlt=> ?_) (fun hge=> ?_)
 ·have hc:=ih kids[i] (qe hlt)
  have hrow:=Jp hlt
  have hsn:(kids.take (i+1)).any anchB=anchB kids[i]:=by rw[qa hlt,List.any_append,ha];simp
  have hmem:anchB kids[i]=true->kids.any anchB=true:=fun e=>List.any_eq_true.2 ⟨_,qe hlt,e⟩
  generalize kids[i]=x at hc hrow hsn hmem
  obtain⟨xk,xs,xl,xlo,xhi,xn⟩:=x
  rw[Zp]at hc hrow
  refine⟨Zz hlt,_,_,_,_,_,_,_,_,_,_,_,hrow,_,hc,Zg (fun hb=> ?_) (fun hb=> ?_)⟩
  ·exact Xv (.inr rfl) rfl (AfterZ.now ⟨_,rfl,by rw[hmem hb];simp[leI],rfl⟩)
  ·exact⟨rfl,kids.length-(i+1),by omega,i+1,by rw[Zh (by omega)];rfl,by omega,rfl,by rw[hsn,hb],rfl⟩
 ·have he:i=kids.length:=by omega
  subst he
  rw[qm]at ha
  refine Zi [] ?_
  refine Zn UK ZAd rfl ?_
  exact finC (.inr rfl) rfl (.now ⟨-1,rfl,by rw[ha];rfl,rfl⟩)

structure AXt(r:Re):Prop where
 c:PCon UY 56 [.agg (Zd r)] (· = .b (anchB r))
theorem Zou{B:Nat}(hB:B<2 ^ 20){k:Int}{s:S4}{kids:List Re}{lo hi n:Int}(hl:kids.length<=B)(ih: ∀x∈kids,PCon UY 56 [.agg (Zd x)] (· = .b (anchB x))):PCon UY 56 [.agg (Zd (.mk k s kids lo hi n))] (· = .b (anchB (.mk k s kids lo hi n))):=by
 rw[Zp,anchB,Zas]
 refine Zt UK (fn:=Tryz.f56) rfl ZKn rfl ?_
 refine Zg (fun h2=>Zv (.inr rfl) rfl (.b _) (by rw[h2];rfl)) (fun h2=>Zg (fun h3=>Zv (.inr rfl) rfl (.b _) (by rw[h2,h3];rfl)) (fun h3=> ?_))
 have c70:Con UY 70 [lst Zd kids, .fn (.func 56) [] []] .empty fun v h'=>v= .b (kids.any anchB):=by
  refine Zu UK (fn:=Tryz.f70) (Zn UK ZFx rfl ?_)
  exact(ZAe hB hl ih .empty).mono fun v h' ⟨m,hv,hm,_⟩=>⟨m,hv,finC (.inr rfl) rfl (.now (by rw[hm];rfl))⟩
 exact c70.mono fun v h' hv=>⟨_,hv,Zv (.inr rfl) rfl (.b _) (by rw[h2,h3];rfl)⟩
mutual
theorem Zsj{B:Nat}(hB:B<2 ^ 20): ∀r:Re,wfRe B r->AXt r
 | .mk k s kids lo hi n,h=>by
  rw[wfRe]at h
  have ih:=Zm8 hB kids h.2.2.2
  exact⟨Zou hB h.2.2.1 fun x hx=>(ih x hx).c⟩
theorem Zm8{B:Nat}(hB:B<2 ^ 20): ∀l:List Re,wfRe.wfRes B l-> ∀x∈l,AXt x
 | [],_,x,hx=>by cases hx
 |r::l,h,x,hx=>by
  rw[wfRe.wfRes]at h
  have h1:=Zsj hB r h.1
  have h2:=Zm8 hB l h.2
  rcases qu.1 hx with e|hx
  ·rw[e];exact h1
  ·exact h2 x hx
end
def AnR(r:Re):Prop:=PCon UY 59 [.agg (Zd r)] (· = .b (anchB r))
theorem Zov{B:Nat}(hB:B<2 ^ 20){k:Int}{s:S4}{kids:List Re}{lo hi n:Int}(hl:kids.length<=B)(ih: ∀x∈kids,AnR x):AnR (.mk k s kids lo hi n):=by
 unfold AnR
 rw[ZD,anchB,Zas]
 refine ZE UK (fn:=Tryz.f59) rfl ?_
 refine Zl UK 30 ZKr rfl ?_
 generalize hq:(k==2||k==3)=q
 generalize hR:(q||kids.any anchB)=R
 have main:PreV UY 30 [1,3,4] (post (flat (Za Tryz.f59))) (FinS UY Tryz.f59 fun v h=> ∃r,Frz h v r∧r= .b R) .normal 30 [.lb [I k,U s.1,U s.2.1,U s.2.2.1,U s.2.2.2,lst Zd kids,I lo,I hi,I n], .b q,I 0] .empty:=by
  refine⟨rfl,ZL [1,3,4] [1,3,4] (fun m vs g=> ∃i:Nat,vs= [.lb [I k,U s.1,U s.2.1,U s.2.2.1,U s.2.2.2,lst Zd kids,I lo,I hi,I n], .b (q||(kids.take i).any anchB),I (i:Nat)]∧i<=kids.length∧m=kids.length-i) kids.length Zy ⟨0,by rw[show(q||(kids.take 0).any anchB)=q by simp];rfl,by omega,by omega⟩ ?_⟩
  rintro m vs g ⟨i,rfl,hi2,rfl⟩
  refine Zs UK ZKs rfl ?_
  refine Zm (fun hlt=> ?_) (fun hge=> ?_)
  ·have hsn:(kids.take (i+1)).any anchB=((kids.take i).any anchB||anchB kids[i]):=by rw[qa hlt,List.any_append];simp
   refine Zg (fun hb=> ?_) (fun hb=> ?_)
   ·refine⟨rfl,kids.length-(i+1),by omega,i+1,?_,by omega,rfl⟩
    rw[Zh (by omega),hsn,<-Bool.or_assoc,hb];rfl
   ·have hc:=ih kids[i] (qe hlt)
    unfold AnR at hc
    have hrow:=Jp hlt
    generalize kids[i]=x at hc hrow hsn
    obtain⟨xk,xs,xl,xlo,xhi,xn⟩:=x
    rw[Zp]at hc hrow
    refine⟨Zz hlt,_,_,_,_,_,_,_,_,_,_,_,hrow,_,hc,?_⟩
    refine⟨rfl,kids.length-(i+1),by omega,i+1,?_,by omega,rfl⟩
    rw[Zh (by omega),hsn,<-Bool.or_assoc,hb,Bool.false_or];rfl
  ·have he:i=kids.length:=by omega
   subst he
   rw[qm,hR]
   refine Zi [3] ?_
   refine Zn UK ZKt rfl ?_
   exact Zv (.inr rfl) rfl (.b _) rfl
 refine Zg (fun h2=> ?_) (fun h2=> ?_)
 ·rw[h2,Bool.true_or]at hq
  rw[hq];exact main
 ·rw[h2,Bool.false_or]at hq
  rw[hq];exact main
mutual
theorem Zm9{B:Nat}(hB:B<2 ^ 20): ∀r:Re,wfRe B r->AnR r
 | .mk k s kids lo hi n,h=>by
  rw[wfRe]at h
  exact Zov hB h.2.2.1 (Zji hB kids h.2.2.2)
theorem Zji{B:Nat}(hB:B<2 ^ 20): ∀l:List Re,wfRe.wfRes B l-> ∀x∈l,AnR x
 | [],_,x,hx=>by cases hx
 |r::l,h,x,hx=>by
  rw[wfRe.wfRes]at h
  have h1:=Zm9 hB r h.1
  have h2:=Zji hB l h.2
  rcases qu.1 hx with e|hx
  ·exact e▸h1
  ·exact h2 x hx
end

def LbR(r:Re):Prop:=PCon UY 60 [.agg (Zd r)] (· = .agg (Zd (laterF r)))
theorem Zla{B:Nat}(hB:B<2 ^ 20){k:Int}{s:S4}{kids:List Re}{lo hi n:Int}(hl:kids.length<=B)(ih: ∀x∈kids,LbR x):LbR (.mk k s kids lo hi n):=by
 unfold LbR
 rw[ZD,Za0]
 refine ZE UK (fn:=Tryz.f60) rfl ?_
 refine Zl UK 37 ZKo rfl ?_
 generalize hR:V.agg (Zd (.mk k s (kids.map laterF) lo hi (Zcd k n)))=R
 have main: ∀g2:Int,g2=Zcd k n->PreV UY 37 [1,2,3,4] (post (flat (Za Tryz.f60))) (FinS UY Tryz.f60 fun v h=> ∃r,Frz h v r∧r=R) .normal 37 [.lb [I k,U s.1,U s.2.1,U s.2.2.1,U s.2.2.2,lst Zd kids,I lo,I hi,I g2],Zjg, .sl none 0 (some 0) 0,I 0] .empty:=by
  intro g2 hg2
  refine⟨rfl,ZL [1,2,3,4] [1,2,3,4] (fun m vs g=> ∃(i:Nat) (a:Option (Nat×Nat)) (l:Nat) (c:Option Nat) (kk:Nat),vs= [.lb [I k,U s.1,U s.2.1,U s.2.2.1,U s.2.2.2,lst Zd kids,I lo,I hi,I g2],Zjg, .sl a l c kk,I (i:Nat)]∧i<=kids.length∧m=kids.length-i∧LX Zd 9 g a l c kk ((kids.take i).map laterF)) kids.length Zy ⟨0,none,0,some 0,0,rfl,by omega,by omega,LX.start _ _ _ _ _⟩ ?_⟩
  rintro m vs g ⟨i,a,l,c,kk,rfl,hi2,rfl,hL⟩
  refine Zs UK ZKp rfl ?_
  refine Zm (fun hlt=> ?_) (fun hge=> ?_)
  ·have hc:=ih kids[i] (qe hlt)
   unfold LbR at hc
   have hrow:=Jp hlt
   have hsn:(kids.take (i+1)).map laterF=(kids.take i).map laterF++ [laterF kids[i]]:=by rw[qa hlt,List.map_append];rfl
   generalize laterF kids[i]=y at hc hsn
   generalize kids[i]=x at hc hrow
   obtain⟨xk,xs,xl,xlo,xhi,xn⟩:=x
   rw[Zp]at hrow
   rw[ZD]at hc
   refine⟨Zz hlt,_,_,_,_,_,_,_,_,_,_,_,hrow,Qh y hc fun k0 s0 s1 s2 s3 cs l0 cc lo2 hi3 n0 he=> ?_⟩
   obtain⟨a',l',c',k',h',q1,q2,q3,q4⟩:=Zdt y he hL (by simp;omega)
   exact⟨a',l',c',k',h',q1,rfl,kids.length-(i+1),by omega,i+1,a',l',c',k',by rw[Zh (by omega)];rfl,by omega,rfl,by rw[hsn];exact q2⟩
  ·have he:i=kids.length:=by omega
   subst he
   rw[qm]at hL
   refine Zi [1,2,3] ?_
   refine Zn UK ZKq rfl ?_
   refine Zv (.inr rfl) rfl ?_ rfl
   rw[<-hR,Zp,hg2]
   exact .agg _ _ (.cons _ _ _ _ (.i _ _) (.cons _ _ _ _ (.i _ _) (.cons _ _ _ _ (.i _ _) (.cons _ _ _ _ (.i _ _) (.cons _ _ _ _ (.i _ _) (.cons _ _ _ _ (hL.frz (by decide) ZK Xb) (.cons _ _ _ _ (.i _ _) (.cons _ _ _ _ (.i _ _) (.cons _ _ _ _ (.i _ _) .nil)))))))))
 refine Zg (fun h7=>Zg (fun hn=>⟨by simp,main _ ?_⟩) (fun hn=>main _ ?_)) (fun h7=>main _ ?_)
 ·unfold Zcd;rw[if_pos h7,if_pos hn]
 ·unfold Zcd;rw[if_pos h7,if_neg (by rw[hn];decide)]
 ·unfold Zcd;rw[if_neg (by rw[h7];decide)]
mutual
theorem Zna{B:Nat}(hB:B<2 ^ 20): ∀r:Re,wfRe B r->LbR r
 | .mk k s kids lo hi n,h=>by
  rw[wfRe]at h
  exact Zla hB h.2.2.1 (Zjj hB kids h.2.2.2)
theorem Zjj{B:Nat}(hB:B<2 ^ 20): ∀l:List Re,wfRe.wfRes B l-> ∀x∈l,LbR x
 | [],_,x,hx=>by cases hx
 |r::l,h,x,hx=>by
  rw[wfRe.wfRes]at h
  have h1:=Zna hB r h.1
  have h2:=Zjj hB l h.2
  rcases qu.1 hx with e|hx
  ·exact e▸h1
  ·exact h2 x hx
end
def RowJ(h0:Heap)(id:Nat)(s:List UInt8)(d:Nat)(R:PR Re)(N m:Nat)(vs:List V)(h:Heap):Prop:=
 ∃(a:Option (Nat×Nat)) (l:Nat) (c:Option Nat) (k:Nat) (out:List Re) (i g:Nat) (e:Int),vs= [.p (some (id,0)), .i .i64 (d:Nat), .undef,Zd6, .sl a l c k]∧LX Zd 9 h a l c k out∧(∀j,a=some (j,0)->h0.nx<=j)∧
  RdE h id s i g e∧FrO h0 id h∧out.length<=s.length+1∧((e=0∧i<=s.length∧g<=i∧out.length<=i∧6*(s.length-i)+5<=m∧m<=N∧rowE m d s i g out=R)∨(e≠0∧R= .error (e,i)))

theorem Zsk(k:Int){out:List Re}{h:Heap}{a}{l:Nat}{c}{kk:Nat}(hL:LX Zd 9 h a l c kk out){fn:Func}{nn:Nat}{slots:List Nat}{F:V->Heap->Prop}
  (hf: ∀D:List Nat,(∀j,j∈D->a=some (j,0))-> ∀x:Re,x=sevS k out-> ∀(n n_1 n_2 n_3 n_4:Int) (cs:List V) (l:Nat) (c:Option Nat) (n_5 n_6 n_7:Int),V.agg (Zd x)= .agg [I n,U n_1,U n_2,U n_3,U n_4, .ts cs l c,I n_5,I n_6,I n_7]->
   Go.Y.Fin UY fn slots F .ret nn [.lb [I n,U n_1,U n_2,U n_3,U n_4, .ts cs l c,I n_5,I n_6,I n_7]] (XT h D)):
  Con UY 138 [I k, .sl a l c kk] h fun v h'=> ∃(n n_1 n_2 n_3 n_4:Int) (cs:List V) (l:Nat) (c:Option Nat) (n_5 n_6 n_7:Int),v= .agg [I n,U n_1,U n_2,U n_3,U n_4, .ts cs l c,I n_5,I n_6,I n_7]∧
   Go.Y.Fin UY fn slots F .ret nn [.lb [I n,U n_1,U n_2,U n_3,U n_4, .ts cs l c,I n_5,I n_6,I n_7]] h':=by
 refine Zz5 k hL fun D hD=> ?_
 obtain⟨x,hx⟩: ∃x,sevS k out=x:=⟨_,rfl⟩
 have:=hf D hD x hx.symm
 rw[hx]
 obtain⟨xk,xs,xl,xlo,xhi,xn⟩:=x
 exact⟨_,_,_,_,_,_,_,_,_,_,_,ZD _ _ _ _ _ _,this _ _ _ _ _ _ _ _ _ _ _ (ZD _ _ _ _ _ _)⟩

theorem rowR{n:Nat}(ih: ∀m,m<n->AllR m){h:Heap}{id:Nat}{s:List UInt8}{i g d:Nat}(r:RdE h id s i g 0)(hs:s.length<2 ^ 27)(hi:i<=s.length)(hg:g<=i)(hd:d<=64)(hn:6*(s.length-i)+5<=n):
  Con UY 135 [.p (some (id,0)),I d] h (reQ (rowE n d s i g []) h id s):=by
 refine Zu UK (fn:=Tryz.f135) (Zl UK 21 ZFn rfl ?_)
 generalize hR:rowE n d s i g []=R
 refine⟨rfl,ZL [0,1,2,4,5] [0,1,2,4,5] (RowJ h id s d R n) n Zy ⟨none,0,some 0,0,[],i,g,0,rfl,LX.start _ _ _ _ _,by simp,r, .refl _ _,by simp, .inl ⟨rfl,hi,hg,by simp,hn,qnq _,hR⟩⟩ ?_⟩
 have hid:=r.lt
 clear r hi hg hn hR
 rintro m vs h1 ⟨a,l,c,k,out,j,gg,e,rfl,hL,hnew,hr,hfr,hol,hst⟩
 refine Zs UK ZFo rfl ?_
 have stop:((e=0∧R= .ok (sevS 4 out,j,gg))∨(e≠0∧R= .error (e,j)))->XH UY 21 [0,1,2,4,5] [0,1,2,4,5] (RowJ h id s d R n) m (Xa (post (flat (Za Tryz.f135)))) ((post (flat (Za Tryz.f135))).drop 1) (FinS UY Tryz.f135 (AfterZ (reQ R h id s))) (.exit 0) 21
   [.p (some (id,0)),I d, .undef,Zd6, .sl a l c k] h1:=fun hf=>by
  refine Zi [4,5] ?_
  refine Zn UK ZFp rfl ?_
  refine Zsk 4 hL fun D hD x hx n n1 n2 n3 n4 cs l' c' n5 n6 n7 hv=>finC (.inr rfl) rfl (.now ?_)
  rw[<-hv]
  have hD': ∀x,x∈D->h.nx<=x:=fun x hx=>hnew x (hD x hx)
  exact⟨x,j,gg,e,rfl,hr.kill hD' hid,hfr.kill hD',by rw[hx];exact hf⟩
 refine⟨_,Zzv hr,Zg (fun hb=> ?_) (fun hb=>stop ?_)⟩
 rotate_left
 ·rcases hst with ⟨rfl,hj,hgg,hoj,hm,hmN,hR⟩|hst
  ·obtain⟨m,rfl⟩: ∃m',m=m'+1:=⟨m-1,by omega⟩
   have hge: ¬j<s.length:=by simpa using hb
   rw[rowE,qq (by omega)]at hR
   exact .inl ⟨rfl,hR.symm⟩
  ·exact .inr hst
 have hb2:e=0∧j<s.length:=by simpa using hb
 obtain⟨rfl,hlt⟩:=hb2
 rcases hst with ⟨_,hj,hgg,hoj,hm,hmN,hR⟩|⟨he,_⟩
 rotate_left
 ·exact absurd rfl he
 obtain⟨m,rfl⟩: ∃m',m=m'+1:=⟨m-1,by omega⟩
 have hsj:s[j]? =some s[j]:=by simp[hlt]
 rw[rowE,hsj]at hR;simp only[]at hR
 have hpk:pk s j [124,41]=true↔(s[j]=124∨s[j]=41):=by rw[WG hsj];simp
 refine⟨_,VJ hr [124,41],Zg (fun hb2=> ?_) (fun hb2=>stop (.inl ⟨rfl,?_⟩))⟩
 ·have hb2:pk s j [124,41]=false:=by simpa using hb2
  rw[if_neg (fun hc=>by rw[hpk.2 hc]at hb2;cases hb2)]at hR
  refine((ih m (by omega)).piece hr hs hlt hgg hd (by omega)).mono fun v h2 ⟨x,j2,g2,e2,hv,u1,u2,u3⟩=> ?_
  subst hv
  obtain⟨xk,xs,xl,xlo,xhi,xn⟩:=x
  obtain⟨a',l',c',k',h3,q1,q2,q3,q,q4,q5⟩:=Zdt (.mk xk xs xl xlo xhi xn) (Zp _ _ _ _ _ _) (hL.keep hnew hid u2) (by omega)
  have hnew': ∀x,a'=some (x,0)->h.nx<=x:=fun x hx=>by rw[q4]at hx;cases hx;have:=hfr.1;have:=u2.1;omega
  have u1':=u1.app q3 fun o=>hL.ne hnew hid
  have fr':=(hL.keep hnew hid u2).frO hnew (hfr.trans u2) q3
  have hlen':(out++ [Re.mk xk xs xl xlo xhi xn]).length<=s.length+1:=by simp;omega
  rcases u3 with ⟨rfl,hr2⟩|⟨he2,hr2⟩
  ·rw[hr2]at hR;simp only[]at hR
   have hp:=(XD s m).2.2.2.1 hr2 (by omega) hgg
   exact⟨_,_,_,_,_,_,_,_,_,_,_,ZD _ _ _ _ _ _,a',l',c',k',h3,q1,rfl,m,by omega,a',l',c',k',_,j2,g2,0,rfl,q2,hnew',u1',fr',hlen', .inl ⟨rfl,by omega,by omega,by simp;omega,by omega,by omega,hR⟩⟩
  ·rw[hr2]at hR
   exact⟨_,_,_,_,_,_,_,_,_,_,_,ZD _ _ _ _ _ _,a',l',c',k',h3,q1,rfl,m,by omega,a',l',c',k',_,j2,g2,e2,rfl,q2,hnew',u1',fr',hlen', .inr ⟨he2,hR.symm⟩⟩
 ·have hb2:pk s j [124,41]=true:=by simpa using hb2
  rw[if_pos (hpk.1 hb2)]at hR;exact hR.symm

theorem altR{n:Nat}(ih: ∀m,m<n->AllR m){h:Heap}{id:Nat}{s:List UInt8}{i g d:Nat}(r:RdE h id s i g 0)(hs:s.length<2 ^ 27)(hi:i<=s.length)(hg:g<=i)(hd:d<=64)(hn:6*(s.length-i)+6<=n):
  Con UY 106 [.p (some (id,0)),I d] h (reQ (altE n d s i g) h id s):=by
 obtain⟨n,rfl⟩: ∃m,n=m+1:=⟨n-1,by omega⟩
 refine Zu UK (fn:=Tryz.f106) (Zl UK 22 ZFk rfl ?_)
 generalize hR:altE (n+1) d s i g=R
 rw[altE]at hR
 refine((ih n (by omega)).row r hs hi hg hd (by omega)).mono fun v h1 ⟨x,j,gg,e,hv,u1,u2,u3⟩=> ?_
 subst hv
 obtain⟨xk,xs,xl,xlo,xhi,xn⟩:=x
 have hid:=r.lt
 have hL0:LX Zd 9 (h1.push (.arr (Zd (.mk xk xs xl xlo xhi xn)) true)) (some (h1.nx,0)) 1 (some 1) 9 [.mk xk xs xl xlo xhi xn]:=LX.one _ _ _ _
 rw[Zp]at hL0
 have u1':RdE (h1.push (.arr [I xk,U xs.1,U xs.2.1,U xs.2.2.1,U xs.2.2.2,lst Zd xl,I xlo,I xhi,I xn] true)) id s j gg e:=⟨by rw[qk,if_neg (by have:=u1.lt;omega)];exact u1.get,by have:=u1.lt;simp;omega⟩
 have u2':FrO h id (h1.push (.arr [I xk,U xs.1,U xs.2.1,U xs.2.2.1,U xs.2.2.2,lst Zd xl,I xlo,I xhi,I xn] true)):=⟨by have:=u2.1;simp;omega,fun q hq hne=>by rw[qk,if_neg (by have:=u2.1;omega)];exact u2.2 q hq hne⟩
 refine⟨_,_,_,_,_,_,_,_,_,_,_,ZD _ _ _ _ _ _,rfl,ZL [0,1,4,5] [0,1,4,5] (AltI h id s d R (n+1)) n Zy ⟨h1.nx,1,some 1,_,j,gg,e,rfl,hL0,by simp,u2.1,u1',u2',by simp,?_⟩ ?_⟩
 ·rcases u3 with ⟨rfl,hr⟩|⟨he,hr⟩
  ·have hp:=(XD s n).2.2.1 hr hi hg
   rw[hr]at hR
   exact .inl ⟨rfl,by omega,by omega,by simp,by omega,by omega,hR⟩
  ·rw[hr]at hR
   exact .inr ⟨he,hR.symm⟩
 clear r hi hg hn hR u1 u2 u3 hL0 u1' u2'
 rintro m vs h1 ⟨q,l,c,out,j,gg,e,rfl,hL,hne,hqn,hr,hfr,hol,hst⟩
 refine Zs UK ZFl rfl ?_
 have hnew: ∀x,(some (q,0):Option (Nat×Nat))=some (x,0)->h.nx<=x:=fun x hx=>by cases hx;exact hqn
 have stop:((e=0∧R= .ok (sevS 5 out,j,gg))∨(e≠0∧R= .error (e,j)))->XH UY 22 [0,1,4,5] [0,1,4,5] (AltI h id s d R (n+1)) m (Xa (post (flat (Za Tryz.f106)))) ((post (flat (Za Tryz.f106))).drop 1) (FinS UY Tryz.f106 (AfterZ (reQ R h id s))) (.exit 0) 22
   [.p (some (id,0)),I d,Zd6, .sl (some (q,0)) l c 9] h1:=fun hf=>by
  refine Zi [4,5] ?_
  refine Zn UK ZFm rfl ?_
  refine Zsk 5 hL fun D hD x hx n n1 n2 n3 n4 cs l' c' n5 n6 n7 hv=>finC (.inr rfl) rfl (.now ?_)
  rw[<-hv]
  have hD': ∀x,x∈D->h.nx<=x:=fun x hx=>hnew x (hD x hx)
  exact⟨x,j,gg,e,rfl,hr.kill hD' hid,hfr.kill hD',by rw[hx];exact hf⟩
 refine⟨_,VJ hr [124],Zg (fun hb=> ?_) (fun hb=>stop ?_)⟩
 ·have h0:e=0∧s[j]? =some 124:=by rw[Qf]at hb;simpa using hb
  obtain⟨rfl,h124⟩:=h0
  rcases hst with ⟨_,hj,hgg,hoj,hm,hmN,hR⟩|⟨he,_⟩
  ·obtain⟨m,rfl⟩: ∃m',m=m'+1:=⟨m-1,by omega⟩
   rw[JY,if_pos h124]at hR
   have hlt:=(qb.1 h124).1
   refine(Zer hr (by omega)).mono fun v h2 hq=> ?_
   rcases hq with ⟨dd,_,hdd,hv,g2,g3⟩|⟨_,hnn,_⟩|⟨he,_⟩
   rotate_left
   ·rw[h124]at hnn;cases hnn
   ·exact absurd rfl he
   have hL2:=hL.keep hnew hid g3
   refine⟨_,hv,?_⟩
   refine((ih m (by omega)).row g2 hs (by omega) (by omega) hd (by omega)).mono fun v h3 ⟨x,j2,gg2,e2,hv,u1,u2,u3⟩=> ?_
   subst hv
   obtain⟨xk,xs,xl,xlo,xhi,xn⟩:=x
   have hL3:=hL2.keep hnew hid u2
   obtain⟨a',l',c',k',h4,q1,q2,q3,q',q4,q5⟩:=Zdt (.mk xk xs xl xlo xhi xn) (Zp _ _ _ _ _ _) hL3 (by omega)
   subst q4
   obtain⟨_,_,hk',_⟩:=q2.cells (by simp)
   subst hk'
   have hq':h.nx<=q':=by have:=hfr.1;have:=g3.1;have:=u2.1;omega
   have u1':=u1.app q3 fun o=>hL3.ne hnew hid
   have fr':=hL3.frO hnew ((hfr.trans g3).trans u2) q3
   have hlen':(out++ [Re.mk xk xs xl xlo xhi xn]).length<=s.length+2:=by simp;omega
   rcases u3 with ⟨rfl,hr2⟩|⟨he2,hr2⟩
   ·rw[hr2]at hR;simp only[]at hR
    have hp:=(XD s m).2.2.1 hr2 (by omega) (by omega)
    exact⟨_,_,_,_,_,_,_,_,_,_,_,ZD _ _ _ _ _ _,_,l',c',_,h4,q1,rfl,m,by omega,q',l',c',_,j2,gg2,0,rfl,q2,by simp,hq',u1',fr',hlen', .inl ⟨rfl,by omega,by omega,by simp;omega,by omega,by omega,hR⟩⟩
   ·rw[hr2]at hR
    exact⟨_,_,_,_,_,_,_,_,_,_,_,ZD _ _ _ _ _ _,_,l',c',_,h4,q1,rfl,m,by omega,q',l',c',_,j2,gg2,e2,rfl,q2,by simp,hq',u1',fr',hlen', .inr ⟨he2,hR.symm⟩⟩
  ·exact absurd rfl he
 ·rcases hst with ⟨rfl,hj,hgg,hoj,hm,hmN,hR⟩|hst
  ·have h124:s[j]? ≠some 124:=by rw[Qf]at hb;simpa using hb
   obtain⟨m,rfl⟩: ∃m',m=m'+1:=⟨m-1,by omega⟩
   rw[JY,if_neg h124]at hR
   exact .inl ⟨rfl,hR.symm⟩
  ·exact .inr hst

theorem allR(n:Nat):AllR n:=by
 induction n using Nat.strongRecOn with
 |ind n ih=>exact⟨altR ih,rowR ih,ZFt ih,ZKe ih⟩

theorem Zfo(s:List UInt8):PCon UY 55 [.s s] (· =Zbw s):=by
 refine Zt UK (fn:=Tryz.f55) rfl ZKd rfl ?_
 unfold Zbw
 generalize hP:Qg s=P
 unfold Qg at hP
 refine XC (fun hlt=> ?_) (fun hge=> ?_)
 ·rw[if_pos (by omega)]at hP
  subst hP
  exact Zg0 (.inr rfl) rfl (Xu _) (.i _ _) (.i _ _) rfl
 rw[if_neg (by omega)]at hP
 have r:RdE (Heap.empty.push (.arr [.s s,I 0,I 0,I 0] true)) Heap.empty.nx s 0 0 0:=⟨by rw[qk,if_pos rfl];rfl,by simp⟩
 refine((allR (6*s.length+10)).alt (d:=0) r (by omega) (by omega) (by omega) (by omega) (by omega)).mono fun v h1 ⟨x,j,g,e,hv,u1,u2,u3⟩=> ?_
 subst hv
 obtain⟨xk,xs,xl,xlo,xhi,xn⟩:=x
 have good: ∀h2:Heap,P= .ok (.mk xk xs xl xlo xhi xn)->Go.Y.Fin UY Tryz.f55 [2,3,4] (fun v h=> ∃r,Frz h v r∧r=erV P) .ret 35
   [.lb [I xk,U xs.1,U xs.2.1,U xs.2.2.1,U xs.2.2.2,lst Zd xl,I xlo,I xhi,I xn],I 0,I 0] h2:=fun h2 hp=>by
  subst hp
  refine Zg0 (.inr rfl) rfl ?_ (.i _ _) (.i _ _) rfl
  rw[<-ZD];exact WI _ _
 have bad: ∀(h2:Heap) (p:Nat) (e:Int),P= .error (e,p)->Go.Y.Fin UY Tryz.f55 [2,3,4] (fun v h=> ∃r,Frz h v r∧r=erV P) .ret 35
   [.lb [I 0,U 0,U 0,U 0,U 0, .sl none 0 (some 0) 0,I 0,I 0,I 0],I (p:Nat),I e] h2:=fun h2 p e hp=>by
  subst hp
  exact Zg0 (.inr rfl) rfl (Xu _) (.i _ _) (.i _ _) rfl
 have test: ∀(h2:Heap) (p gg:Nat) (e:Int),RdE h2 Heap.empty.nx s p gg e->(e=0->P= .ok (.mk xk xs xl xlo xhi xn))->(e≠0->P= .error (e,p))->
   ∃n_8:Int,Zb h2 Heap.empty.nx 3 1=some [I n_8]∧If (n_8 !=0) (∃n:Int,Zb h2 Heap.empty.nx 1 1=some [I n]∧ ∃n_9:Int,Zb h2 Heap.empty.nx 3 1=some [I n_9]∧Go.Y.Fin UY Tryz.f55 [2,3,4] (fun v h=> ∃r,Frz h v r∧r=erV P) .ret 35
    [.lb [I 0,U 0,U 0,U 0,U 0, .sl none 0 (some 0) 0,I 0,I 0,I 0],I n,I n_9] h2)
    (Go.Y.Fin UY Tryz.f55 [2,3,4] (fun v h=> ∃r,Frz h v r∧r=erV P) .ret 35
    [.lb [I xk,U xs.1,U xs.2.1,U xs.2.2.1,U xs.2.2.2,lst Zd xl,I xlo,I xhi,I xn],I 0,I 0] h2):=fun h2 p gg e w h0 h1=>
  ⟨_,w.c3,Zg (fun hc=>⟨_,w.c1,_,w.c3,bad h2 p e (h1 (by simpa using hc))⟩) (fun hc=>good h2 (h0 (by simpa using hc)))⟩
 refine⟨_,_,_,_,_,_,_,_,_,_,_,ZD _ _ _ _ _ _,_,Zzv u1,?_⟩
 rcases u3 with ⟨rfl,hr⟩|⟨he,hr⟩
 ·rw[hr]at hP;simp only[]at hP
  refine Zg (fun hb=> ?_) (fun hb=> ?_)
  ·have hlt:j<s.length:=by simpa using hb
   rw[if_pos hlt]at hP
   refine(Zk7 u1 1).mono fun v h2 ⟨hv,w1,w2⟩=>⟨hv,test h2 j g 1 (by simpa using w1) (fun h=>by cases h) (fun _=>hP.symm)⟩
  ·have hlt: ¬j<s.length:=by simpa using hb
   rw[if_neg hlt]at hP
   exact test h1 j g 0 u1 (fun _=>hP.symm) (fun h=>absurd rfl h)
 ·rw[hr]at hP
  refine Zg (fun hb=>absurd ((by simpa using hb:e=0∧j<s.length)).1 he) (fun _=>test h1 j g e u1 (fun h=>absurd h he) (fun _=>hP.symm))
structure LY(h:Heap)(a:Option (Nat×Nat))(l:Nat)(c:Option Nat)(kk:Nat)(out:List Re):Prop where
 cells: ∃(j:Nat) (cs:List V),a=some (j,0)∧kk=9∧j<h.nx∧h.get j=some (.arr cs true)∧(c=none∨c=some l)∧ZQ cs=true∧FrzL .empty cs (row Zd out)∧cs.length=l*9
 len:l=out.length

theorem Zsl(L:List Re):FrzL .empty (row Zd L) (row Zd L):=ZU _ (Jj Xb L)
theorem LY.one{h:Heap}{x:Re}{cs}(hx:Zd x=cs):LY (h.push (.arr cs true)) (some (h.nx,0)) 1 (some 1) 9 [x]:=by
 subst hx
 have e:row Zd [x]=Zd x:=by simp[row]
 exact⟨⟨h.nx,Zd x,rfl,rfl,by simp,by rw[qk,if_pos rfl], .inr rfl,Xb x,by rw[e];exact ZU _ (Xb x),by rw[ZK]⟩,rfl⟩

theorem LY.app{h:Heap}{a}{l:Nat}{c}{kk:Nat}{out:List Re}(hl:LY h a l c kk out)(L:List Re){new:List V}(hf:FrzL .empty new (row Zd L))(hcold:ZQ new=true)(hc:Zk new=true)(hn:new.length=L.length*9)(hb:out.length+L.length<2 ^ 29){m:Nat}(hm':m=L.length)(cap:Option Nat):
  ∃a' l' c' k' h',Zf UY h 26 26 (.sl a l c kk) (.ts new m cap)=some (.sl a' l' c' k',h')∧LY h' a' l' c' k' (out++L):=by
 subst hm'
 obtain⟨⟨j,cs,rfl,rfl,hj,hg,hcap,hcc,hcf,hcl⟩,hlen⟩:=hl
 subst hlen
 have hk:UY.kd 26=some (.slice 28):=by kernel_rfl
 have hte:UY.ty 28=some ⟨9,88, .struct [(0,3),(1,25),(5,26),(6,3),(7,3),(8,3)],[I 0,U 0,U 0,U 0,U 0, .sl none 0 (some 0) 0,I 0,I 0,I 0]⟩:=by kernel_rfl
 have hlen:Zo (L.length*9) new=some new:=ZA hn.symm
 have hm:most=1099511627776:=by decide
 have hsrc:Xz UY ⟨[],[],h⟩ ⟨9,88, .struct [(0,3),(1,25),(5,26),(6,3),(7,3),(8,3)],[I 0,U 0,U 0,U 0,U 0, .sl none 0 (some 0) 0,I 0,I 0,I 0]⟩ 26 (.ts new L.length cap)=some (L.length,new):=by
  simp only[Xz,hk,QL,XE,hlen];rfl
 by_cases hL:L= []
 ·subst hL
  have hnew:new= []:=qg (by rw[hn];simp)
  subst hnew
  refine⟨some (j,0),out.length,c,9,h,?_,⟨⟨j,cs,rfl,rfl,hj,hg,hcap,hcc,by rw[qi];exact hcf,hcl⟩,by simp⟩⟩
  simp only[Zf,ZR,hk,hte,hsrc]
  rfl
 have hpos:0<L.length:=List.length_pos_iff.2 hL
 have hfz:FrzL .empty (cs++new) (row Zd (out++L)):=by rw[Xo];exact hcf.append hf
 have hcold2:=QE hcc hcold
 have hsum:(cs++new).length=(out.length+L.length)*9:=by rw[qf,hcl,hn];omega
 rcases hcap with rfl|rfl
 ·obtain⟨a',l',c',k',h',q1,q2,q3,q4,jj,q5,q6⟩:=Zaf (Y:=UY) (h:=h) (k:=9) (a:=some (j,0)) (l:=out.length) (c:=none) (kk:=9) (cs:=cs) (new:=new) (m:=L.length) (cap:=cap) hk hte rfl (by decide) ⟨hcl.symm, .inr ⟨j,rfl,rfl,rfl,hj,hg⟩⟩ (by omega) hlen hc (by rw[hm];show(out.length+L.length)*88<=_;omega) (by rw[hm];omega)
  refine⟨a',l',c',k',h',q1,⟨?_,by rw[q4,qf]⟩⟩
  obtain⟨_,(⟨e,_⟩|⟨id,e1,e2,e3,e4,e5⟩)⟩:=q2
  ·rw[q5]at e;cases e
  ·exact⟨id,_,e1,e3,e4,e5, .inl e2,hcold2,hfz,by rw[hsum,q4]⟩
 ·refine⟨some (h.nx,0),out.length+L.length,none,9,h.push (.arr (cs++new) true),?_,⟨⟨h.nx,_,rfl,rfl,by simp,by rw[qk,if_pos rfl], .inl rfl,hcold2,hfz,hsum⟩,by rw[qf]⟩⟩
  have h0: ¬(L.length=0):=by omega
  have hb1: ¬((out.length+L.length)*88>most∨out.length+L.length>most):=by omega
  have hne2: ¬(out.length+L.length<=out.length):=by omega
  have htk:Zo (out.length*9) (cs.drop 0)=some cs:=by rw[ql];exact ZA hcl.symm
  simp only[Zf,ZR,hk,hte,hsrc,ne_eq,not_true_eq_false,if_false,h0,hb1,hne2,Xg,hg,htk]
  rw[if_neg (by simp[hc])]
theorem LY.apps{h:Heap}{a}{l:Nat}{c}{kk:Nat}{out:List Re}(hl:LY h a l c kk out)(L:List Re)(hb:out.length+L.length<2 ^ 29)(cap:Option Nat):
  ∃a' l' c' k' h',Zf UY h 26 26 (.sl a l c kk) (.ts (row Zd L) L.length cap)=some (.sl a' l' c' k',h')∧LY h' a' l' c' k' (out++L):=
 hl.app L (Zsl L) (Jj Xb L) (Zd8 L) (Xf ZK L) hb rfl cap
theorem LY.app1{h:Heap}{a}{l:Nat}{c}{kk:Nat}{out:List Re}(hl:LY h a l c kk out)(x:Re){cs}(hx:Zd x=cs)(hb:out.length<2 ^ 28):
  ∃a' l' c' k' h',Zf UY h 26 26 (.sl a l c kk) (.ts cs 1 (some 1))=some (.sl a' l' c' k',h')∧LY h' a' l' c' k' (out++ [x]):=by
 have e:row Zd [x]=cs:=by rw[<-hx];simp[row]
 have:=hl.apps [x] (by simp;omega) (some 1)
 rw[e]at this
 exact this
theorem LY.afterZ{h:Heap}{a}{l:Nat}{c}{kk:Nat}{out:List Re}(hl:LY h a l c kk out): ∃D:List Nat,Frz (VW h D) (.sl a l c kk) (lst Zd out):=by
 obtain⟨⟨j,cs,rfl,rfl,hj,hg,hcap,hcc,hcf,hcl⟩,hlen⟩:=hl
 subst hlen
 exact⟨[j], .sl _ _ _ _ _ cs true cs _ _ (by rw[QW,if_pos (by simp),hg]) (by rw[ql];exact ZA hcl.symm) (fun x hx=>by cases hx) (by decide) (VA hcc hcf)⟩

/-! ### Row, as it is called -/
def Za1(S:Re):Re:=if mayE S=true then S else Xs
def fitE(S:Re):Int:=if mayE S=true then 0 else 2
theorem Zd9(S:Re):fitV S= .tup [.agg (Zd (Za1 S)),I (fitE S)]:=by unfold fitV Za1 fitE;split<;>rfl

theorem Zha{f:FuncId}{args}{h:Heap}{S:Re}{D:List Nat}(c:Con UY f args h fun v h'=>v=fitV S∧h'=XT h D){K:Int->Int->Int->Int->Int->List V->Nat->Option Nat->Int->Int->Int->Int->Heap->Prop}
  (hk: ∀k s0 s1 s2 s3 cs l cc lo hi n e,Zd (Za1 S)= [I k,U s0,U s1,U s2,U s3, .ts cs l cc,I lo,I hi,I n]->e=fitE S->K k s0 s1 s2 s3 cs l cc lo hi n e (XT h D)):
  Con UY f args h fun v h'=> ∃n n_1 n_2 n_3 n_4 cs l c n_5 n_6 n_7 n_8,v= .tup [.agg [I n,U n_1,U n_2,U n_3,U n_4, .ts cs l c,I n_5,I n_6,I n_7],I n_8]∧K n n_1 n_2 n_3 n_4 cs l c n_5 n_6 n_7 n_8 h':=
 c.mono fun v h' ⟨hv,hh⟩=>by
  subst hv hh
  rw[Zd9]
  have hk:=hk
  revert hk
  generalize Za1 S=x
  intro hk
  obtain⟨xk,xs,xl,xlo,xhi,xn⟩:=x
  exact⟨_,_,_,_,_,_,_,_,_,_,_,_,by rw[ZD],hk _ _ _ _ _ _ _ _ _ _ _ _ (Zp _ _ _ _ _ _) rfl⟩
theorem Zby{fn:Func}{slots:List Nat}{nn:Nat}{vs}{h:Heap}{R:V}{T:Re}{cs}{e:Int}(hv:resV UY fn (slots.zip vs)=some (.tup [.agg cs,I e]))(he:Zd (Za1 T)=cs)(h2:e=fitE T)(hR:R=fitV T):
  Go.Y.Fin UY fn slots (fun v h=> ∃r,Frz h v r∧r=R) .ret nn vs h:=
 JM (.inr rfl) hv (Zd7 _ _ he) (.i _ _) (by rw[hR,Zd9,h2])
theorem Zxe{l:List Re}(hf:FewL l)(h:Heap):Con UY 43 [lst Zd l] h fun v h'=>v=fitV (sevS 4 l)∧h'=XT h []:=
 Con.ofP [] (FrzAL.refl _) (rowT hf)
theorem ZFy{out:List Re}(hf:FewL out){h:Heap}{a}{l:Nat}{c}{kk:Nat}(hL:LY h a l c kk out): ∃D,Con UY 43 [.sl a l c kk] h fun v h'=>v=fitV (sevS 4 out)∧h'=XT h D:=by
 obtain⟨D,hz⟩:=hL.afterZ
 exact⟨D,Con.ofP D (.cons _ _ _ _ (.frz _ _ hz) .nil) (rowT hf)⟩

theorem Zxf(s:List UInt8)(hs:s.length<=300):PCon UY 16 [.s s] (· =fitV (sevS 4 (ZZ s))):=by
 refine Zt UK (fn:=Tryz.f16) rfl ZJv rfl ?_
 refine⟨_,_,_,Zw9 s (by omega),Zha (Zxe (WF hs) _) fun k s0 s1 s2 s3 cs l cc lo hi n e h1 h2=> ?_⟩
 exact Zby rfl h1 h2 rfl

structure InG(l:List Glob):Prop where
 ok:okG l
 b: ∀g∈l,(0<=g.b∧g.b<256)∧ ∀x∈g.sp,(0<=x.lo∧x.lo<256)∧(0<=x.hi∧x.hi<256)
def Zfp(l:List Glob):V:=if mayS l=true then fitV (sevS 4 (ZN l))else .tup [.agg (Zd Xs), .i .i64 5]
theorem Zow(l:List Glob)(hl:l.length<=300)(hg:InG l):PCon UY 18 [lst encG l] (· =Zfp l):=by
 refine Zt UK (fn:=Tryz.f18) rfl ZJw rfl ?_
 unfold Zfp
 have hm:=Zve l hg.ok
 generalize mayS l=m at hm
 refine⟨m,hm,Zg (fun h0=> ?_) (fun h0=> ?_)⟩
 ·have h0:m=false:=by simpa using h0
  subst h0
  exact JM (.inr rfl) rfl (Xu _) (.i _ _) rfl
 ·have h0:m=true:=by simpa using h0
  subst h0
  refine⟨_,_,_,Zxa l (by omega) hg.ok hg.b,Zha (Zxe (Zd3 hl) _) fun k s0 s1 s2 s3 cs l2 cc lo hi n e h1 h2=> ?_⟩
  exact Zby rfl h1 h2 rfl

/-! ### search.May -/
def Vf(s:List UInt8):List Glob:=if 200<s.length then []else match Qu (s.length+1) s 0 []with| .error _=> []| .ok l=>l
def ZFz(s:List UInt8):Int:=if 200<s.length then 200 else match Qu (s.length+1) s 0 []with| .error e=>(e:Nat)| .ok _=>0
def ZAf(s:List UInt8):Int:=if 200<s.length then 2 else match Qu (s.length+1) s 0 []with| .error _=>1| .ok _=>0
theorem Za2(s:List UInt8):Zfl s= .tup [lst encG (Vf s),I (ZFz s),I (ZAf s)]:=by
 unfold Zfl Vf ZFz ZAf
 split
 ·rfl
 ·cases Qu (s.length+1) s 0 []<;>rfl
def ereL(s:List UInt8):Re:=match Qg s with| .error _=>Xs| .ok x=>x
def ereP(s:List UInt8):Int:=match Qg s with| .error (_,p)=>(p:Nat)| .ok _=>0
def ereE(s:List UInt8):Int:=match Qg s with| .error (e,_)=>e| .ok _=>0
theorem Va(s:List UInt8):Zbw s= .tup [.agg (Zd (ereL s)),I (ereP s),I (ereE s)]:=by
 unfold Zbw ereL ereP ereE
 cases Qg s with
 |error e=>obtain⟨e,p⟩:=e;rfl
 |ok x=>rfl
mutual
theorem Zsm{B C:Nat}(hBC:B<=C): ∀r:Re,wfRe B r->wfRe C r
 | .mk k s kids lo hi n,h=>by
  rw[wfRe]at h ⊢
  exact⟨h.1,h.2.1,Nat.le_trans h.2.2.1 hBC,Znb hBC kids h.2.2.2⟩
theorem Znb{B C:Nat}(hBC:B<=C): ∀l:List Re,wfRe.wfRes B l->wfRe.wfRes C l
 | [],_=>by rw[wfRe.wfRes];trivial
 |r::l,h=>by
  rw[wfRe.wfRes]at h ⊢
  exact⟨Zsm hBC r h.1,Znb hBC l h.2⟩
end
theorem Zlb(s:List UInt8):cntN (ereL s)<=1000:=by
 unfold ereL
 cases hp:Qg s with
 |error e=>show cntN Xs<=1000;unfold Xs;rw[Jl];decide
 |ok x=>exact Zr1 hp
theorem Zea(s:List UInt8):wfRe 1000 (ereL s):=by
 unfold ereL
 cases hp:Qg s with
 |error e=>show wfRe 1000 Xs;unfold Xs;rw[wfRe];exact⟨fun h=>absurd h (by decide),fun _ _ _ _=>rfl,by decide,by rw[wfRe.wfRes];trivial⟩
 |ok x=>exact Zsm (by decide) x (Zul hp)
theorem ZAg(s:List UInt8):(textF (ereL s)).length<2 ^ 28:=by
 have h1:=Zlb s
 have h2:=WD (ereL s)
 omega
def mayP(k:Int)(t:List UInt8):Bool:=if(k==0)=true then leI (t.length:Nat) 200 else if(k==1)=true then ZAf t==0 else if(k==2)=true then(if(ereE t==0)=true then mayE (ereL t)else false)else false
theorem Zeb{h:Heap}{id off:Nat}{cs new:List V}(hg:h.get id=some (.arr cs true))(hl:off+new.length<=cs.length):Zj h id off new=some (h.set id (some (.arr (splice cs off new) true))):=by
 simp only[Zj,hg]
 rw[if_pos hl]

theorem Zvi(k:Int)(t:List UInt8)(h:Heap):Con UY 104 [.agg [I k, .s t]] h fun v _=> ∃a,v= .tup [.p a, .b (mayP k t)]:=by
 refine Zu UK (fn:=Tryz.f104) (Zn UK ZFw rfl ?_)
 generalize hM:mayP k t=M
 unfold mayP at hM
 have hget: ∀cs:List V,(h.push (.arr cs true)).get h.nx=some (.arr cs true):=fun cs=>by rw[qk,if_pos rfl]
 refine Zg (fun h0=> ?_) (fun h0=> ?_)
 ·rw[if_pos h0]at hM
  exact finC (.inr rfl) rfl (.now ⟨_,by rw[hM];rfl⟩)
 rw[if_neg (by rw[h0];decide)]at hM
 refine Zg (fun h1=> ?_) (fun h1=> ?_)
 ·rw[if_pos h1]at hM
  have hp:=Zje t
  rw[Za2]at hp
  exact⟨_,_,_,_,_,hp,_,Zeb (hget _) (by simp),finC (.inr rfl) rfl (.now ⟨_,by rw[hM];rfl⟩)⟩
 rw[if_neg (by rw[h1];decide)]at hM
 refine Zg (fun h2=> ?_) (fun h2=> ?_)
 ·rw[if_pos h2]at hM
  have hp:=Zfo t
  rw[Va]at hp
  have hm:=Zk4 (B:=1000) (by decide) (Zea t) (ZAg t)
  revert hM hm hp
  generalize ereL t=x
  generalize ereE t=e
  intro hM hp hm
  obtain⟨xk,xs,xl,xlo,xhi,xn⟩:=x
  rw[ZD]at hm hp
  refine⟨_,_,_,_,_,_,_,_,_,_,_,_,_,hp,_,Zeb (hget _) ?_,Zg (fun he=> ?_) (fun he=> ?_)⟩
  ·simp
  ·rw[if_pos he]at hM
   refine⟨_,_,_,_,_,_,_,_,_,_,_,(Zr (by rw[qc,if_pos rfl]) 3 9).trans rfl,_,hm,finC (.inr rfl) rfl (.now ⟨_,by rw[hM];rfl⟩)⟩
  ·rw[if_neg (by rw[he];decide)]at hM
   exact finC (.inr rfl) rfl (.now ⟨_,by rw[hM];rfl⟩)
 ·rw[if_neg (by rw[h2];decide)]at hM
  exact finC (.inr rfl) rfl (.now ⟨_,by rw[hM];rfl⟩)

theorem Zvj(k:Int)(t:List UInt8):PCon UY 52 [.agg [I k, .s t]] (· = .b (mayP k t)):=by
 refine Zt UK (fn:=Tryz.f52) rfl ZKi rfl ?_
 exact(Zvi k t .empty).mono fun v h' ⟨a,hv⟩=>⟨a,_,hv,Zv (.inr rfl) rfl (.b _) rfl⟩

/-! ### Within -/
def Qx(r:Re):Re:= .mk 7 (0,0,0,0) [laterF r] 0 0 1
def WJ(k:Int)(t:List UInt8):List Re:=if(k==0)=true then ZZ t else if(k==1)=true then ZN (Vf t)else if(k==2)=true then [Qx (ereL t)]else []
def Js(k:Int)(t:List UInt8):V:=
 if mayP k t=false then .tup [.agg (Zd Xs), .i .i64 5]
 else if(k==2)=true∧anchB (ereL t)=true then .tup [.agg (Zd Xs), .i .i64 5]
 else fitV (sevS 4 (ZJ::(WJ k t++ [ZJ])))

mutual
theorem Znc{B:Nat} : ∀r:Re,wfRe B r->wfRe B (laterF r)
 | .mk k s kids lo hi n,h=>by
  rw[wfRe]at h
  rw[Za0,wfRe]
  refine⟨fun e=>⟨(h.1 e).1,(h.1 e).2.1,(h.1 e).2.2.1,by rw[List.length_map];exact(h.1 e).2.2.2⟩,fun h1 h2 h3 h4=>by rw[h.2.1 h1 h2 h3 h4];rfl,by rw[List.length_map];exact h.2.2.1,Zjk kids h.2.2.2⟩
theorem Zjk{B:Nat} : ∀l:List Re,wfRe.wfRes B l->wfRe.wfRes B (l.map laterF)
 | [],_=>by rw[List.map_nil,wfRe.wfRes];trivial
 |r::l,h=>by
  rw[wfRe.wfRes]at h
  rw[qz,wfRe.wfRes]
  exact⟨Znc r h.1,Zjk l h.2⟩
end
mutual
theorem Zjl: ∀r:Re,cntN (laterF r)=cntN r
 | .mk k s kids lo hi n=>by rw[Za0,cntN,cntN,Zfq kids]
theorem Zfq: ∀l:List Re,cntN.cntsN (l.map laterF)=cntN.cntsN l
 | []=>rfl
 |r::l=>by rw[qz,cntN.cntsN,cntN.cntsN,Zjl r,Zfq l]
end
theorem Zcs{l:List Re}(h1:wfRe.wfRes 1000 l)(h2:cntN.cntsN l<=3000)(h3:l.length<=500):FewL (ZJ::(l++ [ZJ])):=by
 refine⟨?_,?_,?_⟩
 ·rw[wfRe.wfRes]
  exact⟨Zk6 (by decide),JF h1 (by rw[wfRe.wfRes,wfRe.wfRes];exact⟨Zk6 (by decide),trivial⟩)⟩
 ·rw[cntN.cntsN,Jc,XL,Zm5];omega
 ·simp;omega

theorem Zox{s:List UInt8}{i j:Nat}{g:Glob}(h:Xr s i= .ok (g,j)):(0<=g.b∧g.b<256)∧g.sp.length<=s.length∧ ∀x∈g.sp,(0<=x.lo∧x.lo<256)∧(0<=x.hi∧x.hi<256):=by
 unfold Xr at h
 split at h
 ·cases h
 ·rename_i c hc
  have hb:=c.toNat_lt
  split at h
  ·cases h;exact⟨by decide,qx _,fun x hx=>by cases hx⟩
  ·split at h
   ·cases h;exact⟨by decide,qx _,fun x hx=>by cases hx⟩
   ·split at h
    ·split at h
     ·cases h
     ·rename_i l k hS
      have h1:=Zgw hS (fun x hx=>by cases hx)
      have h2:=VB hS
      cases h
      refine⟨⟨Int.le_refl 0,by show(0:Int)<256;decide⟩,?_,h1.1⟩
      have:=h1.2
      simp at this
      show l.length<=s.length
      omega
    ·split at h
     ·split at h
      ·cases h
      ·rename_i d hd
       have hb2:=d.toNat_lt
       cases h
       refine⟨⟨?_,?_⟩,qx _,fun x hx=>by cases hx⟩
       ·show(0:Int)<=(d.toNat:Int);omega
       ·show(d.toNat:Int)<256;omega
     ·cases h
      refine⟨⟨?_,?_⟩,qx _,fun x hx=>by cases hx⟩
      ·show(0:Int)<=(c.toNat:Int);omega
      ·show(c.toNat:Int)<256;omega
theorem Zfr{s:List UInt8} : ∀ {m i:Nat} {out l:List Glob},Qu m s i out= .ok l->i<=s.length->out.length<=i->(∀g∈out,(0<=g.b∧g.b<256)∧g.sp.length<=s.length∧ ∀x∈g.sp,(0<=x.lo∧x.lo<256)∧(0<=x.hi∧x.hi<256))->
  l.length<=s.length∧ ∀g∈l,(0<=g.b∧g.b<256)∧g.sp.length<=s.length∧ ∀x∈g.sp,(0<=x.lo∧x.lo<256)∧(0<=x.hi∧x.hi<256)
 |0,_,_,_,h,_,_,_=>by cases h
 |m+1,i,out,l,h,hi,hol,ho=>by
  simp only[Qu]at h
  split at h
  ·split at h
   ·cases h
   ·rename_i x j hp
    have hj:=Zdj hp
    refine Zfr h (by omega) (by simp;omega) fun g hg=> ?_
    rcases qA.1 hg with hg|hg
    ·exact ho g hg
    ·rw[List.mem_singleton]at hg;subst hg;exact Zox hp
  ·cases h;exact⟨by omega,ho⟩
theorem Zhb(t:List UInt8):(Vf t).length<=200∧InG (Vf t):=by
 unfold Vf
 split
 ·exact⟨qx _,⟨by decide,fun x hx=>by cases hx⟩,fun x hx=>by cases hx⟩
 ·rename_i h
  cases hp:Qu (t.length+1) t 0 [] with
  |error e=>exact⟨qx _,⟨by show(0:Nat)<2 ^ 28;decide,fun x hx=>by cases hx⟩,fun x hx=>by cases hx⟩
  |ok l=>
   obtain⟨h1,h2⟩:=Zfr hp (qx _) (qx _) (fun x hx=>by cases hx)
   refine⟨by show l.length<=200;omega,⟨by show l.length<_;omega,fun x hx=> ?_⟩,fun x hx=>⟨(h2 x hx).1,(h2 x hx).2.2⟩⟩
   have:=(h2 x hx).2.1
   omega
theorem Za3{k:Int}{t:List UInt8}(hm:mayP k t=true):FewL (ZJ::(WJ k t++ [ZJ])):=by
 unfold mayP at hm
 unfold WJ
 by_cases h0:(k==0)=true
 ·rw[if_pos h0]at hm ⊢
  have hl:(t.length:Int)<=200:=by simpa[leI]using hm
  exact Zcs (Zd2 t) (by rw[Zbv];omega) (by rw[XX];omega)
 rw[if_neg h0]at hm ⊢
 by_cases h1:(k==1)=true
 ·rw[if_pos h1]at ⊢
  have h2:=Zhb t
  have h3:=Zbu (Vf t)
  have h4:=QI (Vf t)
  exact Zcs (Zd1 (by decide) _) (by omega) (by omega)
 rw[if_neg h1]
 by_cases h2:(k==2)=true
 ·rw[if_pos h2]
  refine Zcs ?_ ?_ (by simp)
  ·rw[wfRe.wfRes,wfRe.wfRes]
   exact⟨Zdl (by decide) (.inl rfl) (Znc _ (Zea t)),trivial⟩
  ·have:=Zlb t
   rw[XL];unfold Qx;rw[VH,Zjl];omega
 ·rw[if_neg h2]
  exact Zcs (by rw[wfRe.wfRes];trivial) (by rw[cntN.cntsN];omega) (by simp)
end Go.Y
