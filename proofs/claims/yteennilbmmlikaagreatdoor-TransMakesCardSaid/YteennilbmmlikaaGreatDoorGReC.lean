/- A part of the proof. -/
import Derived.Test.YteennilbmmlikaaGreatDoorED4
import Derived.Test.YteennilbmmlikaaGreatDoorGLX
import Derived.Test.YteennilbmmlikaaGreatDoorYTryzP
import Derived.Test.YteennilbmmlikaaGreatDoorYLoop
import Derived.Test.YteennilbmmlikaaGreatDoorGSortK
namespace Go.Y
open Go.Proofs
set_option maxRecDepth 1000000
set_option maxHeartbeats 0
theorem ifT{x:Bool}{a b:Prop}(h:x=true)(ha:a):If x a b:=by subst h;exact ha
theorem ifF{x:Bool}{a b:Prop}(h:x=false)(hb:b):If x a b:=by subst h;exact hb
theorem ZD(k:Int)(st:S4)(kids:List Re)(lo hi n:Int):V.agg (Zd (.mk k st kids lo hi n))= .agg [I k,U st.1,U st.2.1,U st.2.2.1,U st.2.2.2,lst Zd kids,I lo,I hi,I n]:=by rw[Zp]
theorem Zg3(x:Re):lst Zd [x]= .ts (Zd x) 1 none:=by
 have:row Zd [x]=Zd x:=by simp[row]
 show V.ts (row Zd [x]) 1 none=_
 rw[this]
theorem JG(h:Heap)(c:Option Nat)(k:Nat):FrzA h (.sl none 0 c k) (lst Zd []):= .frz _ _ (.sln _ _ none (fun x hx=>by cases hx))
theorem Zam(h:Heap)(x:Re){cs}(hc:Zd x=cs)(c:Option Nat):FrzA h (.ts cs 1 c) (lst Zd [x]):=by
 rw[Zg3,hc];exact .frz _ _ (.ts _ _ _ none (fun x hx=>by cases hx))
theorem JI{h:Heap}(k lo hi n:Int)(st:S4)(kids:List Re){Kv:V}{D:List Nat}{Q:V->Heap->Prop}(hk:FrzA (VW h D) Kv (lst Zd kids))(hq:Q (.agg (Zd (.mk k st kids lo hi n))) (XT h D)):
  AfterZ Q (.agg [I k,U st.1,U st.2.1,U st.2.2.1,U st.2.2.2,Kv,I lo,I hi,I n]) h:=by
 rw[ZD]at hq
 exact⟨D,_, .inl (.agg _ _ (.cons _ _ _ _ (.same _) (.cons _ _ _ _ (.same _) (.cons _ _ _ _ (.same _) (.cons _ _ _ _ (.same _) (.cons _ _ _ _ (.same _) (.cons _ _ _ _ hk (.cons _ _ _ _ (.same _) (.cons _ _ _ _ (.same _) (.cons _ _ _ _ (.same _) .nil)))))))))),hq⟩
theorem Zan{h:Heap}{Q:V->Heap->Prop}(hq:Q (.agg (Zd Xs)) h):AfterZ Q (.agg [I 0,U 0,U 0,U 0,U 0, .sl none 0 (some 0) 0,I 0,I 0,I 0]) h:=
 JI (D:= []) 0 0 0 0 (0,0,0,0) [] (JG _ _ _) hq
theorem VF{h:Heap}(s:S4){Q:V->Heap->Prop}(hq:Q (.agg (Zd (XY s))) h):AfterZ Q (.agg [I 1,U s.1,U s.2.1,U s.2.2.1,U s.2.2.2, .sl none 0 (some 0) 0,I 0,I 0,I 0]) h:=
 JI (D:= []) 1 0 0 0 s [] (JG _ _ _) hq

theorem RdE.kill{h:Heap}{id n0:Nat}{s:List UInt8}{i g:Nat}{e:Int}{D:List Nat}(r:RdE h id s i g e)(hD: ∀j,j∈D->n0<=j)(hid:id<n0):RdE (XT h D) id s i g e:=
 ⟨by rw[Qr,if_neg (fun hm=>by have:=hD id hm;omega)];exact r.get,by rw[WN];exact r.lt⟩
theorem RdE.app{h h':Heap}{id:Nat}{s:List UInt8}{i g:Nat}{e:Int}{a}(r:RdE h id s i g e)(q:Fr h a h')(hne: ∀o,a≠some (id,o)):RdE h' id s i g e:=
 ⟨by rw[q.2 id r.lt hne];exact r.get,qv r.lt q.1⟩

def reQ(R:PR Re)(h:Heap)(id:Nat)(s:List UInt8)(v:V)(h':Heap):Prop:=
 ∃(x:Re) (j g:Nat) (e:Int),v= .agg (Zd x)∧RdE h' id s j g e∧FrO h id h'∧((e=0∧R= .ok (x,j,g))∨(e≠0∧R= .error (e,j)))

theorem Zdt{h:Heap}{a}{l:Nat}{c}{kk:Nat}{out:List Re}(x:Re){new}(hx:Zd x=new)(hl:LX Zd 9 h a l c kk out)(hb:out.length<2 ^ 29):
  ∃a' l' c' k' h',Zf UY h 26 26 (.sl a l c kk) (.ts new 1 (some 1))=some (.sl a' l' c' k',h')∧LX Zd 9 h' a' l' c' k' (out++ [x])∧Fr h a h'∧ ∃j,a'=some (j,0)∧h.nx<=j:=
 LX.app (Y:=UY) (e:=28) (te:=⟨9,88, .struct [(0,3),(1,25),(5,26),(6,3),(7,3),(8,3)],[I 0,U 0,U 0,U 0,U 0, .sl none 0 (some 0) 0,I 0,I 0,I 0]⟩) x hx ZK (by kernel_rfl) (by kernel_rfl) rfl (by decide) (by rw[<-hx];exact VC x) (by decide) hl hb

/-! ### A class -/
def Zws(R:Except Nat (S4×Nat))(h:Heap)(id:Nat)(s:List UInt8)(g:Nat)(v:V)(h':Heap):Prop:=match R with
 | .error e=>v= .agg (Zd Xs)∧RdE h' id s e g 1∧FrO h id h'
 | .ok (x,j)=>v= .agg (Zd (XY x))∧RdE h' id s j g 0∧FrO h id h'

theorem Zog{h:Heap}{id:Nat}{s:List UInt8}{i g:Nat}(r:RdE h id s i g 0)(hs:s.length<2 ^ 27)(hi:i<=s.length):
  Con UY 173 [.p (some (id,0))] h (Zws (Qv s i) h id s g):=by
 refine Zu UK (fn:=Tryz.f173) (Zn UK ZCu rfl ?_)
 have rest: ∀(h1:Heap) (i0:Nat) (neg:Bool),RdE h1 id s i0 g 0->FrO h id h1->i0<=s.length->(Qv s i=match setS (s.length+1) s i0 []with| .error e=> .error e| .ok (l,j)=> .ok (Zw (ofP l neg),j))->
   ∀K:KT,K=Go.Y.Fin UY Tryz.f173 [2] (AfterZ (Zws (Qv s i) h id s g))->
   ∃(cs:List V) (l:Nat) (c:Option Nat) (n_1 n_2:Int),(PCon UY 62 [.s s,I (i0:Nat)] fun v=>v= .tup [.ts cs l c,I n_1,I n_2])∧
    If (ltI n_1 0)
     (∃h_1,Zj h1 id 1 [I n_2]=some h_1∧Con UY 28 [.p (some (id,0)),I 1] h_1 fun v h'=>v= .tup []∧K .ret 47 [.lb [I 0,U 0,U 0,U 0,U 0, .sl none 0 (some 0) 0,I 0,I 0,I 0]] h')
     (∃h_1,Zj h1 id 1 [I n_1]=some h_1∧ ∃n n_3 n_4 n_5:Int,(PCon UY 103 [.ts cs l c, .b neg] fun v=>v= .agg [U n,U n_3,U n_4,U n_5])∧K .ret 47 [.lb [I 1,U n,U n_3,U n_4,U n_5, .sl none 0 (some 0) 0,I 0,I 0,I 0]] h_1):=by
  rintro h1 i0 neg q1 q2 hi0 hcl K rfl
  have hc:=Zi3 s i0 (by omega) hi0
  cases hS:setS (s.length+1) s i0 [] with
  |error e=>
   rw[hS]at hc hcl
   obtain⟨h2,g1,g2,g3⟩:=q1.s1 e
   refine⟨_,_,_,_,_,hc,XC (fun _=>⟨h2,g1,Zmo g2 1 fun h3 u1 u2=>⟨rfl,finC (.inr rfl) rfl (Zan ?_)⟩⟩) (fun h=>by omega)⟩
   rw[hcl];exact⟨rfl,u1,(q2.trans g3).trans u2⟩
  |ok y=>
   obtain⟨l,j⟩:=y
   rw[hS]at hc hcl
   obtain⟨r1,r2⟩:=Zgw hS (fun x hx=>by cases hx)
   have hj:=VB hS
   have hll:l.length<2 ^ 40:=by simp at r2;omega
   obtain⟨h2,g1,g2,g3⟩:=q1.s1 j
   refine⟨_,_,_,_,_,hc,XC (fun h=>by omega) (fun _=>⟨h2,g1,_,_,_,_,Zmn l neg hll r1,finC (.inr rfl) rfl (VF (Zw (ofP l neg)) ?_)⟩)⟩
   rw[hcl];exact⟨rfl,g2,q2.trans g3⟩
 refine⟨_,Jb r 94,Zg (fun hc=> ?_) (fun hc=> ?_)⟩
 ·have hc:s[i]? =some 94:=by simpa using hc
  have hl:=(qb.1 hc).1
  obtain⟨h1,g1,g2,g3⟩:=r.s1 (i+1)
  have hb:(0==(0:Int)&&s[i]? ==some (94:UInt8))=true:=by rw[hc];rfl
  rw[hb]
  refine⟨_,r.c1,h1,by rw[Zh (by omega)];exact g1,_,g2.c0,_,g2.c1,rest h1 (i+1) true g2 g3 hl ?_ _ rfl⟩
  unfold Qv;simp only[hc,if_true,decide_true];rfl
 ·have hc:s[i]? ≠some 94:=by simpa using hc
  have hb:(0==(0:Int)&&s[i]? ==some (94:UInt8))=false:=by simpa using hc
  rw[hb]
  refine⟨_,r.c0,_,r.c1,rest h i false r (.refl _ _) hi ?_ _ rfl⟩
  unfold Qv;simp only[hc,if_false,decide_false];rfl

/-! ### All of it -/
structure AllC(n:Nat):Prop where
 alt: ∀ {h:Heap} {id:Nat} {s:List UInt8} {i g d:Nat},RdE h id s i g 0->s.length<2 ^ 27->i<=s.length->g<=i->d<=64->6*(s.length-i)+6<=n->Con UY 27 [.p (some (id,0)),I (d:Nat)] h (reQ (altE n d s i g) h id s)
 row: ∀ {h:Heap} {id:Nat} {s:List UInt8} {i g d:Nat},RdE h id s i g 0->s.length<2 ^ 27->i<=s.length->g<=i->d<=64->6*(s.length-i)+5<=n->Con UY 67 [.p (some (id,0)),I (d:Nat)] h (reQ (rowE n d s i g []) h id s)
 piece: ∀ {h:Heap} {id:Nat} {s:List UInt8} {i g d:Nat},RdE h id s i g 0->s.length<2 ^ 27->i<s.length->g<=i->d<=64->6*(s.length-i)+4<=n->Con UY 112 [.p (some (id,0)),I (d:Nat)] h (reQ (XR n d s i g) h id s)
 atom: ∀ {h:Heap} {id:Nat} {s:List UInt8} {i g d:Nat},RdE h id s i g 0->s.length<2 ^ 27->i<s.length->g<=i->d<=64->6*(s.length-i)+3<=n->Con UY 141 [.p (some (id,0)),I (d:Nat)] h (reQ (Jo n d s i g) h id s)

theorem ZI{c d:UInt8}(h:(((c.toNat:Nat):Int)==((d.toNat:Nat):Int))=true):c=d:=by rw[Ja]at h;simpa using h
theorem ZF{c d:UInt8}(h:(((c.toNat:Nat):Int)==((d.toNat:Nat):Int))=false):c≠d:=by rw[Ja]at h;simpa using h

theorem ZIg{n:Nat}(ih: ∀m,m<n->AllC m){h:Heap}{id:Nat}{s:List UInt8}{i g d:Nat}(r:RdE h id s i g 0)(hs:s.length<2 ^ 27)(hi:i<s.length)(hg:g<=i)(hd:d<=64)(hn:6*(s.length-i)+3<=n):
  Con UY 141 [.p (some (id,0)),I d] h (reQ (Jo n d s i g) h id s):=by
 obtain⟨n,rfl⟩: ∃m,n=m+1:=⟨n-1,by omega⟩
 refine Zu UK (fn:=Tryz.f141) (Zn UK ZCv rfl ?_)
 have hsi:s[i]? =some s[i]:=by simp[hi]
 generalize hR:Jo (n+1) d s i g=R
 rw[Jo,hsi]at hR
 simp only[]at hR
 have bad: ∀(h1:Heap) (j g1:Nat) (e x:Int),RdE h1 id s j g1 e->FrO h id h1->x≠0->R= .error (if e=0 then x else e,j)->
   Con UY 28 [.p (some (id,0)),I x] h1 fun v h'=>v= .tup []∧Go.Y.Fin UY Tryz.f141 [4] (AfterZ (reQ R h id s)) .ret 140 [.lb [I 0,U 0,U 0,U 0,U 0, .sl none 0 (some 0) 0,I 0,I 0,I 0]] h':=fun h1 j g1 e x q1 q2 hx hr=>
  (Zds q1 x).mono fun v h' ⟨hv,u1,u2⟩=>⟨hv,finC (.inr rfl) rfl (Zan ⟨Xs,j,g1,_,rfl,u1,q2.trans u2, .inr ⟨by split<;>assumption,hr⟩⟩)⟩
 have rep:Zgv s[i]=true->R= .error (1,i):=fun hc=>by rw[if_pos hc]at hR;exact hR.symm
 refine⟨_,r.c0,_,r.c1,s[i],Vd hi,Zg (fun c1=>bad h i g 0 1 r (.refl _ _) (by decide) (rep (by rw[ZI (d:=42) c1];rfl))) (fun c1=>Zg (fun c2=>bad h i g 0 1 r (.refl _ _) (by decide) (rep (by rw[ZI (d:=43) c2];rfl))) (fun c2=>Zg (fun c3=>bad h i g 0 1 r (.refl _ _) (by decide) (rep (by rw[ZI (d:=63) c3];rfl))) (fun c3=>Zg (fun c4=>bad h i g 0 1 r (.refl _ _) (by decide) (rep (by rw[ZI (d:=123) c4];rfl))) (fun c4=> ?_))))⟩
 have c1:=ZF (d:=42) c1
 have c2:=ZF (d:=43) c2
 have c3:=ZF (d:=63) c3
 have c4:=ZF (d:=123) c4
 rw[if_neg (by simp[Zgv,c1,c2,c3,c4])]at hR
 clear rep
 refine Zg (fun c5=> ?_) (fun c5=> ?_)
 ·-- a group
  have c5:=ZI (d:=40) c5
  rw[if_pos c5]at hR
  refine Wx (fun h64=> ?_) (fun h64=> ?_)
  ·rw[if_pos (by omega)]at hR
   exact bad h i g 0 8 r (.refl _ _) (by decide) hR.symm
  rw[if_neg (by omega)]at hR
  obtain⟨h1,g1,g2,g3⟩:=r.s1 (i+1)
  obtain⟨h2,k1,k2,k3⟩:=g2.s2 (g+1)
  refine⟨_,r.c1,h1,by rw[Zh (by omega)];exact g1,_,g2.c2,h2,by rw[Zh (by omega)];exact k1,_,k2.c2,?_⟩
  rw[Zh (by omega)]
  have hc:=(ih n (by omega)).alt k2 hs (show i+1<=s.length by omega) (show g+1<=i+1 by omega) (show d+1<=64 by omega) (by omega)
  have go: ∀(N:Int),N=(if g+1<=9 then((g+1:Nat):Int)else 0)-> ∀(v:V) (h':Heap),reQ (altE n (d+1) s (i+1) (g+1)) h2 id s v h'-> ∃(n_1 n_2 n_3 n_4 n_5:Int) (cs:List V) (l:Nat) (c:Option Nat) (n_6 n_7 n_8:Int),v= .agg [I n_1,U n_2,U n_3,U n_4,U n_5, .ts cs l c,I n_6,I n_7,I n_8]∧
    ∃b,RCon UY 68 [.p (some (id,0)), .i .u8 41] h' (.b b)∧If (!b)
     (Con UY 28 [.p (some (id,0)),I 1] h' fun v h'=>v= .tup []∧Go.Y.Fin UY Tryz.f141 [4] (AfterZ (reQ R h id s)) .ret 140 [.lb [I 0,U 0,U 0,U 0,U 0, .sl none 0 (some 0) 0,I 0,I 0,I 0]] h')
     (∃n_9:Int,Zb h' id 1 1=some [I n_9]∧ ∃h_1,Zj h' id 1 [I (IntKind.i64.wrap (n_9+1))]=some h_1∧Go.Y.Fin UY Tryz.f141 [4] (AfterZ (reQ R h id s)) .ret 140 [.lb [I 7,U 0,U 0,U 0,U 0, .ts [I n_1,U n_2,U n_3,U n_4,U n_5, .ts cs l c,I n_6,I n_7,I n_8] 1 (some 1),I 0,I 0,I N]] h_1):=by
   rintro N hN v h' ⟨x,j,gg,e,rfl,u1,u2,u3⟩
   obtain⟨xk,xs,xl,xlo,xhi,xn⟩:=x
   refine⟨_,_,_,_,_,_,_,_,_,_,_,ZD _ _ _ _ _ _,_,Jb u1 41,Zg (fun hb=> ?_) (fun hb=> ?_)⟩
   ·rcases u3 with ⟨rfl,hr⟩|⟨he,hr⟩
    ·have hb:s[j]? ≠some 41:=by simpa using hb
     rw[hr]at hR;simp only[]at hR;rw[if_neg hb]at hR
     exact bad h' j gg 0 1 u1 ((g3.trans k3).trans u2) (by decide) hR.symm
    ·rw[hr]at hR
     exact bad h' j gg e 1 u1 ((g3.trans k3).trans u2) (by decide) (by rw[if_neg he];exact hR.symm)
   ·rcases u3 with ⟨rfl,hr⟩|⟨he,hr⟩
    ·have hb:s[j]? =some 41:=by simpa using hb
     rw[hr]at hR;simp only[]at hR;rw[if_pos hb]at hR
     have hl:=(qb.1 hb).1
     obtain⟨h4,w1,w2,w3⟩:=u1.s1 (j+1)
     refine⟨_,u1.c1,h4,by rw[Zh (by omega)];exact w1,finC (.inr rfl) rfl (JI (D:= []) 7 0 0 N (0,0,0,0) [.mk xk xs xl xlo xhi xn] (Zam _ _ (Zp _ _ _ _ _ _) _) ⟨_,j+1,gg,0,rfl,w2,(((g3.trans k3).trans u2).trans w3), .inl ⟨rfl,?_⟩⟩)⟩
     rw[<-hR,hN]
    ·exfalso
     have:(e==0)=false:=by simpa using he
     rw[this]at hb;simp at hb
  refine Wx (fun h9=>⟨_,k2.c2,?_⟩) (fun h9=> ?_)
  ·exact hc.mono fun v h' hq=>go _ (by rw[if_pos (by omega)]) v h' hq
  ·exact hc.mono fun v h' hq=>go _ (by rw[if_neg (by omega)]) v h' hq
 have c5:=ZF (d:=40) c5
 rw[if_neg c5]at hR
 obtain⟨h1,g1,g2,g3⟩:=r.s1 (i+1)
 refine⟨_,r.c1,h1,by rw[Zh (by omega)];exact g1,?_⟩
 have done: ∀(h2:Heap) (x:Re) (j:Nat),RdE h2 id s j g 0->FrO h id h2->R= .ok (x,j,g)->reQ R h id s (.agg (Zd x)) h2:=fun h2 x j q1 q2 hr=>⟨x,j,g,0,rfl,q1,q2, .inl ⟨rfl,hr⟩⟩
 refine Zg (fun c6=> ?_) (fun c6=> ?_)
 ·have c6:=ZI (d:=91) c6
  rw[if_pos c6]at hR
  refine(Zog g2 hs (by omega)).mono fun v h2 hq=> ?_
  cases hcl:Qv s (i+1) with
  |error e=>
   rw[hcl]at hq hR
   obtain⟨rfl,u1,u2⟩:=hq
   refine⟨_,_,_,_,_,_,_,_,_,_,_,ZD _ _ _ _ _ _,finC (.inr rfl) rfl (.now ?_)⟩
   rw[<-ZD]
   exact⟨Xs,e,g,1,rfl,u1,g3.trans u2, .inr ⟨by decide,hR.symm⟩⟩
  |ok y=>
   obtain⟨x,j⟩:=y
   rw[hcl]at hq hR
   obtain⟨rfl,u1,u2⟩:=hq
   refine⟨_,_,_,_,_,_,_,_,_,_,_,ZD _ _ _ _ _ _,finC (.inr rfl) rfl (.now ?_)⟩
   rw[<-ZD]
   exact done h2 _ j u1 (g3.trans u2) hR.symm
 have c6:=ZF (d:=91) c6
 rw[if_neg c6]at hR
 refine Zg (fun c7=> ?_) (fun c7=> ?_)
 ·have c7:=ZI (d:=46) c7
  rw[if_pos c7]at hR
  have hof:=Zmn [] true (by decide) (fun x hx=>by cases hx)
  have hof2:PCon UY 103 [.sl none 0 (some 0) 0, .b true] (· = .agg (setC (Zw (ofP [] true)))):=PCon.wk (.one _ _ _ _ (.inr (.inl ⟨_,_,_,rfl,rfl,fun x hx=>by cases hx⟩)) (.one _ _ _ _ (.refl _) .nil)) hof
  exact⟨_,_,_,_,hof2,finC (.inr rfl) rfl (VF (Zw (ofP [] true)) (done h1 _ (i+1) g2 g3 hR.symm))⟩
 have c7:=ZF (d:=46) c7
 rw[if_neg c7]at hR
 refine Zg (fun c8=> ?_) (fun c8=> ?_)
 ·have c8:=ZI (d:=94) c8
  rw[if_pos c8]at hR
  exact finC (.inr rfl) rfl (JI (D:= []) 2 0 0 0 (0,0,0,0) [] (JG _ _ _) (done h1 _ (i+1) g2 g3 hR.symm))
 have c8:=ZF (d:=94) c8
 rw[if_neg c8]at hR
 refine Zg (fun c9=> ?_) (fun c9=> ?_)
 ·have c9:=ZI (d:=36) c9
  rw[if_pos c9]at hR
  exact finC (.inr rfl) rfl (JI (D:= []) 3 0 0 0 (0,0,0,0) [] (JG _ _ _) (done h1 _ (i+1) g2 g3 hR.symm))
 have c9:=ZF (d:=36) c9
 rw[if_neg c9]at hR
 refine Zg (fun ca=> ?_) (fun ca=> ?_)
 ·have ca:=ZI (d:=92) ca
  rw[if_pos ca]at hR
  refine⟨_,g2.c1,_,g2.c0,Wx (fun hle=> ?_) (fun hlt=> ?_)⟩
  ·have hn1:s[i+1]? =none:=qq (by omega)
   rw[hn1]at hR
   exact bad h1 (i+1) g 0 1 g2 g3 (by decide) hR.symm
  ·have hl:i+1<s.length:=by omega
   have hn1:s[i+1]? =some s[i+1]:=by simp[hl]
   rw[hn1]at hR
   obtain⟨h2,k1,k2,k3⟩:=g2.s1 (i+2)
   exact⟨_,g2.c0,_,g2.c1,s[i+1],Vd hl,_,g2.c1,h2,by rw[Zh (by omega)];exact k1,_,_,_,_,Zg2 s[i+1],finC (.inr rfl) rfl (VF (Zw fun x=>x==s[i+1].toNat) (done h2 _ (i+2) k2 (g3.trans k3) hR.symm))⟩
 have ca:=ZF (d:=92) ca
 rw[if_neg ca]at hR
 exact⟨_,_,_,_,Zg2 s[i],finC (.inr rfl) rfl (VF (Zw fun x=>x==s[i].toNat) (done h1 _ (i+1) g2 g3 hR.symm))⟩
theorem ZIh{k s0 s1 s2 s3 kc kn lo hi gn h}(K):CP UY 71 (flat (Za Tryz.f71)) (.agg (R9 k s0 s1 s2 s3 kc kn none lo hi gn)::Rp 10) h [2] K=(If (leI 0 hi) (K .ret 11 [I hi] h) (K .ret 11 [I ((fun(x y:Int)=>if y>x then y else x) lo (1:Int))] h)):=by kernel_rfl
theorem ZCx{id c1 n1 c2 n2 h}(K):CP UY 119 (pre (flat (Za Tryz.f119))) (.p (some (id,0))::J c1 n1 none::J c2 n2 none::Rp 29) h [0,2,8,9,10] K=(K .normal 32 [.p (some (id,0)),J c2 n2 none,J c1 n1 none,I (n1:Int),I 0] h):=by kernel_rfl
theorem ZCy{id c1 n1 c2 n2 b h}(K):CP UY 119 (flat (Zx (post (flat (Za Tryz.f119))))) (MZ 32 [0,2,8,9,10] [.p (some (id,0)),J c2 n2 none,J c1 n1 none,I (n1:Int),I b]) h [0,2,8,9,10] K=(If (ltI b n1) ((0<=b∧b<n1)∧ ∃a,Zo 1 (List.drop (b.toNat*1) c1)=some [I a]∧ ∃c d e f,Zb h id 3 1=some [S c d e f]∧ ∃g i j l,Zb h id 3 1=some [S g i j l]∧SlO g False fun(id_1 off:Nat)=>(0<=a∧a<i)∧l=1∧ ∃m n o,Zb h id_1 (off+a.toNat*1) 1=some [J m n o]∧ ∃q r s,(PCon UY 72 [J m n o,J c2 n2 none] fun(v:V)=>v=J q r s)∧SlO c False fun(id_2 off:Nat)=>(0<=a∧a<d)∧f=1∧ ∃t,Zj h id_2 (off+a.toNat*1) [J q r s]=some t∧K .normal 32 [.p (some (id,0)),J c2 n2 none,J c1 n1 none,I (n1:Int),I (IntKind.i64.wrap (b+(1:Int)))] t) (K (.exit 0) 32 [.p (some (id,0)),J c2 n2 none,J c1 n1 none,I (n1:Int),I b] h)):=by kernel_rfl
theorem ZIi{id e f g i e1 j m a d e2 h}(K):CP UY 73 (flat (Za Tryz.f73)) (.p (some (id,0))::.agg [J e f none,J g i none,.b e1]::.agg [J j m none,J a d none,.b e2]::Rp 39) h [6] K=(Con UY 119 [.p (some (id,0)),J g i none,J j m none] h fun(v:V) (h':Heap)=>v=.tup []∧If e1 (If e1 (∃c l n,(PCon UY 72 [J e f none,J j m none] fun v=>v=J c l n)∧If e2 (∃o q r,(PCon UY 72 [J g i none,J a d none] fun(v:V)=>v=J o q r)∧K .ret 42 [.lb [J c l n,J o q r, .b e2]] h') (K .ret 42 [.lb [J c l n,J a d none, .b e2]] h')) (If e2 (∃c l n,(PCon UY 72 [J g i none,J a d none] fun v=>v=J c l n)∧K .ret 42 [.lb [J e f none,J c l n, .b e2]] h') (K .ret 42 [.lb [J e f none,J a d none, .b e2]] h'))) (If e1 (∃c l n,(PCon UY 72 [J e f none,J j m none] fun v=>v=J c l n)∧If e2 (∃o q r,(PCon UY 72 [J g i none,J a d none] fun(v:V)=>v=J o q r)∧K .ret 42 [.lb [J c l n,J o q r, .b false]] h') (K .ret 42 [.lb [J c l n,J a d none, .b false]] h')) (If e2 (∃c l n,(PCon UY 72 [J g i none,J a d none] fun v=>v=J c l n)∧K .ret 42 [.lb [J e f none,J c l n, .b false]] h') (K .ret 42 [.lb [J e f none,J a d none, .b false]] h')))):=by kernel_rfl
theorem ZIj{k s0 s1 s2 s3 kc kn lo hi gn h}(K):CP UY 31 (pre (flat (Za Tryz.f31))) (.agg (R9 k s0 s1 s2 s3 kc kn none lo hi gn)::Rp 32) h [1,3,12,13,14] K=(If (k==(1:Int)) (K .normal 33 [.lb (R9 k s0 s1 s2 s3 kc kn none lo hi gn),I (IntKind.i64.wrap ((0:Int)+(1:Int))),J kc kn none,I (kn:Int),I 0] h) (K .normal 33 [.lb (R9 k s0 s1 s2 s3 kc kn none lo hi gn),I 0,J kc kn none,I (kn:Int),I 0] h)):=by kernel_rfl
theorem ZIk{k s0 s1 s2 s3 kc kn lo hi gn x3 a h}(K):CP UY 31 (flat (Zx (post (flat (Za Tryz.f31))))) (MZ 33 [1,3,12,13,14] [.lb (R9 k s0 s1 s2 s3 kc kn none lo hi gn),I x3,J kc kn none,I (kn:Int),I a]) h [1,3,12,13,14] K=(If (ltI a kn) ((0<=a∧a<kn)∧ ∃b c d e f g i j l m n,Zo 9 (List.drop (a.toNat*9) kc)=some (R9 b c d e f g i j l m n)∧ ∃o,(PCon UY 31 [.agg (R9 b c d e f g i j l m n)] fun v=>v=I o)∧K .normal 33 [.lb (R9 k s0 s1 s2 s3 kc kn none lo hi gn),I ((fun(x y:Int)=>if y<x then y else x) (IntKind.i64.wrap (x3+o)) (301:Int)),J kc kn none,I (kn:Int),I (IntKind.i64.wrap (a+(1:Int)))] h) (K (.exit 0) 33 [.lb (R9 k s0 s1 s2 s3 kc kn none lo hi gn),I x3,J kc kn none,I (kn:Int),I a] h)):=by kernel_rfl
theorem ZIl{k s0 s1 s2 s3 kc kn lo hi gn x3 h}(K):CP UY 31 ((post (flat (Za Tryz.f31))).drop 1) (MZ 33 [1,3] [.lb (R9 k s0 s1 s2 s3 kc kn none lo hi gn),I x3]) h [2] K=(If (k==(6:Int)) (∃a,(PCon UY 71 [.agg (R9 k s0 s1 s2 s3 kc kn none lo hi gn)] fun v=>v=I a)∧K .ret 33 [I ((fun(x y:Int)=>if y<x then y else x) (IntKind.i64.wrap (x3*a)) (301:Int))] h) (K .ret 33 [I ((fun(x y:Int)=>if y<x then y else x) x3 (301:Int))] h)):=by kernel_rfl
theorem ZIm{k s0 s1 s2 s3 kc kn lo hi gn h}(K):CP UY 30 (flat (Za Tryz.f30)) (.agg (R9 k s0 s1 s2 s3 kc kn none lo hi gn)::Rp 15) h [2] K=(If (k==(2:Int)) (K .ret 16 [.b true] h) (If (k==(3:Int)) (K .ret 16 [.b true] h) (Con UY 70 [J kc kn none,V.fn (Fn.func (30:Nat)) [] []] h fun(v:V) (h':Heap)=> ∃a,v=.b a∧K .ret 16 [.b a] h'))):=by kernel_rfl
theorem ZIn{b n0 d n1 h}(K):CP UY 72 (flat (Za Tryz.f72)) (J b n0 none::J d n1 none::Rp 12) h [4] K=(Con UY 118 [J [J b n0 none,J d n1 none] 2 (some 2)] h fun(v:V) (h':Heap)=> ∃a c e f,v=S a c e f∧Con UY 75 [S a c e f] h' fun(v:V) (h':Heap)=>v=.tup []∧Con UY 76 [S a c e f] h' fun(v:V) (h':Heap)=> ∃g i j l,v=S g i j l∧K .ret 14 [S g i j l] h'):=by kernel_rfl
end Go.Y
namespace Go.Y
open Go.Proofs Go.Sort
set_option maxRecDepth 100000
set_option maxHeartbeats 1000000

theorem Qo(l:List Nat):(ints l).length=l.length:=by simp[ints]
theorem Zq6(l:List Int)(h:Heap):FrzL h (ZV l) (ZV l):=by
 have:=Zci l h
 rwa [rowI]at this

theorem Zao(hs:ZO UY.P 75)(hcm:ZC UY.P 76)(a b:List Nat)(ha:a.length<=1000)(hb:b.length<=1000):PCon UY 72 [lst encI (ints a),lst encI (ints b)] (· =lst encI (ints (boS a b))):=by
 refine Zt UK (fn:=Tryz.f72) rfl ZIn rfl ?_
 have hb36:QV UY 75:=⟨Tryz.f75,_,by kernel_rfl,rfl⟩
 have hb37:QV UY 76:=⟨Tryz.f76,_,by kernel_rfl,rfl⟩
 have hfl: [ints a,ints b].flatten=ints a++ints b:=by simp
 have hc:=Zkv [ints a,ints b] (by simp) (by rw[hfl,qf,Qo,Qo];omega) .empty
 rw[hfl]at hc
 have hzl:(ints a++ints b).length<=2000:=by rw[qf,Qo,Qo];omega
 have hres:ints (boS a b)=ZX (XV (ints a++ints b)):=by rw[Zq0,Zi1]
 rw[hres]
 generalize ints a++ints b=zs at hc hzl
 refine(Con.wk (args':= [lst Zcc [ints a,ints b]]) (.one _ _ _ _ (.inr (.inr ⟨_,_,_,rfl,rfl⟩)) .nil) hc).mono fun v h' ⟨q,n,c,k,hv,hG⟩=>⟨q,n,c,k,hv,?_⟩
 rcases hG with ⟨h0,rfl,rfl⟩|⟨id,hpos,rfl,rfl,rfl,rfl,hid,hg⟩
 ·have hz0:zs= []:=qg h0
  subst hz0
  refine(Ziz hb36 hs).mono fun v h' ⟨e1,e2⟩=>⟨e1,?_⟩
  refine(Zb6 hb37 hcm).mono fun v h' ⟨e1,e2⟩=>⟨_,_,_,_,e1,?_⟩
  refine Zv (.inr rfl) rfl (.sln _ _ none (fun _ h=>by cases h)) ?_
  rw[show XV ([]:List Int)= [] from List.mergeSort_nil]
  rfl
 ·have hne:zs≠ []:=fun e=>by rw[e]at hpos;exact absurd hpos (by decide)
  rw[Nat.sub_self]at hg
  have hg:h'.get id=some (.arr (ZV zs) true):=by rw[hg];simp[rowI]
  refine(Zml hb36 hs hg hne (by omega)).mono fun v h' ⟨e1,e2⟩=>⟨e1,?_⟩
  subst e2
  have hg:(h'.set id (some (.arr (ZV (XV zs)) true))).get id=some (.arr (ZV (XV zs)) true):=by rw[qc,if_pos rfl]
  have hsl:(XV zs).length=zs.length:=List.length_mergeSort _
  have hc2:=Zdq hb37 hcm (c:=none) (k:=1) hg (fun e=>by rw[e]at hsl;exact hne (qg hsl.symm)) (by omega)
  rw[hsl]at hc2
  refine hc2.mono fun v h' ⟨e1,e2⟩=>⟨_,_,_,_,e1,?_⟩
  subst e2
  refine Zv (.inr rfl) rfl (.sl id 0 _ none 1 (ZV (Zq1 (XV zs))) true (ZV (ZX (XV zs))) (ZV (ZX (XV zs))) none (by rw[qc,if_pos rfl]) ?_ (fun _ h=>by cases h) (by decide) ?_) ?_
  ·rw[ql,Nat.mul_one]
   have: ∀(x y:List V),Zo x.length (x++y)=some x:=by
    intro x
    induction x with
    |nil=>intro y;rfl
    |cons v x ih=>intro y;simp[Zo,ih]
   have h2:=this (ZV (ZX (XV zs))) (ZV (List.replicate ((XV zs).length-(ZX (XV zs)).length) 0))
   rw[List.length_map]at h2
   rw[<-h2,ZV,List.map_append]
  ·exact Zq6 _ _
  ·simp only[lst,rowI]

abbrev XO(l:List Nat):List V:= [lst encI (ints l)]
theorem Zap(l:List Nat):(XO l).length=1:=rfl
theorem Zoh(l:List Nat):ZQ (XO l)=true:=rfl
theorem Zcm(s:S4):(setC s).length=4:=rfl
theorem Zq7(s:S4):ZQ (setC s)=true:=rfl

structure MkA(h:Heap)(id:Nat)(A:Au0):Prop where
 lt:id<h.nx
 ex: ∃(a1:Option (Nat×Nat)) (l1:Nat) (c1:Option Nat) (k1:Nat) (a2:Option (Nat×Nat)) (l2:Nat) (c2:Option Nat) (k2:Nat),
  h.get id=some (.arr [.sl a1 l1 c1 k1, .sl none 0 (some 0) 0, .sl none 0 (some 0) 0, .sl a2 l2 c2 k2, .b false] true)∧LX setC 4 h a1 l1 c1 k1 A.sets∧LX XO 1 h a2 l2 c2 k2 A.fol∧
  (∀j o,a1=some (j,o)->j≠id)∧(∀j o,a2=some (j,o)->j≠id)∧(∀j o o',a1=some (j,o)->a2≠some (j,o'))

abbrev XA(p:Part):List V:= [lst encI (ints p.first),lst encI (ints p.last), .b p.empty]

def qOf(h:Heap)(id:Nat):Nat:=match h.get id with
 |some (.arr [_,_,_, .sl (some (q,_)) _ _ _,_] _)=>q
 |_=>0
def Zi5(h:Heap)(id:Nat)(fol:List (List Nat)):Heap:=h.set (qOf h id) (some (.arr (row XO fol) true))
theorem MkA.fols{h:Heap}{id:Nat}{sets:List S4}{fol:List (List Nat)}(hM:MkA h id ⟨sets,fol⟩)(hne:fol≠ []):
  ∃(q l2:Nat) (c2:Option Nat),Zb h id 3 1=some [.sl (some (q,0)) l2 c2 1]∧l2=fol.length∧qOf h id=q∧h.get q=some (.arr (row XO fol) true):=by
 obtain⟨hl0,a1,l1,c1,k1,a2,l2,c2,k2,hg,hL1,hL2,hn1,hn2,hn3⟩:=hM
 obtain⟨q,rfl,rfl,hq,hgq,hcq⟩:=hL2.cells hne
 exact⟨q,l2,c2,(Zr hg 3 1).trans rfl,hL2.len,by unfold qOf;rw[hg],hgq⟩
theorem MkA.set{h:Heap}{id:Nat}{sets:List S4}{fol fol':List (List Nat)}(hM:MkA h id ⟨sets,fol⟩)(hne:fol≠ [])(hl:fol'.length=fol.length):MkA (Zi5 h id fol') id ⟨sets,fol'⟩:=by
 have hne':fol'≠ []:=fun e=>by rw[e]at hl;exact hne (qg hl.symm)
 obtain⟨hl0,a1,l1,c1,k1,a2,l2,c2,k2,hg,hL1,hL2,hn1,hn2,hn3⟩:=hM
 obtain⟨q,rfl,rfl,hq,hgq,hcq⟩:=hL2.cells hne
 have hqq:qOf h id=q:=by unfold qOf;rw[hg]
 have hlen2:l2=fol.length:=hL2.len
 have hqi:q≠id:=hn2 q 0 rfl
 unfold Zi5
 rw[hqq]
 refine⟨by simpa using hl0,a1,l1,c1,k1,some (q,0),l2,c2,1,by rw[qc,if_neg (Ne.symm hqi)];exact hg,?_,?_,hn1,hn2,hn3⟩
 ·exact hL1.fr (by simp) fun j hj hlt=>by
   rw[qc,if_neg (fun e=>by subst e;exact hn3 j 0 0 hj rfl)]
 ·exact⟨fun e=>absurd e hne',fun _=>⟨q,rfl,rfl,by simpa using hq,by rw[qc,if_pos rfl],hcq⟩,by rw[hlen2,hl]⟩

def VG(h:Heap)(id:Nat)(fol:List (List Nat))(src to:List Nat):Nat->Heap
 |0=>h
 |i+1=>Zi5 (VG h id fol src to i) id (VD boS fol (src.take (i+1)) to)

theorem Zoi(fol:List (List Nat))(src:List Nat)(to:List Nat){i:Nat}(hi:i<src.length):VD boS fol (src.take (i+1)) to=(VD boS fol (src.take i) to).set src[i] (boS ((VD boS fol (src.take i) to).getD src[i] []) to):=by
 rw[qa hi]
 simp only[VD,List.foldl_append,List.foldl_cons,List.foldl_nil]

theorem Zcn{h:Heap}{id:Nat}{A:Au0}(hA:AuB A)(hM:MkA h id A){src to:List Nat}(hsr:Rz A.sets.length src)(ht:Rz A.sets.length to): ∀i,i<=src.length->MkA (VG h id A.fol src to i) id ⟨A.sets,VD boS A.fol (src.take i) to⟩
 |0,_=>hM
 |i+1,hi=>by
  have h1:=Zcn hA hM hsr ht i (by omega)
  have b1:=(Ziw (n:=A.sets.length) ht.2 (src.take i) A.fol hA.fo).1
  have b2:=(Ziw (n:=A.sets.length) ht.2 (src.take (i+1)) A.fol hA.fo).1
  have hp:src[i]<A.sets.length:=hsr.2 _ (qe (by omega))
  exact h1.set (fun e=>by rw[e]at b1;rw[hA.wf]at b1;simp at b1;omega) (by rw[b1,b2])

theorem Zq8(hs:ZO UY.P 75)(hcm:ZC UY.P 76){h:Heap}{id:Nat}{A:Au0}(hA:AuB A)(hM:MkA h id A)(hn:A.sets.length<=300){src to:List Nat}(hsr:Rz A.sets.length src)(ht:Rz A.sets.length to):
  Con UY 119 [.p (some (id,0)),lst encI (ints src),lst encI (ints to)] h fun v h'=>v= .tup []∧h'=VG h id A.fol src to src.length:=by
 refine Zu UK (fn:=Tryz.f119) (Zl UK 32 ZCx rfl ?_)
 have hsl:=hsr.len
 have htl:=ht.len
 refine⟨rfl,Zn9 [0,2,8,9,10] [0,2,8,9,10] (fun m vs h1=> ∃i:Nat,vs= [.p (some (id,0)),lst encI (ints to),lst encI (ints src),I (ints src).length,I (i:Nat)]∧i<=src.length∧m=src.length-i∧h1=VG h id A.fol src to i) src.length Zy ⟨0,rfl,by omega,by omega,rfl⟩ ?_⟩
 rintro m vs h1 ⟨i,rfl,hi,rfl,hh1⟩
 have hMi:=Zcn hA hM hsr ht i hi
 rw[<-hh1]at hMi
 refine Zs UK ZCy rfl ?_
 refine Zm (fun hlt'=> ?_) (fun hge=> ?_)
 ·have hlt:i<src.length:=by rw[Qo]at hlt';exact hlt'
  have hB:=(Ziw (n:=A.sets.length) ht.2 (src.take i) A.fol hA.fo)
  have hp:src[i]<(VD boS A.fol (src.take i) to).length:=by rw[hB.1,hA.wf];exact hsr.2 _ (qe hlt)
  have hsn:=Zoi A.fol src to hlt
  have hnx:VG h id A.fol src to (i+1)=Zi5 h1 id (VD boS A.fol (src.take (i+1)) to):=by rw[VG,<-hh1]
  rw[hsn]at hnx
  generalize VD boS A.fol (src.take i) to=fol at hMi hB hp hsn hnx
  have hne:fol≠ []:=fun e=>by rw[e]at hp;exact absurd hp (by simp)
  obtain⟨q,l2,c2,hcell,hlen2,hqq,hgq⟩:=hMi.fols hne
  have hrz:=hB.2 _ (qe hp)
  have hbo:=Zao hs hcm fol[src[i]] to (by have:=hrz.len;omega) (by omega)
  have hD:fol.getD src[i] []=fol[src[i]]:=by simp[qw,hp]
  have hidx:(ints src)[i]'(by rw[Qo];exact hlt)=(src[i]:Nat):=by simp[ints]
  refine⟨Zz hlt',((src[i]:Nat):Int),?_,_,_,_,_,hcell,_,_,_,_,hcell,?_⟩
  ·rw[qdq]
   have:=Xi (f:=encI) (k:=1) Zgu (l:=ints src) (i:=i) (by rw[Qo];exact hlt)
   rw[this,hidx]
  refine⟨⟨by omega,by omega⟩,rfl,_,_,_,(Zr hgq _ _).trans ?_,_,_,_,hbo,⟨by omega,by omega⟩,rfl,h1.set q (some (.arr (row XO (fol.set src[i] (boS fol[src[i]] to))) true)),?_,?_⟩
  ·rw[qdq,Nat.zero_add]
   exact Xi (f:=XO) (k:=1) Zap hp
  ·simp only[Zj,hgq]
   rw[qdq,if_pos (by rw[Xf Zap];simp;omega)]
   have:=Zix (f:=XO) Zap fol src[i] (boS fol[src[i]] to) hp
   rw[Nat.zero_add,Nat.mul_one]
   rw[show([V.ts (row encI (ints (boS fol[src[i]] to))) (ints (boS fol[src[i]] to)).length none]:List V)=XO (boS fol[src[i]] to) from rfl,this]
  ·exact⟨rfl,src.length-(i+1),by omega,i+1,by rw[Zh (by omega)];rfl,by omega,rfl,by rw[hnx,hD,Zi5,hqq]⟩
 ·have he:i=src.length:=by rw[Qo]at hge;omega
  rw[he]at hh1
  exact Xv (.inl rfl) rfl (AfterZ.now ⟨rfl,hh1⟩)

theorem Zmp(hs:ZO UY.P 75)(hcm:ZC UY.P 76){h:Heap}{id:Nat}{A:Au0}(hA:AuB A)(hM:MkA h id A)(hn:A.sets.length<=300){a b:Part}(ha:PaB A.sets.length a)(hb:PaB A.sets.length b):
  Con UY 73 [.p (some (id,0)), .agg (XA a), .agg (XA b)] h fun v h'=>v= .agg (XA (catP boS A a b).2)∧h'=VG h id A.fol a.last b.first a.last.length:=by
 refine Zu UK (fn:=Tryz.f73) (Zn UK ZIi rfl ?_)
 refine(Zq8 hs hcm hA hM hn ha.la hb.fi).mono fun v h1 ⟨hv,hM1⟩=>⟨hv,?_⟩
 have l1:=ha.fi.len;have l2:=ha.la.len;have l3:=hb.fi.len;have l4:=hb.la.len
 have c1:=Zao hs hcm a.first b.first (by omega) (by omega)
 have c2:=Zao hs hcm a.last b.last (by omega) (by omega)
 have fin: ∀(f l:List Nat) (e:Bool),f=(if a.empty then boS a.first b.first else a.first)->l=(if b.empty then boS a.last b.last else b.last)->e=(a.empty&&b.empty)->
   Go.Y.Fin UY Tryz.f73 [6] (AfterZ fun v h'=>v= .agg (XA (catP boS A a b).2)∧h'=VG h id A.fol a.last b.first a.last.length) .ret 42 [.lb [lst encI (ints f),lst encI (ints l), .b e]] h1:=fun f l e h1 h2 h3=>
  finC (.inr rfl) rfl (.now ⟨by subst h1 h2 h3;rfl,hM1⟩)
 refine Zg (fun h1=>Zg (fun _=>⟨_,_,_,c1,Zg (fun h2=>⟨_,_,_,c2,fin _ _ _ (by rw[h1];rfl) (by rw[h2];rfl) (by rw[h1,h2];rfl)⟩) (fun h2=>fin _ _ _ (by rw[h1];rfl) (by rw[h2];rfl) (by rw[h1,h2];rfl))⟩) (fun h=>by rw[h1]at h;cases h)) (fun h1=>Zg (fun h=>by rw[h1]at h;cases h) (fun _=>Zg (fun h2=>⟨_,_,_,c2,fin _ _ _ (by rw[h1];rfl) (by rw[h2];rfl) (by rw[h1];rfl)⟩) (fun h2=>fin _ _ _ (by rw[h1];rfl) (by rw[h2];rfl) (by rw[h1];rfl))))

theorem Zmq{h:Heap}{id:Nat}{A:Au0}(hA:AuB A)(hM:MkA h id A){a b:Part}(ha:PaB A.sets.length a)(hb:PaB A.sets.length b):MkA (VG h id A.fol a.last b.first a.last.length) id (catP boS A a b).1:=by
 have:=Zcn hA hM ha.la hb.fi a.last.length (qnq _)
 rw[qm]at this
 exact this

theorem Zi6(k:Int)(s:S4)(kids:List Re)(lo hi n:Int)(h1:0<=lo):PCon UY 71 [.agg (Zd (.mk k s kids lo hi n))] (· = I (Xw lo hi:Nat)):=by
 rw[Zp]
 refine Zt UK (fn:=Tryz.f71) rfl ZIh rfl ?_
 refine Wx (fun h=>Zv (.inr rfl) rfl (.i _ _) ?_) (fun h=>Zv (.inr rfl) rfl (.i _ _) ?_)
 ·unfold Xw;rw[if_pos h,Int.toNat_of_nonneg h]
 ·unfold Xw;rw[if_neg (by omega)]
  congr 1
  show(if 1>lo then 1 else lo)=_
  split<;>omega
end Go.Y
