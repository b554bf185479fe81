/- A part of the proof. -/
import Derived.Test.YteennilbmmlikaaGreatDoorGTrA
import Derived.Test.YteennilbmmlikaaGreatDoorYFrz
import Derived.Test.YteennilbmmlikaaGreatDoorYTryzP
import Derived.Test.YteennilbmmlikaaGreatDoorYLoop
namespace Go.Y
open Go.Proofs
set_option maxRecDepth 1000000
set_option maxHeartbeats 0
structure AllR(n:Nat):Prop where
 alt: ∀ {h:Heap} {id:Nat} {s:List UInt8} {i g d:Nat},RdE h id s i g 0->s.length<2 ^ 27->i<=s.length->g<=i->d<=64->6*(s.length-i)+6<=n->Con UY 106 [.p (some (id,0)),I (d:Nat)] h (reQ (altE n d s i g) h id s)
 row: ∀ {h:Heap} {id:Nat} {s:List UInt8} {i g d:Nat},RdE h id s i g 0->s.length<2 ^ 27->i<=s.length->g<=i->d<=64->6*(s.length-i)+5<=n->Con UY 135 [.p (some (id,0)),I (d:Nat)] h (reQ (rowE n d s i g []) h id s)
 piece: ∀ {h:Heap} {id:Nat} {s:List UInt8} {i g d:Nat},RdE h id s i g 0->s.length<2 ^ 27->i<s.length->g<=i->d<=64->6*(s.length-i)+4<=n->Con UY 170 [.p (some (id,0)),I (d:Nat)] h (reQ (XR n d s i g) h id s)
 atom: ∀ {h:Heap} {id:Nat} {s:List UInt8} {i g d:Nat},RdE h id s i g 0->s.length<2 ^ 27->i<s.length->g<=i->d<=64->6*(s.length-i)+3<=n->Con UY 187 [.p (some (id,0)),I (d:Nat)] h (reQ (Jo n d s i g) h id s)

theorem Zg8(c:UInt8):([42,43,63,123]:List UInt8).contains c=Zgv c:=by
 unfold Zgv
 simp only[List.contains_cons,List.contains_nil,Bool.or_false,Bool.or_assoc]

def grE(n d:Nat)(s:List UInt8)(i g:Nat):PR Re:=match altE n (d+1) s i (g+1) with
 | .error e=> .error e
 | .ok (r,j,g')=>if s[j]? =some 41 then .ok (.mk 7 (0,0,0,0) [r] 0 0 (if g+1<=9 then((g+1:Nat):Int)else 0),j+1,g')else .error (1,j)

theorem ZFs{n:Nat}(ih:AllR n){h:Heap}{id:Nat}{s:List UInt8}{i g d:Nat}(r:RdE h id s i g 0)(hs:s.length<2 ^ 27)(hi:i<=s.length)(hg:g+1<=i)(hd:d<64)(hn:6*(s.length-i)+6<=n):
  Con UY 193 [.p (some (id,0)),I d] h (reQ (grE n d s i g) h id s):=by
 refine Zu UK (fn:=Tryz.f193) (Zn UK ZEk rfl ?_)
 generalize hR:grE n d s i g=R
 unfold grE at hR
 obtain⟨h2,k1,k2,k3⟩:=r.s2 (g+1)
 refine⟨_,r.c2,h2,by rw[Zh (by omega)];exact k1,_,k2.c2,?_⟩
 rw[Zh (by omega)]
 have hc:=ih.alt k2 hs hi (show g+1<=i by omega) (show d+1<=64 by omega) hn
 have go: ∀(N:Int),N=(if g+1<=9 then((g+1:Nat):Int)else 0)-> ∀(v:V) (h':Heap),reQ (altE n (d+1) s i (g+1)) h2 id s v h'-> ∃(n_1 n_2 n_3 n_4 n_5:Int) (cs:List V) (l:Nat) (c:Option Nat) (n_6 n_7 n_8:Int),v= .agg [I n_1,U n_2,U n_3,U n_4,U n_5, .ts cs l c,I n_6,I n_7,I n_8]∧
   Con UY 196 [.p (some (id,0)), .s [41]] h' fun v h'=> ∃n_9:Int,v= .i .u8 n_9∧Go.Y.Fin UY Tryz.f193 [4] (AfterZ (reQ R h id s)) .ret 30 [.lb [I 7,U 0,U 0,U 0,U 0, .ts [I n_1,U n_2,U n_3,U n_4,U n_5, .ts cs l c,I n_6,I n_7,I n_8] 1 (some 1),I 0,I 0,I N]] h':=by
  rintro N hN v h' ⟨x,j,gg,e,rfl,u1,u2,u3⟩
  obtain⟨xk,xs,xl,xlo,xhi,xn⟩:=x
  refine⟨_,_,_,_,_,_,_,_,_,_,_,ZD _ _ _ _ _ _,?_⟩
  refine(Zg6 u1 [41] (by omega)).mono fun v h3 hq=> ?_
  have fin: ∀(j':Nat) (e':Int),RdE h3 id s j' gg e'->FrO h' id h3->((e'=0∧R= .ok (.mk 7 (0,0,0,0) [.mk xk xs xl xlo xhi xn] 0 0 N,j',gg))∨(e'≠0∧R= .error (e',j')))->
    Go.Y.Fin UY Tryz.f193 [4] (AfterZ (reQ R h id s)) .ret 30 [.lb [I 7,U 0,U 0,U 0,U 0, .ts [I xk,U xs.1,U xs.2.1,U xs.2.2.1,U xs.2.2.2,lst Zd xl,I xlo,I xhi,I xn] 1 (some 1),I 0,I 0,I N]] h3:=fun j' e' w1 w2 hd=>
   finC (.inr rfl) rfl (JI (D:= []) 7 0 0 N (0,0,0,0) [.mk xk xs xl xlo xhi xn] (Zam _ _ (Zp _ _ _ _ _ _) _) ⟨_,j',gg,e',rfl,w1,((k3.trans u2).trans w2),hd⟩)
  rcases u3 with ⟨rfl,hr⟩|⟨he,hr⟩
  ·rw[hr]at hR;simp only[]at hR
   rcases hq with ⟨c,_,hc,hm,hv,w1,w2⟩|⟨_,hn,hv,w1,w2⟩|⟨he,_⟩
   ·have:c=41:=by simpa using hm
    subst this
    rw[if_pos hc]at hR
    exact⟨_,hv,fin (j+1) 0 w1 w2 (.inl ⟨rfl,by rw[<-hR,hN]⟩)⟩
   ·have:s[j]? ≠some 41:=by rw[Qf]at hn;simpa using hn
    rw[if_neg this]at hR
    exact⟨_,hv,fin j 1 w1 w2 (.inr ⟨by decide,hR.symm⟩)⟩
   ·exact absurd rfl he
  ·rw[hr]at hR;simp only[]at hR
   rcases hq with ⟨c,he',_⟩|⟨he',_⟩|⟨_,hv,w1,w2⟩
   ·exact absurd he' he
   ·exact absurd he' he
   ·exact⟨_,hv,fin j e w1 w2 (.inr ⟨he,hR.symm⟩)⟩
 refine XC (fun h9=> ?_) (fun h9=> ?_)
 ·exact hc.mono fun v h' hq=>go _ (by rw[if_neg (by omega)]) v h' hq
 ·exact hc.mono fun v h' hq=>go _ (by rw[if_pos (by omega)]) v h' hq

theorem Zg9(S:S4):V.agg (Zd (XY S))= .agg [I 1,U S.1,U S.2.1,U S.2.2.1,U S.2.2.2, .ts [] 0 none,I 0,I 0,I 0]:=by
 unfold XY;rw[Zp];rfl
theorem Zsf(c:UInt8):PCon UY 195 [.i .u8 (c.toNat:Nat)] fun v=>v= .agg [I 1,U (Zw fun x=>x==c.toNat).1,U (Zw fun x=>x==c.toNat).2.1,U (Zw fun x=>x==c.toNat).2.2.1,U (Zw fun x=>x==c.toNat).2.2.2, .ts [] 0 none,I 0,I 0,I 0]:=by
 have:=Zu6 c
 rwa [Zg9]at this

theorem ZKe{n:Nat}(ih: ∀m,m<n->AllR m){h:Heap}{id:Nat}{s:List UInt8}{i g d:Nat}(r:RdE h id s i g 0)(hs:s.length<2 ^ 27)(hi:i<s.length)(hg:g<=i)(hd:d<=64)(hn:6*(s.length-i)+3<=n):
  Con UY 187 [.p (some (id,0)),I d] h (reQ (Jo n d s i g) h id s):=by
 obtain⟨n,rfl⟩: ∃m,n=m+1:=⟨n-1,by omega⟩
 refine Zu UK (fn:=Tryz.f187) (Zn UK ZEj rfl ?_)
 have hsi:s[i]? =some s[i]:=by simp[hi]
 generalize s[i]=c at hsi
 generalize hR:Jo (n+1) d s i g=R
 rw[Jo,hsi]at hR
 simp only[]at hR
 have bad: ∀(x:Int),x≠0->R= .error (x,i)->Con UY 108 [.p (some (id,0)),I x] h fun v h'=>v= .tup []∧Go.Y.Fin UY Tryz.f187 [4] (AfterZ (reQ R h id s)) .ret 52 [zLb] h':=fun x hx hr=>
  (Zk7 r x).mono fun v h' ⟨hv,u1,u2⟩=>⟨hv,finC (.inr rfl) rfl (Zan ⟨Xs,i,g,x,rfl,by simpa using u1,u2, .inr ⟨hx,hr⟩⟩)⟩
 refine⟨_,VJ r [42,43,63,123],Zg (fun hb=>bad 1 (by decide) ?_) (fun hb=> ?_)⟩
 ·have hb:pk s i [42,43,63,123]=true:=by simpa using hb
  rw[WG hsi,Zg8]at hb
  rw[if_pos hb]at hR;exact hR.symm
 have hb:pk s i [42,43,63,123]=false:=by simpa using hb
 rw[WG hsi,Zg8]at hb
 rw[if_neg (by rw[hb];decide)]at hR
 clear hb
 have nx: ∀ {P:V->Heap->Prop},(∀h',RdE h' id s (i+1) g 0->FrO h id h'->P (.i .u8 (c.toNat:Nat)) h')->Con UY 137 [.p (some (id,0))] h P:=fun hP=>
  (Zer r (by omega)).mono fun v h' hq=>by
   rcases hq with ⟨e,_,he,hv,u1,u2⟩|⟨_,hn,_⟩|⟨he,_⟩
   ·rw[hsi]at he;cases he
    rw[hv];exact hP h' u1 u2
   ·rw[hsi]at hn;cases hn
   ·exact absurd rfl he
 refine⟨_,VJ r [40],Zg (fun hb=> ?_) (fun hb=> ?_)⟩
 ·have hb:c=40:=by
   have hb:pk s i [40]=true:=by simpa using hb
   rw[Qf,hsi]at hb;simpa using hb
  subst hb
  rw[if_pos rfl]at hR
  refine Wx (fun h64=>bad 8 (by decide) ?_) (fun h64=> ?_)
  ·rw[if_pos (by omega)]at hR;exact hR.symm
  rw[if_neg (by omega)]at hR
  refine nx fun h1 u1 u2=>⟨_,rfl,ifT rfl ?_⟩
  have hgr:grE n d s (i+1) g=R:=hR
  refine(ZFs (ih n (by omega)) u1 hs (by omega) (by omega) (by omega) (by omega)).mono fun v h2 ⟨x,j,gg,e,hv,w1,w2,w3⟩=> ?_
  subst hv
  obtain⟨xk,xs,xl,xlo,xhi,xn⟩:=x
  refine⟨_,_,_,_,_,_,_,_,_,_,_,ZD _ _ _ _ _ _,finC (.inr rfl) rfl (.now ?_)⟩
  rw[<-ZD]
  rw[hgr]at w3
  exact⟨_,j,gg,e,rfl,w1,u2.trans w2,w3⟩
 have hb:c≠40:=by
  have hb:pk s i [40]=false:=by simpa using hb
  rw[Qf,hsi]at hb;simpa using hb
 rw[if_neg hb]at hR
 have done: ∀(h2:Heap) (x:Re) (j:Nat),RdE h2 id s j g 0->FrO h id h2->R= .ok (x,j,g)->reQ R h id s (.agg (Zd x)) h2:=fun h2 x j q1 q2 hr=>⟨x,j,g,0,rfl,q1,q2, .inl ⟨rfl,hr⟩⟩
 refine nx fun h1 u1 u2=>⟨_,rfl,Zg (fun c5=>absurd (ZI (d:=40) c5) hb) (fun _=>Zg (fun c6=> ?_) (fun c6=> ?_))⟩
 ·have c6:=ZI (d:=91) c6
  rw[if_pos c6]at hR
  refine(ZFj u1 hs (by omega)).mono fun v h2 ⟨x,j,e,hv,w1,w2,w3⟩=> ?_
  subst hv
  refine⟨_,_,_,_,_,_,_,_,_,_,_,ZD _ _ _ _ _ _,finC (.inr rfl) rfl (.now ?_)⟩
  rw[<-ZD]
  rcases w3 with ⟨rfl,hr⟩|⟨rfl,hr⟩
  ·rw[hr]at hR;exact⟨_,j,g,0,rfl,w1,u2.trans w2, .inl ⟨rfl,hR.symm⟩⟩
  ·rw[hr]at hR;exact⟨XY x,j,g,1,rfl,w1,u2.trans w2, .inr ⟨by decide,hR.symm⟩⟩
 have c6:=ZF (d:=91) c6
 rw[if_neg c6]at hR
 refine Zg (fun c7=> ?_) (fun c7=> ?_)
 ·have c7:=ZI (d:=46) c7
  rw[if_pos c7]at hR
  have hnot:=Zm6 (fun _=>false)
  rw[setOf_no]at hnot
  exact⟨_,_,_,_,hnot,finC (.inr rfl) rfl (VF (Zw fun x=> !false) (done h1 _ (i+1) u1 u2 hR.symm))⟩
 have c7:=ZF (d:=46) c7
 rw[if_neg c7]at hR
 refine Zg (fun c8=> ?_) (fun c8=> ?_)
 ·have c8:=ZI (d:=94) c8
  rw[if_pos c8]at hR
  exact finC (.inr rfl) rfl (JI (D:= []) 2 0 0 0 (0,0,0,0) [] (JG _ _ _) (done h1 _ (i+1) u1 u2 hR.symm))
 have c8:=ZF (d:=94) c8
 rw[if_neg c8]at hR
 refine Zg (fun c9=> ?_) (fun c9=> ?_)
 ·have c9:=ZI (d:=36) c9
  rw[if_pos c9]at hR
  exact finC (.inr rfl) rfl (JI (D:= []) 3 0 0 0 (0,0,0,0) [] (JG _ _ _) (done h1 _ (i+1) u1 u2 hR.symm))
 have c9:=ZF (d:=36) c9
 rw[if_neg c9]at hR
 refine Zg (fun ca=> ?_) (fun ca=> ?_)
 ·have ca:=ZI (d:=92) ca
  rw[if_pos ca]at hR
  refine(Zer u1 (by omega)).mono fun v h2 hq=> ?_
  rcases hq with ⟨e,_,he,hv,w1,w2⟩|⟨_,hn,hv,w1,w2⟩|⟨he,_⟩
  ·rw[he]at hR
   refine⟨_,hv,_,_,_,_,_,_,_,_,_,_,_,Zsf e,finC (.inr rfl) rfl (.now ?_)⟩
   rw[<-Zg9];exact done h2 _ (i+2) w1 (u2.trans w2) hR.symm
  ·rw[hn]at hR
   refine⟨_,hv,_,_,_,_,_,_,_,_,_,_,_,Zsf 0,finC (.inr rfl) rfl (.now ?_)⟩
   rw[<-Zg9];exact⟨_,i+1,g,1,rfl,w1,u2.trans w2, .inr ⟨by decide,hR.symm⟩⟩
  ·exact absurd rfl he
 have ca:=ZF (d:=92) ca
 rw[if_neg ca]at hR
 refine⟨_,_,_,_,_,_,_,_,_,_,_,Zsf c,finC (.inr rfl) rfl (.now ?_)⟩
 rw[<-Zg9];exact done h1 _ (i+1) u1 u2 hR.symm

theorem ZFt{n:Nat}(ih: ∀m,m<n->AllR m){h:Heap}{id:Nat}{s:List UInt8}{i g d:Nat}(r:RdE h id s i g 0)(hs:s.length<2 ^ 27)(hi:i<s.length)(hg:g<=i)(hd:d<=64)(hn:6*(s.length-i)+4<=n):
  Con UY 170 [.p (some (id,0)),I d] h (reQ (XR n d s i g) h id s):=by
 obtain⟨n,rfl⟩: ∃m,n=m+1:=⟨n-1,by omega⟩
 refine Zu UK (fn:=Tryz.f170) (Zn UK ZEi rfl ?_)
 generalize hR:XR (n+1) d s i g=R
 rw[XR]at hR
 refine((ih n (by omega)).atom r hs hi hg hd (by omega)).mono fun v h1 ⟨x,j,gg,e,hv,u1,u2,u3⟩=> ?_
 subst hv
 obtain⟨xk,xs,xl,xlo,xhi,xn⟩:=x
 have keep: ∀(h2:Heap) (j2:Nat) (e2:Int),RdE h2 id s j2 gg e2->FrO h id h2->((e2=0∧R= .ok (.mk xk xs xl xlo xhi xn,j2,gg))∨(e2≠0∧R= .error (e2,j2)))->
   Go.Y.Fin UY Tryz.f170 [4] (AfterZ (reQ R h id s)) .ret 46 [.lb [I xk,U xs.1,U xs.2.1,U xs.2.2.1,U xs.2.2.2,lst Zd xl,I xlo,I xhi,I xn]] h2:=fun h2 j2 e2 q1 q2 q3=>
  finC (.inr rfl) rfl (.now (by rw[<-ZD];exact⟨_,j2,gg,e2,rfl,q1,q2,q3⟩))
 refine⟨_,_,_,_,_,_,_,_,_,_,_,ZD _ _ _ _ _ _,_,VJ u1 [42,43,63,123],Zg (fun hb=>keep h1 j e u1 u2 ?_) (fun hb=> ?_)⟩
 ·rcases u3 with ⟨rfl,hr⟩|⟨he,hr⟩
  ·have hb:pk s j [42,43,63,123]=false:=by simpa using hb
   rw[hr]at hR;simp only[]at hR
   refine .inl ⟨rfl,?_⟩
   cases hsj:s[j]? with
   |none=>rw[hsj]at hR;exact hR.symm
   |some c=>
    rw[hsj]at hR;simp only[]at hR
    rw[WG hsj,Zg8]at hb
    rw[if_neg (by rw[hb];decide)]at hR;exact hR.symm
  ·rw[hr]at hR;exact .inr ⟨he,hR.symm⟩
 have hb2:e=0∧pk s j [42,43,63,123]=true:=by simpa using hb
 obtain⟨rfl,hp⟩:=hb2
 rcases u3 with ⟨_,hr⟩|⟨he,hr⟩
 rotate_left
 ·exact absurd rfl he
 obtain⟨c,hc,hm,hlt⟩:=Zsa hp
 rw[hr]at hR;simp only[]at hR
 rw[hc]at hR;simp only[]at hR
 rw[Zg8]at hm
 rw[if_pos hm]at hR
 have bad:(xk=2∨xk=3)->Con UY 108 [.p (some (id,0)),I 1] h1 fun v h'=>v= .tup []∧Go.Y.Fin UY Tryz.f170 [4] (AfterZ (reQ R h id s)) .ret 46 [.lb [I xk,U xs.1,U xs.2.1,U xs.2.2.1,U xs.2.2.2,lst Zd xl,I xlo,I xhi,I xn]] h':=fun hk=>
  (Zk7 u1 1).mono fun v h' ⟨hv,w1,w2⟩=>⟨hv,keep h' j 1 (by simpa using w1) (u2.trans w2) (.inr ⟨by decide,by rw[if_pos (show(Re.mk xk xs xl xlo xhi xn).kind=2∨(Re.mk xk xs xl xlo xhi xn).kind=3 from hk)]at hR;exact hR.symm⟩)⟩
 refine Zg (fun k2=>bad (.inl (by simpa using k2))) (fun k2=>Zg (fun k3=>bad (.inr (by simpa using k3))) (fun k3=> ?_))
 have k2:xk≠2:=by simpa using k2
 have k3:xk≠3:=by simpa using k3
 rw[if_neg (fun hk:(Re.mk xk xs xl xlo xhi xn).kind=2∨(Re.mk xk xs xl xlo xhi xn).kind=3=>hk.elim k2 k3)]at hR
 have rep: ∀(h2:Heap) (lo hi:Int) (j2:Nat) (e2:Int),RdE h2 id s j2 gg e2->FrO h id h2->((e2=0∧R= .ok (.mk 6 (0,0,0,0) [.mk xk xs xl xlo xhi xn] lo hi 0,j2,gg))∨(e2≠0∧R= .error (e2,j2)))->
   Go.Y.Fin UY Tryz.f170 [4] (AfterZ (reQ R h id s)) .ret 46 [.lb [I 6,U 0,U 0,U 0,U 0, .ts [I xk,U xs.1,U xs.2.1,U xs.2.2.1,U xs.2.2.2,lst Zd xl,I xlo,I xhi,I xn] 1 (some 1),I lo,I hi,I 0]] h2:=fun h2 lo hi j2 e2 q1 q2 q3=>
  finC (.inr rfl) rfl (JI (D:= []) 6 lo hi 0 (0,0,0,0) [.mk xk xs xl xlo xhi xn] (Zam _ _ (Zp _ _ _ _ _ _) _) ⟨_,j2,gg,e2,rfl,q1,q2,q3⟩)
 refine(Zer u1 (by omega)).mono fun v h2 hq=> ?_
 rcases hq with ⟨e,_,he,hv,w1,w2⟩|⟨_,hn,_⟩|⟨he,_⟩
 rotate_left
 ·rw[hc]at hn;cases hn
 ·exact absurd rfl he
 rw[hc]at he;cases he
 refine⟨_,hv,Zg (fun c1=> ?_) (fun c1=>Zg (fun c2=> ?_) (fun c2=>Zg (fun c3=> ?_) (fun c3=> ?_)))⟩
 ·have c1:=ZI (d:=43) c1
  subst c1
  rw[if_neg (by decide),if_pos rfl]at hR
  exact rep h2 1 (-1) (j+1) 0 w1 (u2.trans w2) (.inl ⟨rfl,hR.symm⟩)
 ·have c2:=ZI (d:=63) c2
  subst c2
  rw[if_neg (by decide),if_neg (by decide),if_pos rfl]at hR
  exact rep h2 0 1 (j+1) 0 w1 (u2.trans w2) (.inl ⟨rfl,hR.symm⟩)
 ·have c3:=ZI (d:=123) c3
  subst c3
  rw[if_neg (by decide),if_neg (by decide),if_neg (by decide)]at hR
  refine(ZFr w1 hs).mono fun v h3 ⟨x,y,j2,e2,hv,z1,z2,z3⟩=>⟨_,_,hv,?_⟩
  rcases z3 with ⟨rfl,hb⟩|⟨rfl,hb⟩
  ·rw[hb]at hR
   exact rep h3 x y j2 0 z1 ((u2.trans w2).trans z2) (.inl ⟨rfl,hR.symm⟩)
  ·rw[hb]at hR
   exact rep h3 x y j2 1 z1 ((u2.trans w2).trans z2) (.inr ⟨by decide,hR.symm⟩)
 ·have d1:=ZF (d:=43) c1
  have d2:=ZF (d:=63) c2
  have d3:=ZF (d:=123) c3
  have:c=42:=by simpa[Zgv,d1,d2,d3]using hm
  subst this
  rw[if_pos rfl]at hR
  exact rep h2 0 (-1) (j+1) 0 w1 (u2.trans w2) (.inl ⟨rfl,hR.symm⟩)
end Go.Y
namespace Go.Y
set_option maxRecDepth 1000000
set_option maxHeartbeats 0
mutual
inductive WkD:V->V->Prop
 |same (v:V):WkD v v
 |nil (c:Option Nat) (k:Nat):WkD (.sl none 0 c k) (.ts [] 0 none)
 |ts (cs cs':List V) (n:Nat) (c:Option Nat) (h:WkDs cs cs'):WkD (.ts cs n c) (.ts cs' n none)
 |agg (cs cs':List V) (h:WkDs cs cs'):WkD (.agg cs) (.agg cs')
inductive WkDs:List V->List V->Prop
 |nil:WkDs [] []
 |cons (v v':V) (l l':List V) (h:WkD v v') (hl:WkDs l l'):WkDs (v::l) (v'::l')
end

mutual
theorem WkD.vr{W:Vw}{v v':V}(h:WkD v v'){u:Value}(r:VR W v u):VR W v' u:=by
 cases h with
 |same=>exact r
 |nil c k=>cases r;exact .tsz _ (fun c h=>by cases h)
 |ts cs cs' n c h=>
  cases r with
  |tsn _ _ a cap' hl hc=>cases h;exact .tsn _ _ a cap' hl (fun c h=>by cases h)
  |tsz _ hc=>cases h;exact .tsz _ (fun c h=>by cases h)
  |ts _ _ _ cap' blk off c e fr us hl hcap hs hc hr=>exact .ts _ _ _ cap' blk off c e fr us hl (fun c h=>by cases h) hs hc (WkDs.vr h hr)
 |agg cs cs' h=>cases r with|agg _ us h1=>exact .agg _ _ (WkDs.vr h h1)
theorem WkDs.vr{W:Vw}{l l'}(h:WkDs l l'){us:List Value}(r:VRs W l us):VRs W l' us:=by
 cases h with
 |nil=>cases r;exact .nil
 |cons v v' l l' h hl=>cases r with|cons _ _ _ _ h1 h2=>exact .cons _ _ _ _ (WkD.vr h h1) (WkDs.vr hl h2)
end
theorem PCon.wkD{Y:YP}{f:FuncId}{args args'}{P:V->Prop}(hw:WkDs args args')(h:PCon Y f args' P):PCon Y f args P:=
 ⟨h.body,fun W w us hs hg hv=>h.tr W w us hs hg (hw.vr hv)⟩
end Go.Y
namespace Go.Y
open Go.Proofs
set_option maxRecDepth 1000000
set_option maxHeartbeats 0
theorem LX.frz{α:Type}{f:α->List V}{k:Nat}{h:Heap}{a}{l:Nat}{c}{kk:Nat}{out:List α}(hk:k≠0)(hfl: ∀x,(f x).length=k)(hcold: ∀x,ZQ (f x)=true)(hl:LX f k h a l c kk out):
  Frz h (.sl a l c kk) (lst f out):=by
 have hlen:=hl.len
 by_cases hne:out= []
 ·have ha:=hl.nil hne
  subst hne ha hlen
  exact .sln _ _ _ (fun x hx=>by cases hx)
 ·obtain⟨id,rfl,rfl,hid,hg,_⟩:=hl.cells hne
  subst hlen
  exact .sl _ _ _ _ _ (row f out) true (row f out) _ _ hg (by rw[ql];exact ZA (Xf hfl out).symm) (fun x hx=>by cases hx) hk (ZU _ (Jj hcold out))

theorem Qh(x:Re){f:FuncId}{args}(c:PCon UY f args (· = .agg (Zd x))){K:Int->Int->Int->Int->Int->List V->Nat->Option Nat->Int->Int->Int->Prop}
  (hk: ∀k s0 s1 s2 s3 cs l cc lo hi n,Zd x= [I k,U s0,U s1,U s2,U s3, .ts cs l cc,I lo,I hi,I n]->K k s0 s1 s2 s3 cs l cc lo hi n):
  ∃n n_1 n_2 n_3 n_4 cs l c n_5 n_6 n_7,(PCon UY f args fun v=>v= .agg [I n,U n_1,U n_2,U n_3,U n_4, .ts cs l c,I n_5,I n_6,I n_7])∧K n n_1 n_2 n_3 n_4 cs l c n_5 n_6 n_7:=by
 obtain⟨xk,xs,xl,xlo,xhi,xn⟩:=x
 exact⟨_,_,_,_,_,_,_,_,_,_,_,c.mono fun v hv=>by rw[hv];exact ZD _ _ _ _ _ _,hk _ _ _ _ _ _ _ _ _ _ _ (Zp _ _ _ _ _ _)⟩
theorem Zd7(h:Heap)(x:Re){cs}(hc:Zd x=cs):Frz h (.agg cs) (.agg (Zd x)):=by rw[<-hc];exact WI h x

theorem Zsg(lo hi:Int)(hl:0<=lo∧lo<256)(hh:0<=hi∧hi<256):PCon UY 94 [.ts [.i .u8 lo, .i .u8 hi] 1 (some 1)] (· = .agg (Zd (JL [⟨lo,hi⟩]))):=
 PCon.wkD (.cons _ _ _ _ (.ts _ _ _ _ (.cons _ _ _ _ (.same _) (.cons _ _ _ _ (.same _) .nil))) .nil) (Zw7 [⟨lo,hi⟩] (by simp) (fun x hx=>by simp at hx;subst hx;exact⟨hl,hh⟩))
theorem anyT:PCon UY 100 [] (· = .agg (Zd Wn)):=by
 refine Zt UK (fn:=Tryz.f100) rfl ZEu rfl ?_
 have h:=Zsg 0 255 (by decide) (by decide)
 rw[Zor]at h
 exact Qh Wn h fun k s0 s1 s2 s3 cs l cc lo hi n he=>Zv (.inr rfl) rfl (Zd7 _ _ he) rfl
theorem Zz6:PCon UY 53 [] (· = .agg (Zd ZJ)):=by
 refine Zt UK (fn:=Tryz.f53) rfl ZJu rfl ?_
 refine Qh Wn anyT fun k s0 s1 s2 s3 cs l cc lo hi n he=>Zv (.inr rfl) rfl ?_ rfl
 have e:Zd ZJ= [I 6,U 0,U 0,U 0,U 0,lst Zd [Wn],I 0,I (-1),I 0]:=by unfold ZJ;rw[Zp]
 rw[e,Zg3,he]
 exact .agg _ _ (.cons _ _ _ _ (.i _ _) (.cons _ _ _ _ (.i _ _) (.cons _ _ _ _ (.i _ _) (.cons _ _ _ _ (.i _ _) (.cons _ _ _ _ (.i _ _) (.cons _ _ _ _ (.ts _ _ _ none (fun x hx=>by cases hx)) (.cons _ _ _ _ (.i _ _) (.cons _ _ _ _ (.i _ _) (.cons _ _ _ _ (.i _ _) .nil)))))))))

theorem Zw9(s:List UInt8)(hs:s.length<2 ^ 28):PCon UY 44 [.s s] (· =lst Zd (ZZ s)):=by
 refine ZE UK (fn:=Tryz.f44) rfl ?_
 refine Zl UK 24 ZJo rfl ?_
 refine⟨rfl,ZL [0,3,6,7] [0,3,6,7] (fun m vs h=> ∃(i:Nat) (a:Option (Nat×Nat)) (l:Nat) (c:Option Nat) (k:Nat),vs= [.s s, .sl a l c k,I (s.length:Nat),I (i:Nat)]∧i<=s.length∧m=s.length-i∧LX Zd 9 h a l c k (ZZ (s.take i))) s.length Zy ⟨0,none,0,some 0,0,rfl,by omega,by omega,LX.start _ _ _ _ _⟩ ?_⟩
 rintro m vs h ⟨i,a,l,c,k,rfl,hi,rfl,hL⟩
 refine Zs UK ZJp rfl ?_
 refine Zm (fun hlt=> ?_) (fun hge=> ?_)
 ·have hb:=s[i].toNat_lt
  have hsp:=Zsg (s[i].toNat:Nat) (s[i].toNat:Nat) ⟨by omega,by omega⟩ ⟨by omega,by omega⟩
  rw[Zfi]at hsp
  refine⟨s[i],Vd hlt,s[i],Vd hlt,Qh (Vn s[i]) hsp fun k0 s0 s1 s2 s3 cs l0 cc lo hi2 n he=> ?_⟩
  obtain⟨a',l',c',k',h',q1,q2,q3,q4⟩:=Zdt (Vn s[i]) he hL (by rw[XX,List.length_take];omega)
  exact⟨a',l',c',k',h',q1,rfl,s.length-(i+1),by omega,i+1,a',l',c',k',by rw[Zh (by omega)];rfl,by omega,rfl,by rw[Zd0 s hlt];exact q2⟩
 ·have he:i=s.length:=by omega
  subst he
  rw[qm]at hL
  refine Zi [3] ?_
  refine Zn UK ZJq rfl ?_
  exact Zv (.inr rfl) rfl (hL.frz (by decide) ZK Xb) rfl

theorem Zxa(l0:List Glob)(hl:l0.length<2 ^ 28)(hok:okG l0)(hb: ∀g∈l0,(0<=g.b∧g.b<256)∧ ∀x∈g.sp,(0<=x.lo∧x.lo<256)∧(0<=x.hi∧x.hi<256)):PCon UY 49 [lst encG l0] (· =lst Zd (ZN l0)):=by
 refine ZE UK (fn:=Tryz.f49) rfl ?_
 refine Zl UK 48 ZJr rfl ?_
 refine⟨rfl,ZL [3,6,7,8] [3,6,7,8] (fun m vs h=> ∃(i:Nat) (a:Option (Nat×Nat)) (l:Nat) (c:Option Nat) (k:Nat),vs= [.sl a l c k,lst encG l0,I (l0.length:Nat),I (i:Nat)]∧i<=l0.length∧m=l0.length-i∧LX Zd 9 h a l c k (ZN (l0.take i))) l0.length Zy ⟨0,none,0,some 0,0,rfl,by omega,by omega,LX.start _ _ _ _ _⟩ ?_⟩
 rintro m vs h ⟨i,a,l,c,k,rfl,hi,rfl,hL⟩
 refine Zs UK ZJs rfl ?_
 refine Zm (fun hlt=> ?_) (fun hge=> ?_)
 ·have hx:=hb l0[i] (qe hlt)
  have hlen:(ZN (l0.take i)).length<2 ^ 29:=by
   have:=QI (l0.take i)
   rw[List.length_take]at this;omega
  refine⟨Zz hlt,l0[i].k,l0[i].b,row encS l0[i].sp,l0[i].sp.length,none,by rw[qdq,Xi (f:=encG) (k:=3) WU hlt],?_⟩
  have step: ∀(x:Re),Xe l0[i]= [x]-> ∀cs:List V,Zd x=cs-> ∃(a':Option (Nat×Nat)) (l':Nat) (c':Option Nat) (k':Nat) (h':Heap),Zf UY h 26 26 (.sl a l c k) (.ts cs 1 (some 1))=some (.sl a' l' c' k',h')∧
    XH UY 48 [3,6,7,8] [3,6,7,8] (fun m vs h=> ∃(i:Nat) (a:Option (Nat×Nat)) (l:Nat) (c:Option Nat) (k:Nat),vs= [.sl a l c k,lst encG l0,I (l0.length:Nat),I (i:Nat)]∧i<=l0.length∧m=l0.length-i∧LX Zd 9 h a l c k (ZN (l0.take i))) (l0.length-i) (Xa (post (flat (Za Tryz.f49)))) ((post (flat (Za Tryz.f49))).drop 1) (FinS UY Tryz.f49 fun v h=> ∃r,Frz h v r∧r=lst Zd (ZN l0)) .normal 48 [.sl a' l' c' k',lst encG l0,I (l0.length:Nat),I (IntKind.i64.wrap ((i:Nat)+1))] h':=by
   intro x hxo cs he
   obtain⟨a',l',c',k',h',q1,q2,q3,q4⟩:=Zdt x he hL hlen
   exact⟨a',l',c',k',h',q1,rfl,l0.length-(i+1),by omega,i+1,a',l',c',k',by rw[Zh (by omega)];rfl,by omega,rfl,by rw[VI l0 hlt,hxo];exact q2⟩
  refine Zg (fun h0=> ?_) (fun h0=>Zg (fun h1=> ?_) (fun h1=>Zg (fun h2=> ?_) (fun h2=>Zg (fun h3=> ?_) (fun h3=> ?_))))
  ·have h0:l0[i].k=0:=by simpa using h0
   exact Qh _ (Zsg l0[i].b l0[i].b hx.1 hx.1) fun k0 s0 s1 s2 s3 cs ll cc lo hi2 n he=>step _ (by unfold Xe;rw[if_pos h0]) _ he
  ·have h0:l0[i].k≠0:=by simpa using h0
   have h1:l0[i].k=1:=by simpa using h1
   exact Qh _ anyT fun k0 s0 s1 s2 s3 cs ll cc lo hi2 n he=>step _ (by unfold Xe;rw[if_neg h0,if_pos h1]) _ he
  ·have h0:l0[i].k≠0:=by simpa using h0
   have h1:l0[i].k≠1:=by simpa using h1
   have h2:l0[i].k=2:=by simpa using h2
   exact Qh _ Zz6 fun k0 s0 s1 s2 s3 cs ll cc lo hi2 n he=>step _ (by unfold Xe;rw[if_neg h0,if_neg h1,if_pos h2]) _ he
  ·have h0:l0[i].k≠0:=by simpa using h0
   have h1:l0[i].k≠1:=by simpa using h1
   have h2:l0[i].k≠2:=by simpa using h2
   have h3:l0[i].k=3:=by simpa using h3
   exact Qh _ (Zw7 l0[i].sp (by have:=hok.2 l0[i] (qe hlt);omega) hx.2) fun k0 s0 s1 s2 s3 cs ll cc lo hi2 n he=>step _ (by unfold Xe;rw[if_neg h0,if_neg h1,if_neg h2,if_pos h3]) _ he
  ·have h0:l0[i].k≠0:=by simpa using h0
   have h1:l0[i].k≠1:=by simpa using h1
   have h2:l0[i].k≠2:=by simpa using h2
   have h3:l0[i].k≠3:=by simpa using h3
   refine⟨rfl,l0.length-(i+1),by omega,i+1,a,l,c,k,by rw[Zh (by omega)];rfl,by omega,rfl,?_⟩
   rw[VI l0 hlt]
   have:Xe l0[i]= []:=by unfold Xe;rw[if_neg h0,if_neg h1,if_neg h2,if_neg h3]
   rw[this,qi];exact hL
 ·have he:i=l0.length:=by omega
  subst he
  rw[qm]at hL
  refine Zi [3] ?_
  refine Zn UK ZJt rfl ?_
  exact Zv (.inr rfl) rfl (hL.frz (by decide) ZK Xb) rfl

theorem JM{Y:YP}{fn:Func}{slots:List Nat}{o:Out}{n:Nat}{vs}{h:Heap}{v1 v2 r1 r2 R:V}(ho:o= .normal∨o= .ret)(hv:resV Y fn (slots.zip vs)=some (.tup [v1,v2]))(h1:Frz h v1 r1)(h2:Frz h v2 r2)(hr: .tup [r1,r2]=R):
  Go.Y.Fin Y fn slots (fun v h=> ∃r,Frz h v r∧r=R) o n vs h:=⟨ho,_,hv,_, .tup _ _ (.cons _ _ _ _ h1 (.cons _ _ _ _ h2 .nil)),hr⟩
theorem Zxb{out:List Re}(h:out.length≠0)(h1:out.length≠1):sevS 4 out= .mk 4 (0,0,0,0) out 0 0 0:=Zcp 4 (by omega)
theorem rowT{l:List Re}(hf:FewL l):PCon UY 43 [lst Zd l] (· =fitV (sevS 4 l)):=by
 have hm:=Zk4 (B:=1000) (by decide) hf.re hf.txt
 refine Zt UK (fn:=Tryz.f43) rfl ZJn rfl ?_
 unfold fitV
 generalize hS:sevS 4 l=S at hm
 refine Zg (fun h0=> ?_) (fun h0=>Zg (fun h1=> ?_) (fun h1=> ?_))
 ·have h0:l.length=0:=by simpa using h0
  have hl:l= []:=qg h0
  subst hl
  have hS:S=Xs:=hS.symm
  subst hS
  refine⟨mayE Xs,PCon.wkD (.cons _ _ _ _ (.agg _ _ ?_) .nil) hm,?_⟩
  ·unfold Xs;rw[Zp]
   exact .cons _ _ _ _ (.same _) (.cons _ _ _ _ (.same _) (.cons _ _ _ _ (.same _) (.cons _ _ _ _ (.same _) (.cons _ _ _ _ (.same _) (.cons _ _ _ _ (.nil _ _) (.cons _ _ _ _ (.same _) (.cons _ _ _ _ (.same _) (.cons _ _ _ _ (.same _) .nil))))))))
  ·cases mayE Xs
   ·exact ifT rfl (JM (.inr rfl) rfl (Xu _) (.i _ _) rfl)
   ·exact ifF rfl (JM (.inr rfl) rfl (Xu _) (.i _ _) rfl)
 ·have h1:l.length=1:=by
   have h1:(l.length:Int)=1:=by simpa using h1
   omega
  obtain⟨x,rfl⟩:=List.length_eq_one_iff.1 h1
  have hS:S=x:=hS.symm
  subst hS
  obtain⟨xk,xs,xl,xlo,xhi,xn⟩:=S
  rw[ZD]at hm
  have hc:=WH xk xs xl xlo xhi xn
  rw[ql]at hc
  refine⟨⟨by omega,by simp⟩,_,_,_,_,_,_,_,_,_,_,_,hc,_,hm,?_⟩
  cases mayE (.mk xk xs xl xlo xhi xn)
  ·exact ifT rfl (JM (.inr rfl) rfl (Xu _) (.i _ _) rfl)
  ·refine ifF rfl ?_
   refine JM (.inr rfl) rfl ?_ (.i _ _) rfl
   rw[<-ZD];exact WI _ _
 ·have h0:l.length≠0:=by simpa using h0
  have h1:l.length≠1:=by
   have h1: ¬(l.length:Int)=1:=by simpa using h1
   omega
  rw[Zxb h0 h1]at hS
  subst hS
  rw[ZD]at hm
  refine⟨_,hm,?_⟩
  cases mayE (.mk 4 (0,0,0,0) l 0 0 0)
  ·exact ifT rfl (JM (.inr rfl) rfl (Xu _) (.i _ _) rfl)
  ·refine ifF rfl ?_
   refine JM (.inr rfl) rfl ?_ (.i _ _) rfl
   exact Zd7 _ _ (by rw[Zp])
theorem ZKf{k s0 s1 s2 s3 b nk lo hi gn h}(K):CP UY 57 (pre (flat (Za Tryz.f57))) (.agg (R9 k s0 s1 s2 s3 b nk none lo hi gn)::Rp 37) h [1,2,23,24,25] K=(If (k==(7:Int)) (If (ltI 0 gn) (((10:Int)=(0:Int)->False)∧((Con UY 109 [J b nk none] h fun(v:V) (h':Heap)=> ∃a c d e,v=S a c d e∧K .normal 38 [.lb [I k,U s0,U s1,U s2,U s3,S a c d e,I lo,I hi,I ((IntKind.i64.wrap (gn+(1:Int))).tmod (10:Int))], .lb R0,S a c d e,I (c:Int),I 0] h')∨ ∃a c d,(PCon UY 109 [J b nk none] fun v=>v=J a c d)∧K .normal 38 [.lb [I k,U s0,U s1,U s2,U s3,J a c d,I lo,I hi,I ((IntKind.i64.wrap (gn+(1:Int))).tmod (10:Int))], .lb R0,J a c d,I (c:Int),I 0] h)) ((Con UY 109 [J b nk none] h fun(v:V) (h':Heap)=> ∃a c d e,v=S a c d e∧K .normal 38 [.lb [I k,U s0,U s1,U s2,U s3,S a c d e,I lo,I hi,I gn], .lb R0,S a c d e,I (c:Int),I 0] h')∨ ∃a c d,(PCon UY 109 [J b nk none] fun v=>v=J a c d)∧K .normal 38 [.lb (R9 k s0 s1 s2 s3 a c d lo hi gn), .lb R0,J a c d,I (c:Int),I 0] h)) ((Con UY 109 [J b nk none] h fun(v:V) (h':Heap)=> ∃a c d e,v=S a c d e∧K .normal 38 [.lb [I k,U s0,U s1,U s2,U s3,S a c d e,I lo,I hi,I gn], .lb R0,S a c d e,I (c:Int),I 0] h')∨ ∃a c d,(PCon UY 109 [J b nk none] fun v=>v=J a c d)∧K .normal 38 [.lb (R9 k s0 s1 s2 s3 a c d lo hi gn), .lb R0,J a c d,I (c:Int),I 0] h)):=by kernel_rfl
theorem ZKg{k s0 s1 s2 s3 lo hi q l c g2 l2 i h}(K):CP UY 57 (flat (Zx (post (flat (Za Tryz.f57))))) (MZ 38 [1,2,23,24,25] [.lb [I k,U s0,U s1,U s2,U s3,S (some (q,0)) l c 9,I lo,I hi,I g2],.lb R0,S (some (q,0)) l c 9,I l2,I i]) h [1,2,23,24,25] K=(If (ltI i l2) ((0<=i∧i<l)∧9=9∧ ∃a b d e f g j m n o p,Zb h q ((0:Nat)+i.toNat*9) 9=some (R9 a b d e f g j m n o p)∧ ∃r s t u w x y z a0 a1 a2,(PCon UY 57 [.agg (R9 a b d e f g j m n o p)] fun(v:V)=>v=.agg (R9 r s t u w x y z a0 a1 a2))∧(0<=i∧i<l)∧9=9∧ ∃a3,Zj h q ((0:Nat)+i.toNat*9) (R9 r s t u w x y z a0 a1 a2)=some a3∧K .normal 38 [.lb [I k,U s0,U s1,U s2,U s3,S (some (q,0)) l c 9,I lo,I hi,I g2], .lb R0,S (some (q,0)) l c 9,I l2,I (IntKind.i64.wrap (i+(1:Int)))] a3) (K (.exit 0) 38 [.lb [I k,U s0,U s1,U s2,U s3,S (some (q,0)) l c 9,I lo,I hi,I g2], .lb R0,S (some (q,0)) l c 9,I l2,I i] h)):=by kernel_rfl
theorem ZKh(k s0 s1 s2 s3 lo hi g2)(i:Int)(a b c d h K):CP UY 57 ((post (flat (Za Tryz.f57))).drop 1) (MZ 38 [1,2] [.lb [I k,U s0,U s1,U s2,U s3,S a b c d,I lo,I hi,I g2],.lb R0]) h [2] K=(K .ret 38 [.lb [I k,U s0,U s1,U s2,U s3,S a b c d,I lo,I hi,I g2]] h):=by kernel_rfl
theorem ZFu{k s0 s1 s2 s3 lo hi g2 l2 i h}(K):CP UY 57 (flat (Zx (post (flat (Za Tryz.f57))))) (MZ 38 [1,2,23,24,25] [.lb [I k,U s0,U s1,U s2,U s3,J [] 0 none,I lo,I hi,I g2],.lb R0,J [] 0 none,I l2,I i]) h [1,2,23,24,25] K=(If (ltI i l2) (((0:Int)<=i∧i<(↑(0:Nat):Int))∧ ∃a b c d e f g j l m n,Zo 9 (List.drop (i.toNat*9) [])=some (R9 a b c d e f g j l m n)∧ ∃o p q r s t u w x y z,(PCon UY 57 [.agg (R9 a b c d e f g j l m n)] fun(v:V)=>v=.agg (R9 o p q r s t u w x y z))∧((0:Int)<=i∧i<(↑(0:Nat):Int))∧False) (K (.exit 0) 38 [.lb [I k,U s0,U s1,U s2,U s3,J [] 0 none,I lo,I hi,I g2], .lb R0,J [] 0 none,I l2,I i] h)):=by kernel_rfl
theorem ZFv(k s0 s1 s2 s3 lo hi g2)(i:Int)(h K):CP UY 57 ((post (flat (Za Tryz.f57))).drop 1) (MZ 38 [1,2] [.lb [I k,U s0,U s1,U s2,U s3,J [] 0 none,I lo,I hi,I g2],.lb R0]) h [2] K=(K .ret 38 [.lb [I k,U s0,U s1,U s2,U s3,J [] 0 none,I lo,I hi,I g2]] h):=by kernel_rfl
theorem Zxc{b n0 h}(K):CP UY 109 (flat (Za Tryz.f109)) (J b n0 none::Rp 7) h [2] K=((n0=0->K .ret 8 [S0] h)∧((∃a c d e f,Zf UY h 26 26 (J [] 0 (some 0)) (J b n0 none)=some (S a c d e,f)∧K .ret 8 [S a c d e] f)∨Zf UY h 26 26 (J [] 0 (some 0)) (J b n0 none)=some (J [] 0 (some 0),h)∧K .ret 8 [J [] 0 (some 0)] h)):=by kernel_rfl
theorem ZKi{c d h}(K):CP UY 52 (flat (Za Tryz.f52)) (.agg [I c,.s d]::Rp 10) h [2] K=(Con UY 104 [.agg [I c,.s d]] h fun(v:V) (h':Heap)=> ∃a b,v=.tup [.p a,.b b]∧K .ret 11 [.b b] h'):=by kernel_rfl
theorem ZFw{a d h}(K):CP UY 104 (flat (Za Tryz.f104)) (.agg [I a,.s d]::Rp 55) h [2,3] K=(If (a==(0:Int)) (K .ret 56 [.p (some (h.nx,0)), .b (leI (↑d.length:Int) (200:Int))] (h.push (YObj.arr [I a,.s d,S0,I 0,U 0,U 0,U 0,U 0,S0,I 0,I 0,I 0] true))) (If (a==(1:Int)) (∃b c e f g,(PCon UY 54 [.s d] fun(v:V)=>v=.tup [J b c e,I f,I g])∧ ∃i,Zj (h.push (YObj.arr [I a,.s d,S0,I 0,U 0,U 0,U 0,U 0,S0,I 0,I 0,I 0] true)) h.nx 2 [J b c e]=some i∧K .ret 56 [.p (some (h.nx,0)), .b (g==(0:Int))] i) (If (a==(2:Int)) (∃b c e f g i j l m n o q r,(PCon UY 55 [.s d] fun(v:V)=>v=.tup [.agg (R9 b c e f g i j l m n o),I q,I r])∧ ∃t,Zj (h.push (YObj.arr [I a,.s d,S0,I 0,U 0,U 0,U 0,U 0,S0,I 0,I 0,I 0] true)) h.nx 3 (R9 b c e f g i j l m n o)=some t∧If (r==(0:Int)) (∃u w x y z a0 a1 a2 a3 a4 a5,Zb t h.nx 3 9=some (R9 u w x y z a0 a1 a2 a3 a4 a5)∧ ∃a6,(PCon UY 29 [.agg (R9 u w x y z a0 a1 a2 a3 a4 a5)] fun v=>v=.b a6)∧K .ret 56 [.p (some (h.nx,0)), .b a6] t) (K .ret 56 [.p (some (h.nx,0)), .b false] t)) (K .ret 56 [.p (some (h.nx,0)), .b false] (h.push (YObj.arr [I a,.s d,S0,I 0,U 0,U 0,U 0,U 0,S0,I 0,I 0,I 0] true)))))):=by kernel_rfl
theorem ZKj{a d h}(K):CP UY 15 (flat (Za Tryz.f15)) (.agg [I a,.s d]::Rp 43) h [2] K=(If (a==(0:Int)) (K .ret 44 [.b (leI (↑d.length:Int) (200:Int))] h) (If (a==(1:Int)) (∃b c e f g,(PCon UY 24 [.s d] fun(v:V)=>v=.tup [J b c e,I f,I g])∧K .ret 44 [.b (g==(0:Int))] h) (If (a==(2:Int)) (∃b c e f g i j l m n o p q,(PCon UY 8 [.s d] fun(v:V)=>v=.tup [.agg (R9 b c e f g i j l m n o),I p,I q])∧If (q==(0:Int)) (∃r,(PCon UY 42 [.agg (R9 b c e f g i j l m n o)] fun v=>v=.b r)∧K .ret 44 [.b r] h) (K .ret 44 [.b false] h)) (K .ret 44 [.b false] h)))):=by kernel_rfl
theorem ZKk{a c d e f w g j l m n o p q r x s t u v h}(K):CP UY 22 (pre (flat (Za Tryz.f22))) (.agg (R9 a c d e f w g none j l m)::.agg (R9 n o p q r x s none t u v)::Rp 65) h [2,3,4,5] K=((fun P0=>If (a !=n) P0 (If (!(c==o&&(d==p&&(e==q&&(f==r&&true))))) P0 (If (j !=t) P0 (If (l !=u) P0 (If (m !=v) P0 (If ((↑g:Int) !=(s:Int)) P0 (K .normal 67 [.lb (R9 a c d e f w g none j l m), .lb (R9 n o p q r x s none t u v), .b false,I 0] h))))))) (K .ret 67 [.lb (R9 a c d e f w g none j l m), .lb (R9 n o p q r x s none t u v), .b false,Ud] h)):=by kernel_rfl
theorem ZKl{g j m o p d a q r s t u w x y e f z A B x5 h}(K):CP UY 22 (flat (Zx (post (flat (Za Tryz.f22))))) (MZ 67 [2,3,5] [.lb (R9 g j m o p d a none q r s),.lb (R9 t u w x y e f none z A B),I x5]) h [2,3,4,5] K=(If (ltI x5 a) ((0<=x5∧x5<a)∧ ∃b c i l n a0 a1 a2 a3 a4 a5,Zo 9 (List.drop (x5.toNat*9) d)=some (R9 b c i l n a0 a1 a2 a3 a4 a5)∧(0<=x5∧x5<f)∧ ∃a6 a7 a8 a9 b0 b1 b2 b3 b4 b5 b6,Zo 9 (List.drop (x5.toNat*9) e)=some (R9 a6 a7 a8 a9 b0 b1 b2 b3 b4 b5 b6)∧ ∃b7,(PCon UY 22 [.agg (R9 b c i l n a0 a1 a2 a3 a4 a5),.agg (R9 a6 a7 a8 a9 b0 b1 b2 b3 b4 b5 b6)] fun v=>v=.b b7)∧If (!b7) (K .ret 67 [.lb (R9 g j m o p d a none q r s), .lb (R9 t u w x y e f none z A B), .b false,I x5] h) (K .normal 67 [.lb (R9 g j m o p d a none q r s), .lb (R9 t u w x y e f none z A B),Ud,I (IntKind.i64.wrap (x5+(1:Int)))] h)) (K (.exit 0) 67 [.lb (R9 g j m o p d a none q r s), .lb (R9 t u w x y e f none z A B),Ud,I x5] h)):=by kernel_rfl
theorem ZKm{h}(K):CP UY 22 ((post (flat (Za Tryz.f22))).drop 1) (MZ 67 [] []) h [4] K=(K .ret 67 [.b true] h):=by kernel_rfl
theorem Zbx{α:Type} : ∀(a b new:List α),splice (a++b) a.length new=a++splice b 0 new
 | [],b,new=>rfl
 |x::a,b,new=>by
  show x::splice (a++b) a.length new=_
  rw[Zbx a b new];rfl
theorem Zz7{α:Type}{f:α->List V}{k:Nat}(hf: ∀x,(f x).length=k): ∀(l:List α) (i:Nat) (x:α),i<l.length->splice (row f l) (i*k) (f x)=row f (l.set i x):=by
 intro l i x hi
 have h1:row f l=row f (l.take i)++(f l[i]++row f (l.drop (i+1))):=by
  have e:l=l.take i++(l[i]::l.drop (i+1)):=by rw[List.getElem_cons_drop,List.take_append_drop]
  conv=>lhs;rw[e]
  rw[Xo];rfl
 have h2:(row f (l.take i)).length=i*k:=by rw[Xf hf,List.length_take,Nat.min_eq_left (by omega)]
 have h3:splice (f l[i]++row f (l.drop (i+1))) 0 (f x)=f x++row f (l.drop (i+1)):=by
  have: ∀(b new:List V),splice b 0 new=new++b.drop new.length:=fun b new=>by cases b<;>rfl
  rw[this,hf,<-hf l[i],List.drop_left]
 rw[h1,<-h2,Zbx,h3]
 have e:l.set i x=l.take i++(x::l.drop (i+1)):=by rw[List.set_eq_take_append_cons_drop,if_pos hi]
 rw[e,Xo];rfl

def Zcd(k n:Int):Int:=if(k==7)=true then(if ltI 0 n=true then(IntKind.i64.wrap (n+1)).tmod 10 else n)else n
def laterF:Re->Re
 | .mk k s kids lo hi n=> .mk k s (latersF kids) lo hi (Zcd k n)
where
 latersF:List Re->List Re
  | []=> []
  |r::l=>laterF r::latersF l
theorem Zfn: ∀l:List Re,laterF.latersF l=l.map laterF
 | []=>by rw[laterF.latersF];rfl
 |r::l=>by rw[laterF.latersF,Zfn l];rfl
theorem Za0(k:Int)(s:S4)(kids:List Re)(lo hi n:Int):laterF (.mk k s kids lo hi n)= .mk k s (kids.map laterF) lo hi (Zcd k n):=by rw[laterF,Zfn]

theorem Zjh:PCon UY 109 [.ts [] 0 none] (· = .ts [] 0 none):=by
 refine Zt UK (fn:=Tryz.f109) rfl Zxc rfl ?_
 exact⟨fun _=>Zv (.inr rfl) rfl (.sln _ _ none (fun x hx=>by cases hx)) rfl, .inr ⟨by kernel_rfl,Zv (.inr rfl) rfl (.ts _ _ _ none (fun x hx=>by cases hx)) rfl⟩⟩
theorem Zb7: ∀a b:List V,Zk a=true->Zk b=true->Zk (a++b)=true
 | [],b,_,h=>h
 |x::a,b,h1,h2=>by
  simp only[Zk,qrq]at h1
  simp only[qs,Zk,qrq]
  exact⟨h1.1,Zb7 a b h1.2 h2⟩
theorem Zd8: ∀l:List Re,Zk (row Zd l)=true
 | []=>rfl
 |x::l=>by
  have e:row Zd (x::l)=Zd x++row Zd l:=rfl
  rw[e]
  exact Zb7 _ _ (VC x) (Zd8 l)
theorem Zvh(l:List Re){m:Nat}(hm:l.length=m+1)(hb:l.length<2 ^ 29)(h:Heap):Con UY 109 [.ts (row Zd l) l.length none] h fun v h'=>v= .sl (some (h.nx,0)) l.length none 9∧h'=h.push (.arr (row Zd l) true):=by
 refine Zu UK (fn:=Tryz.f109) (Zn UK Zxc rfl ?_)
 refine⟨fun e=>absurd e (by omega), .inl ?_⟩
 have hap:=Zin (Y:=UY) (st:=26) (e:=28) (te:=⟨9,88, .struct [(0,3),(1,25),(5,26),(6,3),(7,3),(8,3)],[I 0,U 0,U 0,U 0,U 0, .sl none 0 (some 0) 0,I 0,I 0,I 0]⟩) (by kernel_rfl) (by kernel_rfl) (by decide) (by decide) (cs:=row Zd l) (c:=row Zd l) (n:=m) (cap:=none) (by rw[<-hm];exact ZA (Xf ZK l).symm) (Zd8 l) (by omega) h
 rw[<-hm]at hap
 exact⟨_,_,_,_,_,hap,finC (.inr rfl) rfl (.now ⟨rfl,rfl⟩)⟩

def LaR(r:Re):Prop:=PCon UY 57 [.agg (Zd r)] (· = .agg (Zd (laterF r)))

def laL(kids:List Re)(i:Nat):List Re:=(kids.take i).map laterF++kids.drop i
theorem Zz8(kids:List Re)(i:Nat)(hi:i<=kids.length):(laL kids i).length=kids.length:=by
 simp[laL];omega
theorem Zz9(kids:List Re){i:Nat}(hi:i<kids.length)(h:i<(laL kids i).length):(laL kids i)[i]=kids[i]:=by
 have h2:(laL kids i)[i]? =some kids[i]:=by
  have hlen:((kids.take i).map laterF).length=i:=by simp;omega
  unfold laL
  rw[List.getElem?_append_right (by omega),hlen,Nat.sub_self,List.getElem?_drop,Nat.add_zero]
  simp[hi]
 exact(qb.1 h2).2
theorem ZAa(kids:List Re){i:Nat}(hi:i<kids.length):(laL kids i).set i (laterF kids[i])=laL kids (i+1):=by
 unfold laL
 have hlen:((kids.take i).map laterF).length=i:=by simp;omega
 rw[List.set_append_right _ _ (by rw[hlen];exact qnq _),hlen,Nat.sub_self,List.drop_eq_getElem_cons hi,List.set_cons_zero,qa hi,List.map_append]
 simp

theorem Zsh{B:Nat}(hB:B<2 ^ 20){k:Int}{s:S4}{kids:List Re}{lo hi n:Int}(hl:kids.length<=B)(ih: ∀x∈kids,LaR x):LaR (.mk k s kids lo hi n):=by
 unfold LaR
 rw[ZD,Za0]
 refine ZE UK (fn:=Tryz.f57) rfl ?_
 refine Zl UK 38 ZKf rfl ?_
 generalize hG:PreV UY 38 [1,2,23,24,25] (post (flat (Za Tryz.f57))) (FinS UY Tryz.f57 fun v h=> ∃r,Frz h v r∧r= .agg (Zd (.mk k s (kids.map laterF) lo hi (Zcd k n))))=G
 have main: ∀g2:Int,g2=Zcd k n->
   (Con UY 109 [.ts (row Zd kids) kids.length none] .empty fun v h'=> ∃(a:Option (Nat×Nat)) (l:Nat) (c:Option Nat) (k_1:Nat),v= .sl a l c k_1∧G .normal 38 [.lb [I k,U s.1,U s.2.1,U s.2.2.1,U s.2.2.2, .sl a l c k_1,I lo,I hi,I g2],Zjg, .sl a l c k_1,I (l:Nat),I 0] h')∨
   ∃(cs:List V) (l:Nat) (c:Option Nat),(PCon UY 109 [.ts (row Zd kids) kids.length none] fun v=>v= .ts cs l c)∧G .normal 38 [.lb [I k,U s.1,U s.2.1,U s.2.2.1,U s.2.2.2, .ts cs l c,I lo,I hi,I g2],Zjg, .ts cs l c,I (l:Nat),I 0] .empty:=by
  rintro g2 hg2
  subst hG
  by_cases h0:kids= []
  ·subst h0
   refine .inr ⟨[],0,none,Zjh,rfl,ZL [1,2,23,24,25] [1,2,23,24,25] (fun m vs h=>vs= [.lb [I k,U s.1,U s.2.1,U s.2.2.1,U s.2.2.2, .ts [] 0 none,I lo,I hi,I g2],Zjg, .ts [] 0 none,I 0,I 0]) 0 Zy rfl ?_⟩
   rintro m vs h rfl
   refine Zs UK ZFu rfl ?_
   refine XC (fun hlt=>absurd hlt (by decide)) (fun _=> ?_)
   refine Zi [1,2] ?_
   refine Zn UK (fun K=>ZFv k s.1 s.2.1 s.2.2.1 s.2.2.2 lo hi g2 0 h K) rfl ?_
   refine Zv (.inr rfl) rfl ?_ rfl
   rw[Zp,hg2]
   exact .agg _ _ (.cons _ _ _ _ (.i _ _) (.cons _ _ _ _ (.i _ _) (.cons _ _ _ _ (.i _ _) (.cons _ _ _ _ (.i _ _) (.cons _ _ _ _ (.i _ _) (.cons _ _ _ _ (.ts _ _ _ none (fun x hx=>by cases hx)) (.cons _ _ _ _ (.i _ _) (.cons _ _ _ _ (.i _ _) (.cons _ _ _ _ (.i _ _) .nil)))))))))
  ·have hpos:0<kids.length:=List.length_pos_iff.2 h0
   obtain⟨m,hm⟩: ∃m,kids.length=m+1:=⟨kids.length-1,by omega⟩
   refine .inl ((Zvh kids hm (by omega) .empty).mono fun v h' ⟨hv,hh⟩=>⟨_,_,_,_,hv,?_⟩)
   refine⟨rfl,ZL [1,2,23,24,25] [1,2,23,24,25] (fun m vs h=> ∃i:Nat,vs= [.lb [I k,U s.1,U s.2.1,U s.2.2.1,U s.2.2.2, .sl (some (Heap.empty.nx,0)) kids.length none 9,I lo,I hi,I g2],Zjg, .sl (some (Heap.empty.nx,0)) kids.length none 9,I (kids.length:Nat),I (i:Nat)]∧i<=kids.length∧m=kids.length-i∧h.get Heap.empty.nx=some (.arr (row Zd (laL kids i)) true)) kids.length Zy ⟨0,rfl,by omega,by omega,by rw[hh,qk,if_pos rfl];simp[laL]⟩ ?_⟩
   rintro m vs h ⟨i,rfl,hi2,rfl,hg⟩
   refine Zs UK ZKg rfl ?_
   have hlen:=Zz8 kids i hi2
   refine Zm (fun hlt=> ?_) (fun hge=> ?_)
   ·have hcell:Zb h Heap.empty.nx (0+(((i:Nat):Int)).toNat*9) 9=some (Zd kids[i]):=by
     rw[qdq,Nat.zero_add]
     refine(Zr hg _ _).trans ?_
     rw[Xi ZK (by omega),Zz9 kids hlt (by omega)]
    have hch:=ih kids[i] (qe hlt)
    unfold LaR at hch
    have hput:=Zz7 ZK (laL kids i) i (laterF kids[i]) (by omega)
    rw[ZAa kids hlt]at hput
    generalize laterF kids[i]=y at hch hput
    generalize kids[i]=x at hcell hch
    obtain⟨xk,xs,xl,xlo,xhi,xn⟩:=x
    rw[Zp]at hcell
    rw[ZD]at hch
    refine⟨Zz hlt,rfl,_,_,_,_,_,_,_,_,_,_,_,hcell,Qh y hch fun k0 s0 s1 s2 s3 cs l0 cc lo2 hi3 n0 he=>⟨Zz hlt,rfl,h.set Heap.empty.nx (some (.arr (row Zd (laL kids (i+1))) true)),?_,rfl,kids.length-(i+1),by omega,i+1,by rw[Zh (by omega)];rfl,by omega,rfl,by rw[qc,if_pos rfl]⟩⟩
    rw[qdq,Nat.zero_add]
    rw[he]at hput
    simp only[Zj,hg]
    rw[if_pos (by rw[Xf ZK,hlen];simp;omega),hput]
   ·have he:i=kids.length:=by omega
    subst he
    refine Zi [1,2] ?_
    refine Zn UK (fun K=>ZKh k s.1 s.2.1 s.2.2.1 s.2.2.2 lo hi g2 0 (some (Heap.empty.nx,0)) kids.length none 9 h K) rfl ?_
    refine Zv (.inr rfl) rfl ?_ rfl
    have e:laL kids kids.length=kids.map laterF:=by simp[laL]
    rw[e]at hg
    have e2:lst Zd (kids.map laterF)= .ts (row Zd (kids.map laterF)) kids.length none:=by
     show V.ts _ _ _=_
     rw[List.length_map]
    rw[Zp,hg2,e2]
    exact .agg _ _ (.cons _ _ _ _ (.i _ _) (.cons _ _ _ _ (.i _ _) (.cons _ _ _ _ (.i _ _) (.cons _ _ _ _ (.i _ _) (.cons _ _ _ _ (.i _ _) (.cons _ _ _ _ (.sl _ _ _ _ _ (row Zd (kids.map laterF)) true (row Zd (kids.map laterF)) _ _ hg (by rw[ql];exact ZA (by rw[Xf ZK,List.length_map])) (fun x hx=>by cases hx) (by decide) (ZU _ (Jj Xb _))) (.cons _ _ _ _ (.i _ _) (.cons _ _ _ _ (.i _ _) (.cons _ _ _ _ (.i _ _) .nil)))))))))
 refine Zg (fun h7=>Zg (fun hn=>⟨by simp,main _ ?_⟩) (fun hn=>main _ ?_)) (fun h7=>main _ ?_)
 ·unfold Zcd;rw[if_pos h7,if_pos hn]
 ·unfold Zcd;rw[if_pos h7,if_neg (by rw[hn];decide)]
 ·unfold Zcd;rw[if_neg (by rw[h7];decide)]

mutual
theorem Zxd{B:Nat}(hB:B<2 ^ 20): ∀r:Re,wfRe B r->LaR r
 | .mk k s kids lo hi n,h=>by
  rw[wfRe]at h
  exact Zsh hB h.2.2.1 (Zsi hB kids h.2.2.2)
theorem Zsi{B:Nat}(hB:B<2 ^ 20): ∀l:List Re,wfRe.wfRes B l-> ∀x∈l,LaR x
 | [],_,x,hx=>by cases hx
 |r::l,h,x,hx=>by
  rw[wfRe.wfRes]at h
  have h1:=Zxd hB r h.1
  have h2:=Zsi hB l h.2
  rcases qu.1 hx with e|hx
  ·exact e▸h1
  ·exact h2 x hx
end
end Go.Y
