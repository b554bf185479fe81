/- A part of the proof. -/
import Derived.Test.YteennilbmmlikaaGreatDoorGTextE
import Derived.Test.YteennilbmmlikaaGreatDoorEE2
import Derived.Test.YteennilbmmlikaaGreatDoorYTryhP
import Derived.Test.YteennilbmmlikaaGreatDoorGA2
import Derived.Test.YteennilbmmlikaaGreatDoorGReC
import Derived.Test.YteennilbmmlikaaGreatDoorYTryzP
import Derived.Test.YteennilbmmlikaaGreatDoorYLoop
namespace Go.Y
open Go.Proofs
set_option maxRecDepth 1000000
set_option maxHeartbeats 0
theorem PCon.hz{f:FuncId}{args}{Q:V->Prop}(c:PCon Tryh.Y f args Q):PCon UY f args Q:=⟨c.body,c.tr⟩

abbrev reW(S:S4):List V:= [I 1,U S.1,U S.2.1,U S.2.2.1,U S.2.2.2, .sl none 0 (some 0) 0,I 0,I 0,I 0]
theorem Zz2(p:Nat->Bool){c:Nat}(h:c<256):Zo 1 ((reW (Zw p)).drop (0+1+c / 64*1))=some [U (ZS p (c / 64) 64:Nat)]:=by
 have:c / 64=0∨c / 64=1∨c / 64=2∨c / 64=3:=by omega
 rcases this with e|e|e|e<;>rw[e]<;>rfl
theorem ZFi(p:Nat->Bool){c:Nat}(h:c<256):splice (reW (Zw p)) (0+1+c / 64*1) [U ((ZS p (c / 64) 64|||2 ^ (c % 64):Nat):Int)]=reW (Zw fun x=>p x||x==c):=by
 have e:reW (Zw fun x=>p x||x==c)= [I 1,U (ZS (fun x=>p x||x==c) 0 64:Nat),U (ZS (fun x=>p x||x==c) 1 64:Nat),U (ZS (fun x=>p x||x==c) 2 64:Nat),U (ZS (fun x=>p x||x==c) 3 64:Nat), .sl none 0 (some 0) 0,I 0,I 0,I 0]:=rfl
 rw[e,Jm,Jm,Jm,Jm]
 have:c / 64=0∨c / 64=1∨c / 64=2∨c / 64=3:=by omega
 rcases this with e|e|e|e<;>rw[e]<;>rfl
theorem Zz3{h:Heap}{id:Nat}{p:Nat->Bool}{c:Nat}(hc:c<256)(hg:h.get id=some (.arr (reW (Zw p)) true)){K:Heap->Prop}
  (hk: ∀h1,h1=h.set id (some (.arr (reW (Zw fun x=>p x||x==c)) true))->K h1):
  (0:Int)<=6∧((0:Int)<=(c:Int).fdiv ((2:Int) ^ min (Int.toNat (6:Int)) IntKind.i64.bits)∧(c:Int).fdiv ((2:Int) ^ min (Int.toNat (6:Int)) IntKind.i64.bits)<4)∧ ∃n:Int,
   Zb h id (0+1+((c:Int).fdiv ((2:Int) ^ min (Int.toNat (6:Int)) IntKind.i64.bits)).toNat*1) 1=some [V.i IntKind.u64 n]∧
   (0:Int)<=IntKind.i64.wrap (((BitVec.ofInt IntKind.i64.bits (c:Int)&&&BitVec.ofInt IntKind.i64.bits (63:Int)).toNat:Nat):Int)∧
   ((0:Int)<=(c:Int).fdiv ((2:Int) ^ min (Int.toNat (6:Int)) IntKind.i64.bits)∧(c:Int).fdiv ((2:Int) ^ min (Int.toNat (6:Int)) IntKind.i64.bits)<4)∧ ∃h_1:Heap,
   Zj h id (0+1+((c:Int).fdiv ((2:Int) ^ min (Int.toNat (6:Int)) IntKind.i64.bits)).toNat*1) [V.i IntKind.u64 (IntKind.u64.wrap (((BitVec.ofInt IntKind.u64.bits n|||BitVec.ofInt IntKind.u64.bits (IntKind.u64.wrap (1*2 ^ min (IntKind.i64.wrap (((BitVec.ofInt IntKind.i64.bits (c:Int)&&&BitVec.ofInt IntKind.i64.bits (63:Int)).toNat:Nat):Int)).toNat IntKind.u64.bits))).toNat:Nat):Int))]=some h_1∧K h_1:=by
 rw[Zux,Zuy hc]
 have hlo:=JZ p (c / 64) 64
 refine⟨by omega,⟨by omega,by omega⟩,_,(Zr hg _ _).trans (Zz2 _ hc),by omega,⟨by omega,by omega⟩,?_⟩
 have hor:=Zr4 hlo (show c % 64<64 by omega)
 rw[qdq,qdq,hor]
 refine⟨_,?_,hk _ rfl⟩
 have e:reW (Zw fun x=>p x||x==c)=splice (reW (Zw p)) (0+1+c / 64*1) [U ((ZS p (c / 64) 64|||2 ^ (c % 64):Nat):Int)]:=(ZFi p hc).symm
 rw[e]
 simp only[Zj,hg]
 rw[if_pos (by simp;omega)]

theorem Zjf(l:List Span){i:Nat}(hi:i<l.length):ZH (l.take (i+1))=Zjd (ZH (l.take i)) l[i].lo l[i].hi:=by
 rw[qa hi]
 have:l[i]=⟨l[i].lo,l[i].hi⟩:=rfl
 rw[this,WE]

abbrev Zjg:V:= .lb [I 0,U 0,U 0,U 0,U 0, .sl none 0 (some 0) 0,I 0,I 0,I 0]
theorem Zw7(l:List Span)(hl:l.length<2 ^ 40)(hb: ∀x∈l,(0<=x.lo∧x.lo<256)∧(0<=x.hi∧x.hi<256)):PCon UY 94 [lst encS l] (· = .agg (Zd (JL l))):=by
 refine PCon.hz (ZE Tryh.Yok (fn:=Tryz.f94) rfl ?_)
 refine Zl Tryh.Yok 37 ZEv rfl ?_
 refine⟨_,rfl,rfl,ZL [2,3,8,9,10] [2,3,8,9,10] (fun m vs h=> ∃i:Nat,vs= [Zjg, .p (some (Heap.empty.nx,0)),lst encS l,I (l.length:Nat),I (i:Nat)]∧i<=l.length∧m=l.length-i∧h.get Heap.empty.nx=some (.arr (reW (Zw (ZH (l.take i)))) true)) l.length Zy ⟨0,rfl,by omega,by omega,?_⟩ ?_⟩
 ·have:Zw (ZH (l.take 0))=(0,0,0,0):=setOf_no
  rw[this];rfl
 rintro m vs h ⟨i,rfl,hi,rfl,hg⟩
 refine Zl Tryh.Yok 37 ZEw rfl ?_
 refine Zm (fun hlt=>⟨rfl,Wj (n:=37) [2,3,8,9,10] (by kernel_rfl) ?_⟩) (fun hge=> ?_)
 ·refine Zl Tryh.Yok 37 ZEx rfl ?_
  have hx:=hb l[i] (qe hlt)
  obtain⟨lo,hlo⟩:=Int.eq_ofNat_of_zero_le hx.1.1
  obtain⟨hi2,hhi⟩:=Int.eq_ofNat_of_zero_le hx.2.1
  have hget:Zo 2 (List.drop (((i:Nat):Int).toNat*2) (row encS l))=some [.i .u8 (lo:Nat), .i .u8 (hi2:Nat)]:=by
   rw[qdq,Xi (f:=encS) (k:=2) Zah hlt]
   show some [V.i .u8 l[i].lo,V.i .u8 l[i].hi]=_
   rw[hlo,hhi]
  have w1:IntKind.i64.wrap (lo:Int)=(lo:Nat):=ZG (by omega) (by omega)
  have w2:IntKind.i64.wrap (hi2:Int)=(hi2:Nat):=ZG (by omega) (by omega)
  refine⟨Zz hlt,_,_,hget,rfl,Zn9 [2,3,5,6,8,9,10] [2,3,5,6,8,9,10] (fun m vs h=> ∃c:Nat,vs= [Zjg, .p (some (Heap.empty.nx,0)), .lb [.i .u8 (lo:Nat), .i .u8 (hi2:Nat)],I (c:Nat),lst encS l,I (l.length:Nat),I (i:Nat)]∧lo<=c∧c<=max (hi2+1) lo∧257-c<=m∧h.get Heap.empty.nx=some (.arr (reW (Zw (Zay (ZH (l.take i)) lo c))) true)) 257 Zy ⟨lo,by rw[w1];rfl,by omega,by omega,by omega,by rw[Zd5];exact hg⟩ ?_⟩
  rintro m2 vs h2 ⟨c,rfl,hlc,hc,hm,hg2⟩
  refine Zs Tryh.Yok ZEy rfl ?_
  rw[w2]
  refine Wx (fun hle=> ?_) (fun hgt=> ?_)
  ·refine Zz3 (by omega) hg2 fun h1 e=>⟨rfl,257-(c+1),by omega,c+1,by rw[Zh (by omega)];rfl,by omega,by omega,qnq _,?_⟩
   rw[e,qc,if_pos rfl,Zd4 _ hlc]
  ·have he:c=max (hi2+1) lo:=by omega
   subst he
   simp only[Zip]
   rw[if_pos (by kernel_rfl)]
   refine Qe rfl ⟨rfl,[2,3,8,9,10],rfl,?_⟩
   refine Zs Tryh.Yok ZEz rfl ?_
   refine⟨rfl,l.length-(i+1),by omega,i+1,by rw[Zh (by omega)];rfl,by omega,rfl,?_⟩
   rw[Zfj]at hg2
   rw[Zjf l hlt,hlo,hhi];exact hg2
 ·have he:i=l.length:=by omega
  subst he
  rw[qm]at hg
  refine Qe rfl (Zi [2,3] ?_)
  refine Zn Tryh.Yok ZE0 rfl ?_
  refine⟨_,_,_,_,_,_,_,_,_,_,_,_,(Zr hg 0 9).trans rfl,Zv (.inr rfl) rfl (.agg _ _ (.cons _ _ _ _ (.i _ _) (.cons _ _ _ _ (.i _ _) (.cons _ _ _ _ (.i _ _) (.cons _ _ _ _ (.i _ _) (.cons _ _ _ _ (.i _ _) (.cons _ _ _ _ (.sln _ _ none (fun x hx=>by cases hx)) (.cons _ _ _ _ (.i _ _) (.cons _ _ _ _ (.i _ _) (.cons _ _ _ _ (.i _ _) .nil)))))))))) (by unfold JL XY;rw[Zp];rfl)⟩
def clQ(R:Except Nat (S4×Nat))(h:Heap)(id:Nat)(s:List UInt8)(g:Nat)(v:V)(h':Heap):Prop:=
 ∃(x:S4) (j:Nat) (e:Int),v= .agg (Zd (XY x))∧RdE h' id s j g e∧FrO h id h'∧((e=0∧R= .ok (x,j))∨(e=1∧R= .error j))

abbrev zLb:V:= .lb [I 0,U 0,U 0,U 0,U 0, .sl none 0 (some 0) 0,I 0,I 0,I 0]
def ClI(h0:Heap)(id:Nat)(s:List UInt8)(g:Nat)(other:Bool)(R:Except Nat (List Span×Nat))(m:Nat)(vs:List V)(h:Heap):Prop:=
 ∃(i:Nat) (e:Int) (p:Nat->Bool) (first:Bool) (v7:V),vs= [.p (some (id,0)),zLb, .b other, .lb (setC (Zw p)), .b first,v7]∧RdE h id s i g e∧FrO h0 id h∧
  ((e=0∧ ∃out,first=out.isEmpty∧p=ZH out∧i<=s.length∧s.length-i<m∧setS m s i out=R)∨(e=1∧R= .error i))

theorem ZFj{h:Heap}{id:Nat}{s:List UInt8}{i g:Nat}(r:RdE h id s i g 0)(hs:s.length<2 ^ 27)(hi:i<=s.length):
  Con UY 194 [.p (some (id,0))] h (clQ (Qv s i) h id s g):=by
 refine Zu UK (fn:=Tryz.f194) (Zl UK 65 ZEl rfl ?_)
 generalize hCL:Qv s i=CL
 have go: ∀(h1:Heap) (i0:Nat) (other:Bool),RdE h1 id s i0 g 0->FrO h id h1->i0<=s.length->
   (CL=match setS (s.length+1) s i0 []with| .error e=> .error e| .ok (l,j)=> .ok (Zw (fun c=>ZH l c !=other),j))->
   PreV UY 65 [0,2,3,4,5,7] (post (flat (Za Tryz.f194))) (FinS UY Tryz.f194 (AfterZ (clQ CL h id s g))) .normal 65
    [.p (some (id,0)),zLb, .b other, .lb [U 0,U 0,U 0,U 0], .b true, .undef] h1:=by
  intro h1 i0 other q1 q2 hi0 hcl
  generalize hR:setS (s.length+1) s i0 []=R at hcl
  refine⟨rfl,ZL [0,2,3,4,5,7] [0,2,3,4,5,7] (ClI h id s g other R) (s.length+1) Zy ⟨i0,0,ZH [],true, .undef,?_,q1,q2, .inl ⟨rfl,[],rfl,rfl,hi0,by omega,hR⟩⟩ ?_⟩
  ·have:Zw (ZH [])=(0,0,0,0):=setOf_no
   rw[this];rfl
  clear q1 q2 hi0 hR r hi hCL
  rintro m vs h2 ⟨i,e,p,first,v7,rfl,hr,hfr,hst⟩
  refine Zs UK ZEm rfl ?_
  have stop:((e=0∧s[i]? =some 93∧ ∃out,p=ZH out∧R= .ok (out,i+1))∨(e=1∧R= .error i))->XH UY 65 [0,2,3,4,5,7] [0,2,3,4,5,7] (ClI h id s g other R) m (Xa (post (flat (Za Tryz.f194)))) ((post (flat (Za Tryz.f194))).drop 1) (FinS UY Tryz.f194 (AfterZ (clQ (CL) h id s g))) (.exit 0) 65
    [.p (some (id,0)),zLb, .b other, .lb (setC (Zw p)), .b first,v7] h2:=by
   intro hf
   refine Zi [0,2,3,4] ?_
   refine Zn UK ZEn rfl ?_
   refine(Zg6 hr [93] (by omega)).mono fun v h3 hq=> ?_
   have fin: ∀(i':Nat) (e':Int) (n:V),RdE h3 id s i' g e'->FrO h2 id h3->((e'=0∧CL= .ok (Zw (fun c=>p c !=other),i'))∨(e'=1∧CL= .error i'))-> ∀K:KT,K=Go.Y.Fin UY Tryz.f194 [2] (AfterZ (clQ (CL) h id s g))->
     If other (∃n n_1 n_2 n_3:Int,(PCon UY 176 [.agg [U (Zw p).1,U (Zw p).2.1,U (Zw p).2.2.1,U (Zw p).2.2.2]] fun v=>v= .agg [U n,U n_1,U n_2,U n_3])∧K .ret 65 [.lb [I 1,U n,U n_1,U n_2,U n_3, .sl none 0 (some 0) 0,I 0,I 0,I 0]] h3)
      (K .ret 65 [.lb [I 1,U (Zw p).1,U (Zw p).2.1,U (Zw p).2.2.1,U (Zw p).2.2.2, .sl none 0 (some 0) 0,I 0,I 0,I 0]] h3):=by
    rintro i' e' n w1 w2 hd K rfl
    have hx: ∀x,((e'=0∧CL= .ok (x,i'))∨(e'=1∧CL= .error i'))->clQ (CL) h id s g (.agg (Zd (XY x))) h3:=fun x hd=>⟨x,i',e',rfl,w1,hfr.trans w2,hd⟩
    refine Zg (fun ho=> ?_) (fun ho=> ?_)
    ·subst ho
     have:(fun c=>p c !=true)=fun c=> !p c:=by funext c;cases p c<;>rfl
     rw[this]at hd
     exact⟨_,_,_,_,Zm6 p,finC (.inr rfl) rfl (VF (Zw fun c=> !p c) (hx _ hd))⟩
    ·subst ho
     have:(fun c=>p c !=false)=p:=by funext c;cases p c<;>rfl
     rw[this]at hd
     exact finC (.inr rfl) rfl (VF (Zw p) (hx _ hd))
   rcases hf with ⟨rfl,h93,out,rfl,hR⟩|⟨rfl,hR⟩
   ·rcases hq with ⟨c,_,hc,_,hv,w1,w2⟩|⟨_,hn,_⟩|⟨he,_⟩
    ·refine⟨_,hv,fin (i+1) 0 v w1 w2 (.inl ⟨rfl,?_⟩) _ rfl⟩
     rw[hcl,hR]
    ·rw[Qf,h93]at hn;simp at hn
    ·exact absurd rfl he
   ·rcases hq with ⟨c,he,_⟩|⟨he,_⟩|⟨_,hv,w1,w2⟩
    ·cases he
    ·cases he
    ·refine⟨_,hv,fin i 1 v w1 w2 (.inr ⟨rfl,?_⟩) _ rfl⟩
     rw[hcl,hR]
  refine⟨_,hr.c3,Zg (fun h0=> ?_) (fun h0=>stop ?_)⟩
  rotate_left
  ·have h0:e≠0:=by simpa using h0
   rcases hst with ⟨he,_⟩|hst
   ·exact absurd he h0
   ·exact .inr hst
  have h0:e=0:=by simpa using h0
  subst h0
  rcases hst with ⟨_,out,rfl,rfl,hi,hm,hR⟩|⟨he,_⟩
  rotate_left
  ·cases he
  obtain⟨m,rfl⟩: ∃m',m=m'+1:=⟨m-1,by omega⟩
  by_cases hstop:out≠ []∧s[i]? =some 93
  ·have hem:out.isEmpty=false:=by
    cases out with
    |nil=>exact absurd rfl hstop.1
    |cons=>rfl
   rw[setS,if_pos hstop]at hR
   refine Zg (fun hb=>by rw[hem]at hb;cases hb) (fun _=>⟨_,VJ hr [93],Zg (fun hb=> ?_) (fun hb=>stop (.inl ⟨rfl,hstop.2,out,rfl,hR.symm⟩))⟩)
   rw[Qf,hstop.2]at hb;simp at hb
  rw[setS,if_neg hstop]at hR
  clear stop
  refine Zg (fun h5=> ?_) (fun h5=>⟨_,VJ hr [93],Zg (fun _=> ?_) (fun hb=> ?_)⟩)
  rotate_left 2
  ·exfalso
   have hb:pk s i [93]=true:=by simpa using hb
   rw[Qf]at hb
   exact hstop ⟨(fun e=>by rw[e]at h5;cases h5),(by simpa using hb)⟩
  all_goals
   clear hstop h5
   refine(endR hr (by omega)).mono fun v h3 hq=> ?_
   rcases hq with ⟨c1,j,_,he1,hv,u1,u2⟩|⟨j,_,he1,hv,u1,u2⟩|⟨he,_⟩
   rotate_left 2
   ·exact absurd rfl he
   rotate_left
   ·-- no byte
    refine⟨_,hv,_,VJ u1 [45],Zg (fun hb=>by simp at hb) (fun _=>⟨_,_,_,_,WZ (ZH out) (lo:=0) (hi:=0) (by decide) (by decide),?_⟩)⟩
    have hit:XJ s i= .error j:=by unfold XJ;rw[he1]
    rw[hit]at hR
    exact⟨rfl,m,by omega,j,1,_,_,_,rfl,u1,hfr.trans u2, .inr ⟨rfl,hR.symm⟩⟩
   have k1:=Zck he1
   have j1:=WA he1
   obtain⟨a,rfl⟩:=Int.eq_ofNat_of_zero_le k1.1
   have ha:a<256:=by omega
   have hem:(out++ [(⟨(a:Int),(a:Int)⟩:Span)]).isEmpty=false:=by cases out<;>rfl
   refine⟨_,hv,_,VJ u1 [45],Zg (fun hb=> ?_) (fun hb=> ?_)⟩
   rotate_left
   ·-- one byte alone
    have hb:pk s j [45]=false:=by simpa using hb
    have h45: ¬s[j]? =some 45:=by rw[Qf]at hb;simpa using hb
    have hit:XJ s i= .ok (⟨(a:Nat),(a:Nat)⟩,j):=by unfold XJ;rw[he1];simp only[];rw[if_neg h45]
    rw[hit]at hR
    exact⟨_,_,_,_,WZ (ZH out) ha ha,rfl,m,by omega,j,0,_,false,_,rfl,u1,hfr.trans u2, .inl ⟨rfl,out++ [⟨(a:Nat),(a:Nat)⟩],hem.symm,(WE _ _ _).symm,j1.2.1,by omega,hR⟩⟩
   have hb:pk s j [45]=true:=by simpa using hb
   have h45:s[j]? =some 45:=by rw[Qf]at hb;simpa using hb
   refine(Zer u1 (by omega)).mono fun v h4 hq=> ?_
   rcases hq with ⟨c,_,hc,hv,w1,w2⟩|⟨_,hn,_⟩|⟨he,_⟩
   rotate_left
   ·rw[h45]at hn;cases hn
   ·exact absurd rfl he
   refine⟨_,hv,?_⟩
   refine(endR w1 (by omega)).mono fun v h5 hq=> ?_
   rcases hq with ⟨c2,k,_,he2,hv,x1,x2⟩|⟨k,_,he2,hv,x1,x2⟩|⟨he,_⟩
   rotate_left 2
   ·exact absurd rfl he
   rotate_left
   ·refine⟨_,hv,_,x1.c3,Zg (fun hb=>by simp at hb) (fun _=>⟨_,_,_,_,WZ (ZH out) (hi:=0) ha (by decide),?_⟩)⟩
    have hit:XJ s i= .error k:=by unfold XJ;rw[he1];simp only[];rw[if_pos h45,he2]
    rw[hit]at hR
    exact⟨rfl,m,by omega,k,1,_,_,_,rfl,x1,((hfr.trans u2).trans w2).trans x2, .inr ⟨rfl,hR.symm⟩⟩
   have k2:=Zck he2
   have j2:=WA he2
   obtain⟨b,rfl⟩:=Int.eq_ofNat_of_zero_le k2.1
   have hb2:b<256:=by omega
   have hem2:(out++ [(⟨(a:Int),(b:Int)⟩:Span)]).isEmpty=false:=by cases out<;>rfl
   refine⟨_,hv,_,x1.c3,Zg (fun _=>XC (fun hlt=> ?_) (fun hge=> ?_)) (fun hb=>by simp at hb)⟩
   ·obtain⟨h6,y1,y2,y3⟩:=x1.s1 (k-1)
    refine⟨_,x1.c1,h6,by rw[ZG (by omega) (by omega),show((k:Int)-1)=((k-1:Nat):Int) by omega];exact y1,?_⟩
    refine(Zk7 y2 1).mono fun v h7 ⟨hv,z1,z2⟩=>⟨hv,_,_,_,_,WZ (ZH out) ha hb2,?_⟩
    have hit:XJ s i= .error (k-1):=by unfold XJ;rw[he1];simp only[];rw[if_pos h45,he2];simp only[];rw[if_pos hlt]
    rw[hit]at hR
    exact⟨rfl,m,by omega,k-1,1,_,_,_,rfl,by simpa using z1,((((hfr.trans u2).trans w2).trans x2).trans y3).trans z2, .inr ⟨rfl,hR.symm⟩⟩
   ·have hit:XJ s i= .ok (⟨(a:Nat),(b:Nat)⟩,k):=by unfold XJ;rw[he1];simp only[];rw[if_pos h45,he2];simp only[];rw[if_neg (by omega)]
    rw[hit]at hR
    exact⟨_,_,_,_,WZ (ZH out) ha hb2,rfl,m,by omega,k,0,_,false,_,rfl,x1,((hfr.trans u2).trans w2).trans x2, .inl ⟨rfl,out++ [⟨(a:Nat),(b:Nat)⟩],hem2.symm,(WE _ _ _).symm,j2.2.1,by omega,hR⟩⟩
 refine⟨_,VJ r [94],Zg (fun hb=> ?_) (fun hb=> ?_)⟩
 ·have hb2:pk s i [94]=true:=by simpa using hb
  have h94:s[i]? =some 94:=by rw[Qf]at hb2;simpa using hb2
  rw[hb]
  refine(Zer r (by omega)).mono fun v h1 hq=> ?_
  rcases hq with ⟨c,_,hc,hv,w1,w2⟩|⟨_,hn,_⟩|⟨he,_⟩
  ·refine⟨_,hv,go h1 (i+1) true w1 w2 (qb.1 h94).1 ?_⟩
   rw[<-hCL];unfold Qv;simp only[h94,if_true,decide_true]
   cases setS (s.length+1) s (i+1) []<;>rfl
  ·rw[h94]at hn;cases hn
  ·exact absurd rfl he
 ·have hb2:pk s i [94]=false:=by simpa using hb
  have h94:s[i]? ≠some 94:=by rw[Qf]at hb2;simpa using hb2
  rw[hb]
  refine go h i false r (.refl _ _) hi ?_
  rw[<-hCL];unfold Qv;simp only[h94,if_false,decide_false]
  cases setS (s.length+1) s i []<;>rfl
theorem ZFk{id d h}(K):CP UY 106 (pre (flat (Za Tryz.f106))) (.p (some (id,0))::I d::Rp 20) h [0,1,4,5] K=(Con UY 135 [.p (some (id,0)),I d] h fun(v:V) (h':Heap)=> ∃a b c e f g i j l m n,v=.agg (R9 a b c e f g i j l m n)∧K .normal 22 [.p (some (id,0)),I d, .lb R0,S (some (h'.nx,0)) 1 (some 1) 9] (h'.push (YObj.arr (R9 a b c e f g i j l m n) true))):=by kernel_rfl
theorem ZFl{id d a5 e f k5 h}(K):CP UY 106 (flat (Zx (post (flat (Za Tryz.f106))))) (MZ 22 [0,1,4,5] [.p (some (id,0)),I d,.lb R0,S a5 e f k5]) h [0,1,4,5] K=(∃a,RCon UY (136:Nat) [.p (some (id,0)),.s [(124:UInt8)]] h (.b a)∧If a (Con UY 137 [.p (some (id,0))] h fun(v:V) (h':Heap)=> ∃b,v=.i .u8 b∧Con UY 135 [.p (some (id,0)),I d] h' fun(v:V) (h':Heap)=> ∃c g j l m n o q r t u,v=.agg (R9 c g j l m n o q r t u)∧ ∃w x y z a0,Zf UY h' 26 26 (S a5 e f k5) (J (R9 c g j l m n o q r t u) 1 (some 1))=some (S w x y z,a0)∧K .normal 22 [.p (some (id,0)),I d, .lb R0,S w x y z] a0) (K (.exit 0) 22 [.p (some (id,0)),I d, .lb R0,S a5 e f k5] h)):=by kernel_rfl
theorem ZFm{a5 a b k5 h}(K):CP UY 106 ((post (flat (Za Tryz.f106))).drop 1) (MZ 22 [4,5] [.lb R0,S a5 a b k5]) h [4] K=(Con UY 138 [I 5,S a5 a b k5] h fun(v:V) (h':Heap)=> ∃c d e f g i j l m n o,v=.agg (R9 c d e f g i j l m n o)∧K .ret 22 [.lb (R9 c d e f g i j l m n o)] h'):=by kernel_rfl
theorem ZFn{id d h}(K):CP UY 135 (pre (flat (Za Tryz.f135))) (.p (some (id,0))::I d::Rp 19) h [0,1,2,4,5] K=(K .normal 21 [.p (some (id,0)),I d,Ud, .lb R0,S0] h):=by kernel_rfl
theorem ZFo{id d a5 l5 c5 k5 h}(K):CP UY 135 (flat (Zx (post (flat (Za Tryz.f135))))) (MZ 21 [0,1,2,4,5] [.p (some (id,0)),I d,V.undef,.lb R0,S a5 l5 c5 k5]) h [0,1,2,4,5] K=(∃a,RCon UY (107:Nat) [.p (some (id,0))] h (.b a)∧If a (∃b,RCon UY (136:Nat) [.p (some (id,0)),.s [(124:UInt8),41]] h (.b b)∧If (!b) (Con UY 170 [.p (some (id,0)),I d] h fun(v:V) (h':Heap)=> ∃c e f g i j l m n o q,v=.agg (R9 c e f g i j l m n o q)∧ ∃r t u w x,Zf UY h' 26 26 (S a5 l5 c5 k5) (J (R9 c e f g i j l m n o q) 1 (some 1))=some (S r t u w,x)∧K .normal 21 [.p (some (id,0)),I d,Ud, .lb R0,S r t u w] x) (K (.exit 0) 21 [.p (some (id,0)),I d,Ud, .lb R0,S a5 l5 c5 k5] h)) (K (.exit 0) 21 [.p (some (id,0)),I d,Ud, .lb R0,S a5 l5 c5 k5] h)):=by kernel_rfl
theorem ZFp{a5 l5 c5 k5 h}(K):CP UY 135 ((post (flat (Za Tryz.f135))).drop 1) (MZ 21 [4,5] [.lb R0,S a5 l5 c5 k5]) h [4] K=(Con UY 138 [I 4,S a5 l5 c5 k5] h fun(v:V) (h':Heap)=> ∃a b c d e f g i j l m,v=.agg (R9 a b c d e f g i j l m)∧K .ret 21 [.lb (R9 a b c d e f g i j l m)] h'):=by kernel_rfl
theorem ZKd{s0 h}(K):CP UY 55 (flat (Za Tryz.f55)) (.s s0::Rp 34) h [2,3,4] K=(If (ltI 200 (↑s0.length:Int)) (K .ret 35 [.lb R0,I 200,I 2] h) (Con UY 106 [.p (some (h.nx,0)),I 0] (h.push (YObj.arr [.s s0,I 0,I 0,I 0] true)) fun(v:V) (h':Heap)=> ∃a b c d e f g i j l m,v=.agg (R9 a b c d e f g i j l m)∧ ∃n,RCon UY (107:Nat) [.p (some (h.nx,0))] h' (.b n)∧If n (Con UY 108 [.p (some (h.nx,0)),I 1] h' fun(v:V) (h':Heap)=>v=.tup []∧ ∃o,Zb h' h.nx 3 1=some [I o]∧If (o !=(0:Int)) (∃q,Zb h' h.nx 1 1=some [I q]∧ ∃r,Zb h' h.nx 3 1=some [I r]∧K .ret 35 [.lb R0,I q,I r] h') (K .ret 35 [.lb (R9 a b c d e f g i j l m),I 0,I 0] h')) (∃o,Zb h' h.nx 3 1=some [I o]∧If (o !=(0:Int)) (∃q,Zb h' h.nx 1 1=some [I q]∧ ∃r,Zb h' h.nx 3 1=some [I r]∧K .ret 35 [.lb R0,I q,I r] h') (K .ret 35 [.lb (R9 a b c d e f g i j l m),I 0,I 0] h')))):=by kernel_rfl
/-! ### times -/
def tmQ(R:Except Nat (Int×Int×Nat))(h:Heap)(id:Nat)(s:List UInt8)(g:Nat)(v:V)(h':Heap):Prop:=
 ∃(x y:Int) (j:Nat) (e:Int),v= .tup [.i .i64 x, .i .i64 y]∧RdE h' id s j g e∧FrO h id h'∧((e=0∧R= .ok (x,y,j))∨(e=1∧R= .error j))

abbrev digs:List UInt8:= [48,49,50,51,52,53,54,55,56]
theorem Zz4: ∀(a:_root_.Fin 9) (c:_root_.Fin 256),(List.take (9-a.val) (List.drop a.val digs)).contains (UInt8.ofNat c.val)=(decide (48+a.val<=c.val)&&decide (c.val<=56)):=by decide+kernel
theorem Zw8{a:Nat}(ha:a<=8)(c:UInt8):(List.take (9-a) (List.drop a digs)).contains c=(decide (48+a<=c.toNat)&&decide (c.toNat<=56)):=by
 have:=Zz4 ⟨a,by omega⟩ ⟨c.toNat,c.toNat_lt⟩
 simpa using this
theorem ZFq{a:Nat}(ha:a<=8):(fun(x y:Int)=>if y<x then y else x) ((fun(x y:Int)=>if y>x then y else x) (a:Int) 0) 9=(a:Int):=by
 show(if(9:Int)<(if(0:Int)>(a:Int)then(0:Int)else(a:Int))then(9:Int)else(if(0:Int)>(a:Int)then(0:Int)else(a:Int)))=(a:Int)
 rw[if_neg (show¬((0:Int)>(a:Int)) by omega),if_neg (by omega)]
theorem Zm7{s:List UInt8}{i a:Nat}(ha:a<=8):XI s i (a:Nat)=if pk s i (List.take (9-a) (List.drop a digs))=true then .ok ((((s[i]?).getD 0).toNat:Int)-48,i+1)else .error i:=by
 unfold XI pk
 cases s[i]? with
 |none=>rfl
 |some c=>
  simp only[Zw8 ha,Option.getD_some]
  by_cases h:48+a<=c.toNat∧c.toNat<=56
  ·rw[if_pos ⟨by omega,by omega,by omega⟩,if_pos (by rw[decide_eq_true h.1,decide_eq_true h.2];rfl)]
  ·rw[if_neg (by omega),if_neg]
   intro hc
   simp only[qrq,decide_eq_true_eq]at hc
   exact h hc

theorem ZFr{h:Heap}{id:Nat}{s:List UInt8}{i g:Nat}(r:RdE h id s i g 0)(hs:s.length<2 ^ 27):
  Con UY 188 [.p (some (id,0))] h (tmQ (ZW s i) h id s g):=by
 refine Zu UK (fn:=Tryz.f188) (Zn UK ZEh rfl ?_)
 generalize hR:ZW s i=R
 unfold ZW at hR
 have d0:=Zm7 (s:=s) (i:=i) (a:=0) (by omega)
 rw[show XI s i ((0:Nat):Int)=XI s i 0 from rfl]at d0
 have fin: ∀(x y:Int) (j:Nat) (e:Int) (h2:Heap),RdE h2 id s j g e->FrO h id h2->((e=0∧R= .ok (x,y,j))∨(e=1∧R= .error j))->
   Go.Y.Fin UY Tryz.f188 [2,3] (AfterZ (tmQ R h id s g)) .ret 30 [I x,I y] h2:=fun x y j e h2 w1 w2 hd=>finC (.inr rfl) rfl (.now ⟨x,y,j,e,rfl,w1,w2,hd⟩)
 refine(Zg6 r digs (by omega)).mono fun v h1 hq=> ?_
 rcases hq with ⟨c,_,hc,hm,hv,u1,u2⟩|⟨_,hn,hv,u1,u2⟩|⟨he,_⟩
 rotate_left 2
 ·exact absurd rfl he
 rotate_left
 ·-- no number
  have hn:pk s i (List.take (9-0) (List.drop 0 digs))=false:=hn
  rw[d0,hn]at hR
  refine⟨_,hv,_,VJ u1 [44],Zg (fun hb=>by simp at hb) (fun _=> ?_)⟩
  refine(Zg6 u1 [125] (by omega)).mono fun v h2 hq=> ?_
  rcases hq with ⟨c,he,_⟩|⟨he,_⟩|⟨_,hv,w1,w2⟩
  ·cases he
  ·cases he
  ·exact⟨_,hv,fin _ _ i 1 h2 w1 (u2.trans w2) (.inr ⟨rfl,hR.symm⟩)⟩
 have hc2:=Zw8 (a:=0) (by omega) c
 rw[show List.take (9-0) (List.drop 0 digs)=digs from rfl,hm]at hc2
 have hc3:48<=c.toNat∧c.toNat<=56:=by
  have:=hc2.symm
  simp only[qrq,decide_eq_true_eq]at this
  omega
 obtain⟨a,ha,ha8⟩: ∃a:Nat,c.toNat=48+a∧a<=8:=⟨c.toNat-48,by omega,by omega⟩
 have hp:pk s i (List.take (9-0) (List.drop 0 digs))=true:=by rw[WG hc];exact hm
 rw[d0,hp,hc]at hR
 have ev:((((some c:Option UInt8)).getD 0).toNat:Int)-48=((a:Nat):Int):=by simp only[Option.getD_some];omega
 rw[if_pos rfl,ev]at hR
 simp only[]at hR
 have lt1:=(qb.1 hc).1
 have w1:IntKind.i64.wrap (c.toNat:Int)=c.toNat:=ZG (by omega) (by omega)
 have w2:IntKind.i64.wrap ((c.toNat:Int)-48)=((a:Nat):Int):=by rw[ZG (by omega) (by omega)];omega
 refine⟨_,hv,?_⟩
 rw[w1,w2]
 refine⟨_,VJ u1 [44],Zg (fun hb=> ?_) (fun hb=> ?_)⟩
 rotate_left
 ·have hb:s[i+1]? ≠some 44:=by
   have hb:pk s (i+1) [44]=false:=by simpa using hb
   rw[Qf]at hb;simpa using hb
  rw[if_neg hb]at hR
  refine(Zg6 u1 [125] (by omega)).mono fun v h2 hq=> ?_
  rcases hq with ⟨d,_,hd,hm,hv,x1,x2⟩|⟨_,hn,hv,x1,x2⟩|⟨he,_⟩
  ·have:d=125:=by simpa using hm
   subst this
   rw[if_pos hd]at hR
   exact⟨_,hv,fin _ _ (i+2) 0 h2 x1 (u2.trans x2) (.inl ⟨rfl,hR.symm⟩)⟩
  ·have:s[i+1]? ≠some 125:=by rw[Qf]at hn;simpa using hn
   rw[if_neg this]at hR
   exact⟨_,hv,fin _ _ (i+1) 1 h2 x1 (u2.trans x2) (.inr ⟨rfl,hR.symm⟩)⟩
  ·exact absurd rfl he
 have hb:s[i+1]? =some 44:=by
  have hb:pk s (i+1) [44]=true:=by simpa using hb
  rw[Qf]at hb;simpa using hb
 rw[if_pos hb]at hR
 have lt2:=(qb.1 hb).1
 refine(Zer u1 (by omega)).mono fun v h2 hq=> ?_
 rcases hq with ⟨d,_,hd,hv,x1,x2⟩|⟨_,hn,_⟩|⟨he,_⟩
 rotate_left
 ·rw[hb]at hn;cases hn
 ·exact absurd rfl he
 refine⟨_,hv,_,VJ x1 [125],Zg (fun hb2=> ?_) (fun hb2=> ?_)⟩
 ·have hb2:s[i+2]? ≠some 125:=by
   have hb2:pk s (i+2) [125]=false:=by simpa using hb2
   rw[Qf]at hb2;simpa using hb2
  rw[if_neg hb2,Zm7 ha8]at hR
  rw[ZFq ha8]
  refine⟨⟨by omega,by simp;omega⟩,?_⟩
  rw[qdq]
  refine(Zg6 x1 (List.take (9-a) (List.drop a digs)) (by omega)).mono fun v h3 hq=> ?_
  rcases hq with ⟨d2,_,hd2,hm2,hv,y1,y2⟩|⟨_,hn2,hv,y1,y2⟩|⟨he,_⟩
  ·have hp2:pk s (i+1+1) (List.take (9-a) (List.drop a digs))=true:=by rw[WG hd2];exact hm2
   rw[hp2,if_pos rfl,hd2]at hR
   simp only[Option.getD_some]at hR
   have hlt3:=d2.toNat_lt
   refine⟨_,hv,?_⟩
   have v1:IntKind.i64.wrap (d2.toNat:Int)=d2.toNat:=ZG (by omega) (by omega)
   have v2:IntKind.i64.wrap ((d2.toNat:Int)-48)=(d2.toNat:Int)-48:=ZG (by omega) (by omega)
   rw[v1,v2]
   refine(Zg6 y1 [125] (by omega)).mono fun v h4 hq=> ?_
   rcases hq with ⟨d3,_,hd3,hm3,hv,z1,z2⟩|⟨_,hn3,hv,z1,z2⟩|⟨he,_⟩
   ·have:d3=125:=by simpa using hm3
    subst this
    rw[if_pos hd3]at hR
    exact⟨_,hv,fin _ _ (i+1+1+1+1) 0 h4 z1 (((u2.trans x2).trans y2).trans z2) (.inl ⟨rfl,hR.symm⟩)⟩
   ·have:s[i+1+1+1]? ≠some 125:=by rw[Qf]at hn3;simpa using hn3
    rw[if_neg this]at hR
    exact⟨_,hv,fin _ _ (i+1+1+1) 1 h4 z1 (((u2.trans x2).trans y2).trans z2) (.inr ⟨rfl,hR.symm⟩)⟩
   ·exact absurd rfl he
  ·rw[hn2,if_neg (by decide)]at hR
   refine⟨_,hv,?_⟩
   refine(Zg6 y1 [125] (by omega)).mono fun v h4 hq=> ?_
   rcases hq with ⟨c,he,_⟩|⟨he,_⟩|⟨_,hv,z1,z2⟩
   ·cases he
   ·cases he
   ·exact⟨_,hv,fin _ _ (i+1+1) 1 h4 z1 (((u2.trans x2).trans y2).trans z2) (.inr ⟨rfl,hR.symm⟩)⟩
  ·exact absurd rfl he
 ·have hb2:s[i+2]? =some 125:=by
   have hb2:pk s (i+2) [125]=true:=by simpa using hb2
   rw[Qf]at hb2;simpa using hb2
  rw[if_pos hb2]at hR
  refine(Zg6 x1 [125] (by omega)).mono fun v h3 hq=> ?_
  rcases hq with ⟨d3,_,hd3,hm3,hv,z1,z2⟩|⟨_,hn3,_⟩|⟨he,_⟩
  ·exact⟨_,hv,fin _ _ (i+1+1+1) 0 h3 z1 ((u2.trans x2).trans z2) (.inl ⟨rfl,hR.symm⟩)⟩
  ·rw[Qf]at hn3
   exact absurd hb2 (by simpa using hn3)
  ·exact absurd rfl he

/-! ### several -/
theorem Zz5(k:Int){out:List Re}{h:Heap}{a}{l:Nat}{c}{kk:Nat}(hL:LX Zd 9 h a l c kk out){Q:V->Heap->Prop}
  (hq: ∀D:List Nat,(∀j,j∈D->a=some (j,0))->Q (.agg (Zd (sevS k out))) (XT h D)):Con UY 138 [I k, .sl a l c kk] h Q:=by
 have hlen:=hL.len
 by_cases hne:out= []
 ·have ha:=hL.nil hne
  subst hne ha hlen
  refine Zu UK (fn:=Tryz.f138) (Zn UK Zzw rfl ?_)
  exact finC (.inr rfl) rfl (Zan (hq [] (by simp)))
 ·obtain⟨q,rfl,rfl,hq1,hq2,hq3⟩:=hL.cells hne
  refine Zu UK (fn:=Tryz.f138) (Zn UK ZEr rfl ?_)
  have hpos:out.length≠0:=fun h0=>hne (qg h0)
  refine Zg (fun h0=> ?_) (fun h0=>Zg (fun h1'=> ?_) (fun h1'=> ?_))
  ·have:(l:Int)=0:=by simpa using h0
   omega
  ·have h1':(l:Int)=1:=by simpa using h1'
   obtain⟨x,rfl⟩:=List.length_eq_one_iff.1 (show out.length=1 by omega)
   obtain⟨xk,xs,xl,xlo,xhi,xn⟩:=x
   refine⟨⟨by omega,by omega⟩,rfl,_,_,_,_,_,_,_,_,_,_,_,(Zr hq2 0 9).trans (WH _ _ _ _ _ _),finC (.inr rfl) rfl (.now ?_)⟩
   rw[<-ZD]
   exact hq [] (by simp)
  ·have h1':(l:Int)≠1:=by simpa using h1'
   obtain⟨D,hz,hD⟩:=hL.afterZ (by decide) ZK Xb
   refine finC (.inr rfl) rfl (JI (D:=D) k 0 0 0 (0,0,0,0) out (.frz _ _ hz) ?_)
   rw[<-Zcp k (by omega)]
   exact hq D hD
end Go.Y
