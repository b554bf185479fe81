/- A part of the proof. -/
import Derived.Test.YteennilbmmlikaaGreatDoorGTrC
import Derived.Test.YteennilbmmlikaaGreatDoorYFrz
import Derived.Test.YteennilbmmlikaaGreatDoorGA2
import Derived.Test.YteennilbmmlikaaGreatDoorYAny3
import Derived.Test.YteennilbmmlikaaGreatDoorYLoop
namespace Go.Y
open Go.Proofs
set_option maxRecDepth 1000000
set_option maxHeartbeats 0
structure LY(h:Heap)(a:Option (Nat×Nat))(l:Nat)(c:Option Nat)(kk:Nat)(out:List Re):Prop where
 cells: ∃(j:Nat) (cs:List V),a=some (j,0)∧kk=9∧j<h.nx∧h.get j=some (.arr cs true)∧(c=none∨c=some l)∧Xb cs=true∧FrzL .empty cs (row Zd out)∧cs.length=l*9
 len:l=out.length
theorem Zwr(L):FrzL .empty (row Zd L) (row Zd L):=Xc _ (Je XJ L)
theorem LY.one{h:Heap}{x:Re}{cs}(a:Zd x=cs):LY (h.push (.arr cs true)) (some (h.nx,0)) 1 (some 1) 9 [x]:=by
 subst a;have e:row Zd [x]=Zd x:=by simp[row]
 exact⟨⟨h.nx,Zd x,rfl,rfl,sm,by rw[qk,uF rfl], .inr rfl,XJ x,by rw[e];exact Xc _ (XJ x),by rw[ZW]⟩,rfl⟩
theorem LY.app{h}{a}{l:Nat}{c}{O:Nat}{out:List Re}(hl:LY h a l c O out)(L:List Re){new:List V}(hf:FrzL .empty new (row Zd L))(v:Xb new=true)(X:Zp new=true)(W:new.length=L.length*9)(hb:out.length+L.length<2 ^ 29){m:Nat}(P:m=L.length)(cap:Option Nat):
  ∃D C F E B,Zk UY h 26 26 (.sl a l c O) (.ts new m cap)=some (.sl D C F E,B)/\LY B D C F E (out++L):=by
 subst P;obtain⟨⟨j,o,rfl,rfl,hj,N,n,y,A,g⟩,d⟩:=hl;subst d;have G:UY.kd 26=some (.slice 28):=kr;have u:UY.ty 28=some ⟨9,88, .struct [(0,3),(1,25),(5,26),(6,3),(7,3),(8,3)],[I 0,U 0,U 0,U 0,U 0, .sl none 0 (some 0) 0,I 0,I 0,I 0]⟩:=kr;have d:Zr (L.length*9) new=some new:=ZD W.symm;have hm:most=1099511627776:=dc;have t:XI UY ⟨[],[],h⟩ ⟨9,88, .struct [(0,3),(1,25),(5,26),(6,3),(7,3),(8,3)],[I 0,U 0,U 0,U 0,U 0, .sl none 0 (some 0) 0,I 0,I 0,I 0]⟩ 26 (.ts new L.length cap)=some (L.length,new):=by
  simp only[XI,G,QT,XQ,d];rfl
 by_cases hL:L= []
 .subst hL;have x:new= []:=qg (by rw[W];simp);subst x;refine⟨some (j,0),out.length,c,9,h,?_,⟨⟨j,o,rfl,rfl,hj,N,n,y,by rw[qi];exact A,g⟩,sm⟩⟩;simp only[Zk,Xe,G,u,t]
  rfl
 have Z:0<L.length:=List.length_pos_iff.2 hL;have w:FrzL .empty (o++new) (row Zd (out++L)):=by rw[Xz];exact A.append hf
 have f:=Jd y v;have r:(o++new).length=(out.length+L.length)*9:=by rw[qf,g,W];omega
 rcases n with rfl|rfl
 .obtain⟨D,C,F,E,B,q1,q2,q3,q4,jj,q5,q6⟩:=Zbs (Y:=UY) (h:=h) (k:=9) (a:=some (j,0)) (l:=out.length) (c:=none) (kk:=9) (cs:=o) (new:=new) (m:=L.length) (cap:=cap) G u rfl dc ⟨g.symm, .inr ⟨j,rfl,rfl,rfl,hj,N⟩⟩ om d X (by rw[hm];show(out.length+L.length)*88<=_;omega) (by rw[hm];omega);refine⟨D,C,F,E,B,q1,⟨?_,by rw[q4,qf]⟩⟩;obtain⟨_,(⟨e,_⟩|⟨id,e1,e2,e3,e4,e5⟩)⟩:=q2
  .rw[q5]at e;cases e
  .exact⟨id,_,e1,e3,e4,e5, .inl e2,f,w,by rw[r,q4]⟩
 .refine⟨some (h.nx,0),out.length+L.length,none,9,h.push (.arr (o++new) true),?_,⟨⟨h.nx,_,rfl,rfl,sm,by rw[qk,uF rfl], .inl rfl,f,w,r⟩,by rw[qf]⟩⟩;have h0: ¬(L.length=0):=om;have H: ¬((out.length+L.length)*88>most\/out.length+L.length>most):=om;have z: ¬(out.length+L.length<=out.length):=om;have K:Zr (out.length*9) (o.drop 0)=some o:=by rw[ql];exact ZD g.symm
  simp only[Zk,Xe,G,u,t,ne_eq,not_true_eq_false,vF,h0,H,z,Xu,N,K];rw[uE (by simp[X])]
theorem LY.apps{h}{a}{l:Nat}{c}{e:Nat}{d:List Re}(n:LY h a l c e d)(L:List Re)(o:d.length+L.length<2 ^ 29)(cap:Option Nat):
  ∃g f m j k,Zk UY h 26 26 (.sl a l c e) (.ts (row Zd L) L.length cap)=some (.sl g f m j,k)/\LY k g f m j (d++L):=
 n.app L (Zwr L) (Je XJ L) (Zf3 L) (Xh ZW L) o rfl cap
theorem LY.app1{h}{a}{l:Nat}{c}{g:Nat}{d:List Re}(r:LY h a l c g d)(x:Re){cs}(o:Zd x=cs)(t:d.length<2 ^ 28):
  ∃k j n m f,Zk UY h 26 26 (.sl a l c g) (.ts cs 1 (some 1))=some (.sl k j n m,f)/\LY f k j n m (d++ [x]):=by
 have e:row Zd [x]=cs:=by rw[<-o];simp[row]
 have:=r.apps [x] (by simp;omega) (some 1);rw[e]at this;exact this
theorem LY.afterZ{h}{a}{l:Nat}{c}{n:Nat}{d}(u:LY h a l c n d): ∃D:List Nat,Frz (Ve h D) (.sl a l c n) (lst Zd d):=by
 obtain⟨⟨j,o,rfl,rfl,v,r,m,g,f,k⟩,e⟩:=u;subst e;exact⟨[j], .sl _ _ _ _ _ o true o _ _ (by rw[QK,uF sm,r]) (by rw[ql];exact ZD k.symm) (λx t=>by cases t) dc (Zax g f)⟩
/-! ### Row, as it is called -/
def Zly(S:Re):Re:=if mayE S=true then S else Xs
def fitE(S:Re):Int:=if mayE S=true then 0 else 2
theorem Zoc(S:Re):fitV S= .tup [.agg (Zd (Zly S)),I (fitE S)]:=by unfold fitV Zly fitE;split<;>rfl
theorem Zjl{f:FuncId}{args}{h}{S:Re}{D}(c:Con UY f args h λv y=>v=fitV S/\y=XO h D){K:Int->Int->Int->Int->Int->List V->Nat->Option Nat->Int->Int->Int->Int->Heap->Prop}
  (t: ∀k z s1 s2 s3 r l B C A n e,Zd (Zly S)= [I k,U z,U s1,U s2,U s3, .ts r l B,I C,I A,I n]->e=fitE S->K k z s1 s2 s3 r l B C A n e (XO h D)):
  Con UY f args h λv y=> ∃n j o u a r l c w d g m,v= .tup [.agg [I n,U j,U o,U u,U a, .ts r l c,I w,I d,I g],I m]/\K n j o u a r l c w d g m y:=
 c.mono λv y ⟨E,H⟩=>by
  subst E H;rw[Zoc];have t:=t;revert t;generalize Zly S=x;intro t;obtain⟨O,N,P,F,G,L⟩:=x;exact⟨_,_,_,_,_,_,_,_,_,_,_,_,by rw[ZJ],t _ _ _ _ _ _ _ _ _ _ _ _ (Zm _ _ _ _ _ _) rfl⟩
theorem Zod{fn}{a:List Nat}{d:Nat}{vs}{h:Heap}{R:V}{T}{cs}{e:Int}(g:resV UY fn (a.zip vs)=some (.tup [.agg cs,I e]))(c:Zd (Zly T)=cs)(j:e=fitE T)(f:R=fitV T):
  Go.Y.Fin UY fn a (λv h=> ∃r,Frz h v r/\r=R) .ret d vs h:=
 Zcb (.inr rfl) g (Zoa _ _ c) (.i _ _) (by rw[f,Zoc,j])
theorem ZCo{l}(c:FewL l)(h):Con UY 43 [lst Zd l] h λv a=>v=fitV (sevS 4 l)/\a=XO h []:=
 Con.ofP [] (FrzAL.refl _) (rowT c)
theorem ZLu{d}(j:FewL d){h}{a}{l:Nat}{c}{e:Nat}(g:LY h a l c e d): ∃D,Con UY 43 [.sl a l c e] h λv f=>v=fitV (sevS 4 d)/\f=XO h D:=by
 obtain⟨D,hz⟩:=g.afterZ;exact⟨D,Con.ofP D (.cons _ _ _ _ (.frz _ _ hz) .nil) (rowT j)⟩
theorem ZCp(s:List UInt8)(a:s.length<=300):PCon UY 16 [.s s] (· =fitV (sevS 4 (ZK s))):=by
 refine Zw UK (fn:=Tryz.f16) rfl ZQo rfl ?_;refine⟨_,_,_,ZCk s om,Zjl (ZCo (Vr a) _) λk g s1 s2 s3 h l m f j n e c d=> ?_⟩;exact Zod rfl c d rfl
structure InG(l:List Glob):Prop where
 ok:okG l
 b: ∀g∈l,(0<=g.b∧g.b<256)∧ ∀x∈g.sp,(0<=x.lo∧x.lo<256)∧(0<=x.hi∧x.hi<256)
def Zws(l:List Glob):V:=if mayS l=true then fitV (sevS 4 (ZP l))else .tup [.agg (Zd Xs), .i .i64 5]
theorem Zsm(l:List Glob)(f:l.length<=300)(c:InG l):PCon UY 18 [lst encG l] (· =Zws l):=by
 refine Zw UK (fn:=Tryz.f18) rfl ZQp rfl ?_;unfold Zws;have d:=ZAb l c.ok;generalize mayS l=m at d;refine⟨m,d,Zf (λa=> ?_) (λa=> ?_)⟩
 .have a:m=false:=by simpa using a
  subst a;exact Zcb rr rfl (Qx _) (.i _ _) rfl
 .have a:m=true:=by simpa using a
  subst a;refine⟨_,_,_,ZCl l om c.ok c.b,Zjl (ZCo (Zfx f) _) λk o s1 s2 s3 r v t j u n e g h=> ?_⟩;exact Zod rfl g h rfl
/-! ### search.May -/
def QS(s:List UInt8):List Glob:=if 200<s.length then []else match Qn (s.length+1) s 0 []with| .error _=> []| .ok l=>l
def ZLv(s:List UInt8):Int:=if 200<s.length then 200 else match Qn (s.length+1) s 0 []with| .error e=>(e:Nat)| .ok _=>0
def Zoe(s:List UInt8):Int:=if 200<s.length then 2 else match Qn (s.length+1) s 0 []with| .error _=>1| .ok _=>0
theorem Vu(s:List UInt8):Zhr s= .tup [lst encG (QS s),I (ZLv s),I (Zoe s)]:=by
 unfold Zhr QS ZLv Zoe;split
 .rfl
 .cases Qn (s.length+1) s 0 []<;>rfl
def ereL(s:List UInt8):Re:=match Qz s with| .error _=>Xs| .ok x=>x
def ereP(s:List UInt8):Int:=match Qz s with| .error (_,p)=>(p:Nat)| .ok _=>0
def ereE(s:List UInt8):Int:=match Qz s with| .error (e,_)=>e| .ok _=>0
theorem Wr(s:List UInt8):Zdc s= .tup [.agg (Zd (ereL s)),I (ereP s),I (ereE s)]:=by
 unfold Zdc ereL ereP ereE
 cases Qz s with
 |error e=>obtain⟨e,p⟩:=e;rfl
 |ok x=>rfl
mutual
theorem Zwt{B C:Nat}(a:B<=C): ∀r:Re,wfRe B r->wfRe C r
 | .mk k s c d e n,h=>by
  rw[wfRe]at h ⊢;exact⟨h.1,h.2.1,uu h.2.2.1 a,Zqo a c h.2.2.2⟩
theorem Zqo{B C:Nat}(a:B<=C): ∀l:List Re,wfRe.wfRes B l->wfRe.wfRes C l
 | [],_=>by rw[wfRe.wfRes];trivial
 |r::l,h=>by
  rw[wfRe.wfRes]at h ⊢;exact⟨Zwt a r h.1,Zqo a l h.2⟩
end
theorem Zof(s):cntN (ereL s)<=1000:=by
 unfold ereL
 cases hp:Qz s with
 |error e=>show cntN Xs<=1000;unfold Xs;rw[JM];decide
 |ok x=>exact Zv3 hp
theorem Zlz(s):wfRe 1000 (ereL s):=by
 unfold ereL
 cases hp:Qz s with
 |error e=>show wfRe 1000 Xs;unfold Xs;rw[wfRe];exact⟨λh=>absurd h dc,λ_ _ _ _=>rfl,dc,by rw[wfRe.wfRes];trivial⟩
 |ok x=>exact Zwt dc x (Zzh hp)
theorem ZFx(s):(textF (ereL s)).length<2 ^ 28:=by
 have a:=Zof s;have c:=Vn (ereL s);omega
def mayP(k:Int)(t:List UInt8):Bool:=if(k==0)=true then leI (t.length:Nat) 200 else if(k==1)=true then Zoe t==0 else if(k==2)=true then(if(ereE t==0)=true then mayE (ereL t)else false)else false
theorem Zf4{h:Heap}{c off:Nat}{a new:List V}(d:h.get c=some (.arr a true))(e:off+new.length<=a.length):Zi h c off new=some (h.set c (some (.arr (splice a off new) true))):=by
 simp only[Zi,d];rw[uF e]
theorem ZAf(k:Int)(t)(h):Con UY 104 [.agg [I k, .s t]] h λv _=> ∃a,v= .tup [.p a, .b (mayP k t)]:=by
 refine Zv UK (fn:=Tryz.f104) (Zo UK ZLs rfl ?_);generalize c:mayP k t=M;unfold mayP at c;have d: ∀g:List V,(h.push (.arr g true)).get h.nx=some (.arr g true):=λg=>by rw[qk,uF rfl]
 refine Zf (λm=> ?_) (λm=> ?_)
 .rw[uF m]at c;exact finC rr rfl (.now ⟨_,by rw[c];rfl⟩)
 rw[uE (by rw[m];decide)]at c;refine Zf (λl=> ?_) (λl=> ?_)
 .rw[uF l]at c;have hp:=Zlv t;rw[Vu]at hp;exact⟨_,_,_,_,_,hp,_,Zf4 (d _) sm,finC rr rfl (.now ⟨_,by rw[c];rfl⟩)⟩
 rw[uE (by rw[l];decide)]at c;refine Zf (λn=> ?_) (λn=> ?_)
 .rw[uF n]at c;have hp:=Zht t;rw[Wr]at hp;have f:=Zn3 (B:=1000) dc (Zlz t) (ZFx t);revert c f hp;generalize ereL t=x;generalize ereE t=e;intro c hp f;obtain⟨u,z,w,o,r,y⟩:=x;rw[ZJ]at f hp;refine⟨_,_,_,_,_,_,_,_,_,_,_,_,_,hp,_,Zf4 (d _) ?_,Zf (λj=> ?_) (λj=> ?_)⟩
  .simp
  .rw[uF j]at c;refine⟨_,_,_,_,_,_,_,_,_,_,_,(Zs (by rw[qc,uF rfl]) 3 9).trans rfl,_,f,finC rr rfl (.now ⟨_,by rw[c];rfl⟩)⟩
  .rw[uE (by rw[j];decide)]at c;exact finC rr rfl (.now ⟨_,by rw[c];rfl⟩)
 .rw[uE (by rw[n];decide)]at c;exact finC rr rfl (.now ⟨_,by rw[c];rfl⟩)
theorem ZAg(k:Int)(t):PCon UY 52 [.agg [I k, .s t]] (· = .b (mayP k t)):=by
 refine Zw UK (fn:=Tryz.f52) rfl ZRa rfl ?_;exact(ZAf k t .empty).mono λv d ⟨a,c⟩=>⟨a,_,c,ZB rr rfl (.b _) rfl⟩
/-! ### Within -/
def JY(r:Re):Re:= .mk 7 (0,0,0,0) [laterF r] 0 0 1
def Jy(k:Int)(t:List UInt8):List Re:=if(k==0)=true then ZK t else if(k==1)=true then ZP (QS t)else if(k==2)=true then [JY (ereL t)]else []
def Zdh(k:Int)(t:List UInt8):V:=
 if mayP k t=false then .tup [.agg (Zd Xs), .i .i64 5]
 else if(k==2)=true/\anchB (ereL t)=true then .tup [.agg (Zd Xs), .i .i64 5]
 else fitV (sevS 4 (ZS::(Jy k t++ [ZS])))
mutual
theorem Zqp{B:Nat} : ∀r:Re,wfRe B r->wfRe B (laterF r)
 | .mk k s a l j n,h=>by
  rw[wfRe]at h;rw[Zeh,wfRe];refine⟨λe=>⟨(h.1 e).1,(h.1 e).2.1,(h.1 e).2.2.1,by rw[qC];exact(h.1 e).2.2.2⟩,λd g c f=>by rw[h.2.1 d g c f];rfl,by rw[qC];exact h.2.2.1,Zl0 a h.2.2.2⟩
theorem Zl0{B:Nat} : ∀l:List Re,wfRe.wfRes B l->wfRe.wfRes B (l.map laterF)
 | [],_=>by rw[List.map_nil,wfRe.wfRes];trivial
 |r::l,h=>by
  rw[wfRe.wfRes]at h;rw[qz,wfRe.wfRes];exact⟨Zqp r h.1,Zl0 l h.2⟩
end
mutual
theorem Zl1: ∀r:Re,cntN (laterF r)=cntN r
 | .mk k s a c d n=>by rw[Zeh,cntN,cntN,Zhu a]
theorem Zhu: ∀l:List Re,cntN.cntsN (l.map laterF)=cntN.cntsN l
 | []=>rfl
 |r::l=>by rw[qz,cntN.cntsN,cntN.cntsN,Zl1 r,Zhu l]
end
theorem Zei{l:List Re}(a:wfRe.wfRes 1000 l)(c:cntN.cntsN l<=3000)(d:l.length<=500):FewL (ZS::(l++ [ZS])):=by
 refine⟨?_,?_,?_⟩
 .rw[wfRe.wfRes];exact⟨Zn6 dc,Wm a (by rw[wfRe.wfRes,wfRe.wfRes];exact⟨Zn6 dc,trivial⟩)⟩
 .rw[cntN.cntsN,Jw,Qa,Zqj];omega
 .simp;omega
theorem Zsn{s:List UInt8}{i j:Nat}{g:Glob}(h:Xx s i= .ok (g,j)):(0<=g.b/\g.b<256)/\g.sp.length<=s.length/\ ∀x∈g.sp,(0<=x.lo/\x.lo<256)/\(0<=x.hi/\x.hi<256):=by
 unfold Xx at h;split at h
 .cases h
 .rename_i c o;have r:=c.toNat_lt;split at h
  .cases h;exact⟨dc,qx _,λx a=>by cases a⟩
  .split at h
   .cases h;exact⟨dc,qx _,λx a=>by cases a⟩
   .split at h
    .split at h
     .cases h
     .rename_i l k e;have f:=Zi9 e (λx a=>by cases a);have t:=Zay e;cases h;refine⟨⟨Int.le_refl 0,by show(0:Int)<256;decide⟩,?_,f.1⟩;have:=f.2;simp at this;show l.length<=s.length;omega
    .split at h
     .split at h
      .cases h
      .rename_i d n;have m:=d.toNat_lt;cases h;refine⟨⟨?_,?_⟩,qx _,λx a=>by cases a⟩
       .show(0:Int)<=(d.toNat:Int);omega
       .show(d.toNat:Int)<256;omega
     .cases h;refine⟨⟨?_,?_⟩,qx _,λx a=>by cases a⟩
      .show(0:Int)<=(c.toNat:Int);omega
      .show(c.toNat:Int)<256;omega
theorem Zhv{s:List UInt8} : ∀ {m i:Nat} {a l:List Glob},Qn m s i a= .ok l->i<=s.length->a.length<=i->(∀g∈a,(0<=g.b/\g.b<256)/\g.sp.length<=s.length/\ ∀x∈g.sp,(0<=x.lo/\x.lo<256)/\(0<=x.hi/\x.hi<256))->
  l.length<=s.length/\ ∀g∈l,(0<=g.b/\g.b<256)/\g.sp.length<=s.length/\ ∀x∈g.sp,(0<=x.lo/\x.lo<256)/\(0<=x.hi/\x.hi<256)
 |0,_,_,_,h,_,_,_=>by cases h
 |m+1,i,a,l,h,f,e,d=>by
  simp only[Qn]at h;split at h
  .split at h
   .cases h
   .rename_i x j hp;have k:=Zfb hp;refine Zhv h om (by simp;omega) λg c=> ?_;rcases qA.1 c with c|c
    .exact d g c
    .rw[vE]at c;subst c;exact Zsn hp
  .cases h;exact⟨om,d⟩
theorem Zej(t):(QS t).length<=200/\InG (QS t):=by
 unfold QS;split
 .exact⟨qx _,⟨dc,λx a=>by cases a⟩,λx a=>by cases a⟩
 .rename_i h
  cases hp:Qn (t.length+1) t 0 [] with
  |error e=>exact⟨qx _,⟨by show(0:Nat)<2 ^ 28;decide,λx a=>by cases a⟩,λx a=>by cases a⟩
  |ok l=>
   obtain⟨d,c⟩:=Zhv hp (qx _) (qx _) (λx a=>by cases a);refine⟨by show l.length<=200;omega,⟨by show l.length<_;omega,λx a=> ?_⟩,λx a=>⟨(c x a).1,(c x a).2.2⟩⟩;have:=(c x a).2.1;omega
theorem Zcc{k:Int}{t:List UInt8}(a:mayP k t=true):FewL (ZS::(Jy k t++ [ZS])):=by
 unfold mayP at a;unfold Jy;by_cases e:(k==0)=true
 .rw[uF e]at a ⊢;have g:(t.length:Int)<=200:=by simpa[leI]using a
  exact Zei (Zfw t) (by rw[Zdb];omega) (by rw[Jh];omega)
 rw[uE e]at a ⊢;by_cases d:(k==1)=true
 .rw[uF d]at ⊢;have c:=Zej t;have f:=Zda (QS t);have h:=VW (QS t);exact Zei (Zfv dc _) om om
 rw[uE d];by_cases c:(k==2)=true
 .rw[uF c];refine Zei ?_ ?_ sm
  .rw[wfRe.wfRes,wfRe.wfRes];exact⟨Zfe dc (.inl rfl) (Zqp _ (Zlz t)),trivial⟩
  .have:=Zof t;rw[Qa];unfold JY;rw[Za5,Zl1];omega
 .rw[uE c];exact Zei (by rw[wfRe.wfRes];trivial) (by rw[cntN.cntsN];omega) sm
theorem Zwu(r):Zd (JY r)= [I 7,U 0,U 0,U 0,U 0, .ts (Zd (laterF r)) 1 none,I 0,I 0,I 1]:=by
 unfold JY;rw[Zm,Znz]
theorem Zwv{G}{a}{l:Nat}{c}{K:Nat}{w:List Re}(hL:LY G a l c K w)(hb:w.length<2 ^ 20)(X:FewL (w++ [ZS])){R:V}(P:R=fitV (sevS 4 (w++ [ZS]))){fn}(L:Nat)(z: ∀(n j m o d:Int) (u:List V) (l:Nat) (c:Option Nat) (t f g e:Int),resV UY fn ([2,3].zip [.lb [I n,U j,U m,U o,U d, .ts u l c,I t,I f,I g],I e])=some (.tup [.agg [I n,U j,U m,U o,U d, .ts u l c,I t,I f,I g],I e])):
  ∃n j m o d u y B t f g,(PCon UY 53 [] λv=>v= .agg [I n,U j,U m,U o,U d, .ts u y B,I t,I f,I g])/\
   ∃(x:Option (Nat×Nat)) (F:Nat) (C:Option Nat) (A:Nat) (h:Heap),Zk UY G 26 26 (.sl a l c K) (.ts [I n,U j,U m,U o,U d, .ts u y B,I t,I f,I g] 1 (some 1))=some (.sl x F C A,h)/\
   Con UY 43 [.sl x F C A] h λv H=> ∃n j m o d u l c t f g E,v= .tup [.agg [I n,U j,U m,U o,U d, .ts u l c,I t,I f,I g],I E]/\
    Go.Y.Fin UY fn [2,3] (λv h=> ∃r,Frz h v r/\r=R) .ret L [.lb [I n,U j,U m,U o,U d, .ts u l c,I t,I f,I g],I E] H:=by
 refine Vt ZS ZFo λk0 W s1 s2 s3 u l0 cc lo hi n he=> ?_;obtain⟨a',l',c',k',H,Z,N⟩:=hL.app1 ZS he om;obtain⟨D,O⟩:=ZLu X N;exact⟨a',l',c',k',H,Z,Zjl O λk W s1 s2 s3 u l cc lo hi n e G h2=>Zod (z _ _ _ _ _ _ _ _ _ _ _ _) G h2 P⟩
theorem Zdi(k:Int)(t):PCon UY 20 [.agg [I k, .s t]] (· =Zdh k t):=by
 refine Zw UK (fn:=Tryz.f20) rfl ZQq rfl ?_;generalize g:Zdh k t=R;unfold Zdh at g;have f: ∀(n a2 H O C:Int) (cs:List V) (l:Nat) (c:Option Nat) (a3 a0 a1 e:Int),resV UY Tryz.f20 ([2,3].zip [.lb [I n,U a2,U H,U O,U C, .ts cs l c,I a3,I a0,I a1],I e])=some (.tup [.agg [I n,U a2,U H,U O,U C, .ts cs l c,I a3,I a0,I a1],I e]):=λ_ _ _ _ _ _ _ _ _ _ _ _=>rfl;refine⟨_,ZAg k t,Zf (λo=> ?_) (λo=> ?_)⟩
 .have j:mayP k t=false:=by simpa using o
  rw[uF j]at g;exact Zcb rr rfl (Qx _) (.i _ _) g
 have j:mayP k t=true:=by simpa using o
 rw[uE (by rw[j];decide)]at g;have m:=Zcc j;refine Vt ZS ZFo λk0 s0 s1 s2 s3 cs l0 cc lo hi n he=> ?_;have d: ∀L:List Re,Jy k t=L-> ¬((k==2)=true/\anchB (ereL t)=true)->R=fitV (sevS 4 ((ZS::L)++ [ZS]))/\FewL ((ZS::L)++ [ZS]):=λL hL hn=>by
  rw[uE hn,hL]at g;rw[hL]at m;exact⟨g.symm,m⟩
 refine Zf (λG=> ?_) (λG=>Zf (λK=> ?_) (λK=>Zf (λP=> ?_) (λP=> ?_)))
 .have hk:k=0:=by simpa using G
  subst hk;have hl:t.length<=200:=by
   have:leI (t.length:Nat) 200=true:=by unfold mayP at j;simpa using j
   have:(t.length:Int)<=200:=by simpa[leI]using this
   omega
  obtain⟨X,D⟩:=d (ZK t) rfl sm;obtain⟨N,F,c',Z,z,E,W⟩:=(LY.one (h:=Heap.empty) he).apps (ZK t) (by rw[Jh];simp;omega) none;exact⟨_,_,_,ZCk t om,N,F,c',Z,z,E,Zwv W (by simp[Jh];omega) D X _ f⟩
 .have hk:k=1:=by simpa using K
  subst hk;obtain⟨X,D⟩:=d (ZP (QS t)) rfl sm;obtain⟨g1,g2⟩:=Zej t;have g3:=VW (QS t);have hp:=Zlv t;rw[Vu]at hp;obtain⟨N,F,c',Z,z,E,W⟩:=(LY.one (h:=Heap.empty) he).apps (ZP (QS t)) (by simp;omega) none;exact⟨_,_,_,_,_,hp,_,_,_,ZCl (QS t) om g2.ok g2.b,N,F,c',Z,z,E,Zwv W (by simp;omega) D X _ f⟩
 .have hk:k=2:=by simpa using P
  subst hk;have hp:=Zht t;rw[Wr]at hp;have ha:=(Zwp (B:=1000) dc (ereL t) (Zlz t)).c;have a:=ZCn (B:=1000) dc (ereL t) (Zlz t);unfold LaR at a;have u:Jy 2 t= [JY (ereL t)]:=rfl;have w:=Zwu (ereL t);revert hp ha a u w d g;generalize ereL t=x;intro g d hp ha a u w;have A:=d _ u;clear d;revert w a;generalize laterF x=y;intro a w;obtain⟨xk,xs,xl,r,v,xn⟩:=x;rw[ZJ]at hp ha a;refine⟨_,_,_,_,_,_,_,_,_,_,_,_,_,hp,_,ha,Zf (λo=> ?_) (λo=> ?_)⟩
  .rw[uF ⟨rfl,o⟩]at g;exact Zcb rr rfl (Qx _) (.i _ _) g
  .obtain⟨X,D⟩:=A (λhc=>by rw[o]at hc;exact absurd hc.2 dc);refine Vt y a λk0 s0 s1 s2 s3 cs l0 cc lo hi n a4=> ?_;rw[a4]at w;obtain⟨N,F,c',Z,z,E,W⟩:=(LY.one (h:=Heap.empty) he).app [JY (.mk xk xs xl r v xn)] (new:= [I 7,U 0,U 0,U 0,U 0, .ts [I k0,U s0,U s1,U s2,U s3, .ts cs l0 cc,I lo,I hi,I n] 1 (some 1),I 0,I 0,I 1]) (by
    have e:row Zd [JY (.mk xk xs xl r v xn)]=Zd (JY (.mk xk xs xl r v xn)):=by simp[row]
    rw[e,w];exact .cons _ _ _ _ (.i _ _) (.cons _ _ _ _ (.i _ _) (.cons _ _ _ _ (.i _ _) (.cons _ _ _ _ (.i _ _) (.cons _ _ _ _ (.i _ _) (.cons _ _ _ _ (.ts _ _ _ none (λx hx=>by cases hx)) (.cons _ _ _ _ (.i _ _) (.cons _ _ _ _ (.i _ _) (.cons _ _ _ _ (.i _ _) .nil))))))))) rfl rfl rfl sm rfl (some 1)
   exact⟨N,F,c',Z,z,E,Zwv W sm D X _ f⟩
 .have G:k≠0:=by simpa using G
  have K:k≠1:=by simpa using K
  have P:k≠2:=by simpa using P
  exfalso;unfold mayP at j;rw[uE (by simpa using G),uE (by simpa using K),uE (by simpa using P)]at j;cases j
theorem ZRd{k s0 s1 s2 s3 a nk lo hi gn lv dp nn h}(K):CP UY 95 ((flat (Za Tryz.f95)).take 8) (.agg (R9 k s0 s1 s2 s3 a nk none lo hi gn)::I lv::I dp::I nn::Rp 206) h [1,2,3,4,10] K=(If (k==(1:Int)) (If (k==(6:Int)) (If (k==(7:Int)) (K .normal 210 [I lv,I dp,I nn, .lb (R9 k s0 s1 s2 s3 a nk none lo hi gn), .lb (R9 k s0 s1 s2 s3 a nk none lo hi gn)] h) (K .normal 210 [I lv,I dp,I nn, .lb (R9 k s0 s1 s2 s3 a nk none lo hi gn), .lb (R9 k s0 s1 s2 s3 a nk none lo hi 0)] h)) (If (k==(7:Int)) (K .normal 210 [I lv,I dp,I nn, .lb (R9 k s0 s1 s2 s3 a nk none lo hi gn), .lb (R9 k s0 s1 s2 s3 a nk none 0 0 gn)] h) (K .normal 210 [I lv,I dp,I nn, .lb (R9 k s0 s1 s2 s3 a nk none lo hi gn), .lb (R9 k s0 s1 s2 s3 a nk none 0 0 0)] h))) (If (k==(6:Int)) (If (k==(7:Int)) (K .normal 210 [I lv,I dp,I nn, .lb (R9 k s0 s1 s2 s3 a nk none lo hi gn), .lb (R9 k 0 0 0 0 a nk none lo hi gn)] h) (K .normal 210 [I lv,I dp,I nn, .lb (R9 k s0 s1 s2 s3 a nk none lo hi gn), .lb (R9 k 0 0 0 0 a nk none lo hi 0)] h)) (If (k==(7:Int)) (K .normal 210 [I lv,I dp,I nn, .lb (R9 k s0 s1 s2 s3 a nk none lo hi gn), .lb (R9 k 0 0 0 0 a nk none 0 0 gn)] h) (K .normal 210 [I lv,I dp,I nn, .lb (R9 k s0 s1 s2 s3 a nk none lo hi gn), .lb (R9 k 0 0 0 0 a nk none 0 0 0)] h)))):=kr
theorem ZRe{k s0 s1 s2 s3 a nk lo hi gn lv dp nn p0 p1 p2 p3 c d e h}(K):CP UY 95 (((flat (Za Tryz.f95)).drop 8).take 2) (MZ 210 [1,2,3,4,10] [I lv,I dp,I nn,.lb (R9 k s0 s1 s2 s3 a nk none lo hi gn),.lb (R9 k p0 p1 p2 p3 a nk none c d e)]) h [1,2,3,4,8,9] K=((λf=>If (!(p0==s0&&(p1==s1&&(p2==s2&&(p3==s3&&true))))) f (If (c !=lo) f (If (d !=hi) f (If (e !=gn) f (K .normal 210 [I lv,I dp,I nn, .lb (R9 k s0 s1 s2 s3 a nk none lo hi gn),Ud,Ud] h))))) (K .ret 210 [I lv,I dp,I nn, .lb (R9 k s0 s1 s2 s3 a nk none lo hi gn), .b false,I nn] h)):=kr
theorem ZRf{k s0 s1 s2 s3 a nk lo hi gn lv dp nn h}(K):CP UY 95 (((flat (Za Tryz.f95)).drop 10).take 4) (MZ 210 [1,2,3,4] [I lv,I dp,I nn,.lb (R9 k s0 s1 s2 s3 a nk none lo hi gn)]) h [2,3,4,8,9,11,12] K=(If (k==(7:Int)) (((λf=>λd=>If (ltI 9 (wW (nn+(1:Int)))) (If (gn !=(0:Int)) d (If (leI 64 dp) d f)) (If (gn !=wW (nn+(1:Int))) d (If (leI 64 dp) d f))) (K .normal 210 [I (wW (dp+(1:Int))),I (wW (nn+(1:Int))), .lb (R9 k s0 s1 s2 s3 a nk none lo hi gn),Ud,Ud,I 0, .b false] h)) (K .ret 210 [I dp,I (wW (nn+(1:Int))), .lb (R9 k s0 s1 s2 s3 a nk none lo hi gn), .b false,I (wW (nn+(1:Int))),I 0, .b false] h)) ((λc=>If (k==(6:Int)) (If (ltI 2 lv) c (If (ltI lo 0) c (If (ltI 8 lo) c (If (ltI 8 hi) c ((λg=>If (hi !=(-1:Int)) (If (ltI hi lo) c g) g) (K .normal 210 [I dp,I nn, .lb (R9 k s0 s1 s2 s3 a nk none lo hi gn),Ud,Ud,I 4, .b false] h)))))) (If (k==(4:Int)) (If (ltI 1 lv) c (K .normal 210 [I dp,I nn, .lb (R9 k s0 s1 s2 s3 a nk none lo hi gn),Ud,Ud,I 2, .b true] h)) (If (k==(5:Int)) (If (ltI 0 lv) c (K .normal 210 [I dp,I nn, .lb (R9 k s0 s1 s2 s3 a nk none lo hi gn),Ud,Ud,I 1, .b true] h)) (If (ltI 0 nk) c (If (ltI k 0) c (If (ltI 3 k) c ((λe=>If (k==(0:Int)) (If (ltI 1 lv) c (If (lv==(4:Int)) (If (k !=(1:Int)) c e) e)) (If (lv==(4:Int)) (If (k !=(1:Int)) c e) e)) (K .ret 210 [I dp,I nn, .lb (R9 k s0 s1 s2 s3 a nk none lo hi gn), .b true,I nn,I 0, .b false] h)))))))) (K .ret 210 [I dp,I nn, .lb (R9 k s0 s1 s2 s3 a nk none lo hi gn), .b false,I nn,I 0, .b false] h))):=kr
theorem ZRg{k s0 s1 s2 s3 a d lo hi gn dp nn kd c h}(K):CP UY 95 (pre ((flat (Za Tryz.f95)).drop 14)) (MZ 210 [2,3,4,11,12] [I dp,I nn,.lb (R9 k s0 s1 s2 s3 a d none lo hi gn),I kd,.b c]) h [2,3,4,8,9,11,14] K=((λg=>(λf=>If c (If (ltI (d:Int) (2:Int)) g f) f) ((λe=>If (!c) (If ((↑d:Int) !=(1:Int)) g e) e) (K .normal 210 [I dp,I nn, .lb (R9 k s0 s1 s2 s3 a d none lo hi gn),Ud,Ud,I kd,I 0] h))) (K .ret 210 [I dp,I nn, .lb (R9 k s0 s1 s2 s3 a d none lo hi gn), .b false,I nn,I kd,Ud] h)):=kr
theorem ZRh{k s0 s1 s2 s3 a nk lo hi gn dp nn kd i h}(K):CP UY 95 (flat (Zx (post ((flat (Za Tryz.f95)).drop 14)))) (MZ 210 [2,3,4,11,14] [I dp,I nn,.lb (R9 k s0 s1 s2 s3 a nk none lo hi gn),I kd,I i]) h [2,3,4,8,9,11,14] K=(If (ltI i nk) ((0<=i/\i<nk)/\ ∃b c d e f g j l m n o,Zr 9 (List.drop (i.toNat*9) a)=some (R9 b c d e f g j l m n o)/\ ∃p q,(PCon UY 95 [.agg (R9 b c d e f g j l m n o),I kd,I dp,I nn] λv=>v=.tup [.b p,I q])/\If (!p) (K .ret 210 [I dp,I nn, .lb (R9 k s0 s1 s2 s3 a nk none lo hi gn), .b false,I nn,I kd,I i] h) (K .normal 210 [I dp,I q, .lb (R9 k s0 s1 s2 s3 a nk none lo hi gn),Ud,Ud,I kd,I (wW (i+(1:Int)))] h)) (K (.exit 0) 210 [I dp,I nn, .lb (R9 k s0 s1 s2 s3 a nk none lo hi gn),Ud,Ud,I kd,I i] h)):=kr
theorem ZRi{nn h}(K):CP UY 95 ((post ((flat (Za Tryz.f95)).drop 14)).drop 1) (MZ 210 [3] [I nn]) h [8,9] K=(K .ret 210 [.b true,I nn] h):=kr
theorem JO{Y}(v:YOK Y){loc:Nat->Bool}{fuel:Nat}(n k:Nat){a:List Nat}{j:St}{c:List V}{h:Heap}{l:List Code}{Q:Out->St->Prop}{T:(KT)->Prop}
  (f: ∀K,Zc Y loc fuel (l.take k) ⟨c,[],h⟩ (VQ a K)=T K) (r:j=⟨c,[],h⟩) (t:(l.drop k).isEmpty=false) (u:T (PreV Y n a (l.drop k) Q)):TriL Y l j Q:=by
 have w:Zc Y loc fuel (l.take k) j (VQ a (PreV Y n a (l.drop k) Q)):=by rw[r,f];exact u
 have e:l=l.take k++l.drop k:=(vL k l).symm;rw[e];refine Zav ((Zbp v _ _ _ _ w).mono ?_);intro o d g;have m:l.drop k≠ []:=λe=>by rw[e]at t;cases t
 cases o with
 |normal=>exact QM m g.1 rfl rfl g.2
 |exit i=>exact g d rfl rfl rfl
 |ret=>exact g d rfl rfl rfl
def endF(R:Bool×Int)(len:Nat)(a:Bool)(g:Int):Bool×Int:=
 if(if a=true then ltI len 2 else !((len:Int)==1))=true then(false,g)else R
def formF:Re->Int->Int->Int->Bool×Int
 | .mk k s a d e n,lv,c,g=>
  if Zfo k s d e n=false then(false,g)
  else if(k==7)=true then
   (if(n==if ltI 9 (XV (g+1))=true then 0 else XV (g+1))=true/\leI 64 c=false then endF (kidsG a 0 (XV (c+1)) (XV (g+1))) a.length false (XV (g+1))else(false,XV (g+1)))
  else if(k==6)=true then
   (if ltI 2 lv=true\/ltI d 0=true\/ltI 8 d=true\/ltI 8 e=true\/((e != -1)=true/\ltI e d=true)then(false,g)else endF (kidsG a 4 c g) a.length false g)
  else if(k==4)=true then(if ltI 1 lv=true then(false,g)else endF (kidsG a 2 c g) a.length true g)
  else if(k==5)=true then(if ltI 0 lv=true then(false,g)else endF (kidsG a 1 c g) a.length true g)
  else if ltI 0 a.length=true\/ltI k 0=true\/ltI 3 k=true\/((k==0)=true/\ltI 1 lv=true)\/((lv==4)=true/\(k !=1)=true)then(false,g)else(true,g)
where
 kidsG:List Re->Int->Int->Int->Bool×Int
  | [],_,_,g=>(true,g)
  |r::l,kd,c,g=>if(formF r kd c g).1=true then kidsG l kd c (formF r kd c g).2 else(false,g)
def fV(p:Bool×Int):V:= .tup [.b p.1, .i .i64 p.2]
def FoR(r:Re):Prop:= ∀lv a g:Int,PCon UY 95 [.agg (Zd r), .i .i64 lv, .i .i64 a, .i .i64 g] (· =fV (formF r lv a g))
theorem Zso(a:List Re){i:Nat}(d:i<a.length)(kd c g:Int):formF.kidsG (a.drop i) kd c g=if(formF a[i] kd c g).1=true then formF.kidsG (a.drop (i+1)) kd c (formF a[i] kd c g).2 else(false,g):=by
 rw[Zec d,formF.kidsG]
abbrev xLb(k:Int)(s:S4)(a:List Re)(c d n:Int):V:= .lb [I k,U s.1,U s.2.1,U s.2.2.1,U s.2.2.2,lst Zd a,I c,I d,I n]
theorem ZAh{B:Nat}(hB:B<2 ^ 20){k:Int}{s}{a:List Re}{A z n:Int}(hl:a.length<=B)(ih: ∀x∈a,FoR x):FoR (.mk k s a A z n):=by
 intro lv dp g;rw[ZJ];refine ZG UK (fn:=Tryz.f95) rfl ?_;refine JO UK 210 8 ZRd rfl kr ?_;generalize c:formF (.mk k s a A z n) lv dp g=R;rw[formF]at c;have b2:((flat (Za Tryz.f95)).drop 8).drop 2=(flat (Za Tryz.f95)).drop 10:=by rw[vH]
 have b0:((flat (Za Tryz.f95)).drop 10).drop 4=(flat (Za Tryz.f95)).drop 14:=by rw[vH]
 have d: ∀(j C kd:Int) (l:Bool),endF (formF.kidsG a kd j C) a.length l C=R->
   PreV UY 210 [2,3,4,8,9,11,12] ((flat (Za Tryz.f95)).drop 14) (FinS UY Tryz.f95 λv h=> ∃r,Frz h v r/\r=fV R) .normal 210 [I j,I C,xLb k s a A z n, .undef, .undef,I kd, .b l] .empty:=by
  intro j C kd l hE;refine⟨rfl,?_⟩;refine Zh UK 210 ZRg rfl ?_;have y:(if l=true then ltI a.length 2 else !(((a.length:Nat):Int)==1))=true->PreV UY 210 [2,3,4,8,9,11,14] (post ((flat (Za Tryz.f95)).drop 14)) (FinS UY Tryz.f95 λv h=> ∃r,Frz h v r/\r=fV R) .ret 210 [I j,I C,xLb k s a A z n, .b false,I C,I kd, .undef] .empty:=λu=>
   fin2 rr rfl (.b _) (.i _ _) (by rw[<-hE];unfold endF;rw[uF u];rfl)
  have X:(if l=true then ltI a.length 2 else !(((a.length:Nat):Int)==1))=false->PreV UY 210 [2,3,4,8,9,11,14] (post ((flat (Za Tryz.f95)).drop 14)) (FinS UY Tryz.f95 λv h=> ∃r,Frz h v r/\r=fV R) .normal 210 [I j,I C,xLb k s a A z n, .undef, .undef,I kd,I 0] .empty:=by
   intro u;have hE:formF.kidsG a kd j C=R:=by
    rw[<-hE];unfold endF;rw[uE (by rw[u];decide)]
   refine⟨rfl,ZN [2,3,4,11,14] [2,3,4,8,9,11,14] (λm vs g=> ∃(i:Nat) (gg:Int),vs= [I j,I gg,xLb k s a A z n,I kd,I (i:Nat)]/\i<=a.length/\m=a.length-i/\formF.kidsG (a.drop i) kd j gg=R) a.length ZA ⟨0,C,rfl,om,om,hE⟩ ?_⟩;rintro m vs g0 ⟨i,gg,rfl,b8,rfl,Z⟩;refine Zn UK ZRh rfl ?_;refine Zq (λP=> ?_) (λb6=> ?_)
   .have E:=ih a[i] (qe P) kd j gg;have F:=Za4 P;rw[Zso a P]at Z;generalize formF a[i] kd j gg=q at E Z;generalize a[i]=x at E F;obtain⟨xk,xs,xl,b7,b9,xn⟩:=x;rw[Zm]at F;rw[ZJ]at E;refine⟨Zu P,_,_,_,_,_,_,_,_,_,_,_,F,q.1,q.2,E,Zf (λu=> ?_) (λu=> ?_)⟩
    .have u:q.1=false:=by simpa using u
     rw[uE (by rw[u];decide)]at Z;exact fin2 rr rfl (.b _) (.i _ _) (by rw[<-Z];rfl)
    .have u:q.1=true:=by simpa using u
     rw[uF u]at Z;exact⟨rfl,a.length-(i+1),om,i+1,q.2,by rw[Ze om];rfl,om,rfl,Z⟩
   .have he:i=a.length:=om;subst he;rw[List.drop_length,formF.kidsG]at Z;refine Zj [3] ?_;refine Zo UK ZRi rfl ?_;exact Zcb rr rfl (.b _) (.i _ _) (by rw[<-Z];rfl)
  cases l
  .refine ifF rfl (ifT rfl (Zf (λN=>y ?_) (λN=>X ?_)))
   .rw[uE dc];simpa using N
   .rw[uE dc];simpa using N
  .refine ifT rfl (Zf (λN=>y ?_) (λN=>ifF rfl (X ?_)))
   .rw[uF rfl];exact N
   .rw[uF rfl];exact N
 have XK:Zfo k s A z n=true->PreV UY 210 [1,2,3,4,8,9] ((flat (Za Tryz.f95)).drop 10) (FinS UY Tryz.f95 λv h=> ∃r,Frz h v r/\r=fV R) .normal 210 [I lv,I dp,I g,xLb k s a A z n, .undef, .undef] .empty:=by
  intro a0;rw[uE (by rw[a0];decide)]at c;refine⟨rfl,?_⟩;refine JO UK 210 4 ZRf rfl kr ?_;rw[b0];have ret: ∀(b:Bool) (C:Int),(b,C)=R-> ∀(b1 b4 b5 b3 a9:V),PreV UY 210 [2,3,4,8,9,11,12] ((flat (Za Tryz.f95)).drop 14) (FinS UY Tryz.f95 λv h=> ∃r,Frz h v r/\r=fV R) .ret 210 [b1,b4,b5, .b b,I C,b3,a9] .empty:=λb C hr _ _ _ _ _=>
   fin2 rr rfl (.b _) (.i _ _) (by rw[<-hr];rfl)
  refine Zf (λD=> ?_) (λD=> ?_)
  .rw[uF D]at c;refine Zf (λh9=> ?_) (λh9=> ?_)
   .rw[h9]at c;refine Zf (λhn=>ret _ _ ?_ _ _ _ _ _) (λhn=>Zf (λO=>ret _ _ ?_ _ _ _ _ _) (λO=>d _ _ _ _ ?_))
    .rw[uE (λE=>by have:=E.1;simp at this;simp[this]at hn)]at c;exact c
    .rw[uE (λE=>by rw[E.2]at O;cases O)]at c;exact c
    .rw[uF ⟨by simpa using hn,O⟩]at c;exact c
   .rw[h9]at c;refine Zf (λhn=>ret _ _ ?_ _ _ _ _ _) (λhn=>Zf (λO=>ret _ _ ?_ _ _ _ _ _) (λO=>d _ _ _ _ ?_))
    .rw[uE (λE=>by have:=E.1;simp at this;simp[this]at hn)]at c;exact c
    .rw[uE (λE=>by rw[E.2]at O;cases O)]at c;exact c
    .rw[uF ⟨by simpa using hn,O⟩]at c;exact c
  rw[uE (by rw[D];decide)]at c;refine Zf (λh6=> ?_) (λh6=> ?_)
  .rw[uF h6]at c;refine Zf (λf=>ret _ _ ?_ _ _ _ _ _) (λf=>Zf (λo=>ret _ _ ?_ _ _ _ _ _) (λo=>Zf (λt=>ret _ _ ?_ _ _ _ _ _) (λt=>Zf (λw=>ret _ _ ?_ _ _ _ _ _) (λw=>Zf (λW=>Zf (λL=>ret _ _ ?_ _ _ _ _ _) (λL=>d _ _ _ _ ?_)) (λW=>d _ _ _ _ ?_)))))
   .rw[uF (.inl f)]at c;exact c
   .rw[uF (.inr (.inl o))]at c;exact c
   .rw[uF (.inr (.inr (.inl t)))]at c;exact c
   .rw[uF (.inr (.inr (.inr (.inl w))))]at c;exact c
   .rw[uF (.inr (.inr (.inr (.inr ⟨W,L⟩))))]at c;exact c
   .rw[uE (by rw[f,o,t,w,L];simp)]at c;exact c
   .rw[uE (by rw[f,o,t,w,W];simp)]at c;exact c
  rw[uE (by rw[h6];decide)]at c;refine Zf (λh4=> ?_) (λh4=> ?_)
  .rw[uF h4]at c;refine Zf (λf=>ret _ _ ?_ _ _ _ _ _) (λf=>d _ _ _ _ ?_)
   .rw[uF f]at c;exact c
   .rw[uE (by rw[f];decide)]at c;exact c
  rw[uE (by rw[h4];decide)]at c;refine Zf (λh5=> ?_) (λh5=> ?_)
  .rw[uF h5]at c;refine Zf (λf=>ret _ _ ?_ _ _ _ _ _) (λf=>d _ _ _ _ ?_)
   .rw[uF f]at c;exact c
   .rw[uE (by rw[f];decide)]at c;exact c
  rw[uE (by rw[h5];decide)]at c;refine Zf (λf=>ret _ _ ?_ _ _ _ _ _) (λf=>Zf (λo=>ret _ _ ?_ _ _ _ _ _) (λo=>Zf (λt=>ret _ _ ?_ _ _ _ _ _) (λt=>Zf (λw=>Zf (λW=>ret _ _ ?_ _ _ _ _ _) (λW=>Zf (λL=>Zf (λa7=>ret _ _ ?_ _ _ _ _ _) (λa7=>ret _ _ ?_ _ _ _ _ _)) (λL=>ret _ _ ?_ _ _ _ _ _))) (λw=>Zf (λL=>Zf (λa7=>ret _ _ ?_ _ _ _ _ _) (λa7=>ret _ _ ?_ _ _ _ _ _)) (λL=>ret _ _ ?_ _ _ _ _ _)))))
  .rw[uF (.inl f)]at c;exact c
  .rw[uF (.inr (.inl o))]at c;exact c
  .rw[uF (.inr (.inr (.inl t)))]at c;exact c
  .rw[uF (.inr (.inr (.inr (.inl ⟨w,W⟩))))]at c;exact c
  .rw[uF (.inr (.inr (.inr (.inr ⟨L,a7⟩))))]at c;exact c
  .rw[uE (by rw[f,o,t,W,a7];simp)]at c;exact c
  .rw[uE (by rw[f,o,t,W,L];simp)]at c;exact c
  .rw[uF (.inr (.inr (.inr (.inr ⟨L,a7⟩))))]at c;exact c
  .rw[uE (by rw[f,o,t,w,a7];simp)]at c;exact c
  .rw[uE (by rw[f,o,t,w,L];simp)]at c;exact c
 have a8: ∀(p0 p1 p2 p3 G K H:Int),((p0==s.1&&(p1==s.2.1&&(p2==s.2.2.1&&(p3==s.2.2.2&&true))))&&(G==A&&K==z)&&H==n)=Zfo k s A z n->
   PreV UY 210 [1,2,3,4,10] ((flat (Za Tryz.f95)).drop 8) (FinS UY Tryz.f95 λv h=> ∃r,Frz h v r/\r=fV R) .normal 210 [I lv,I dp,I g,xLb k s a A z n, .lb [I k,U p0,U p1,U p2,U p3,lst Zd a,I G,I K,I H]] .empty:=by
  intro p0 p1 p2 p3 G K H u;refine⟨rfl,?_⟩;refine JO UK 210 2 ZRe rfl kr ?_;rw[b2];have y:Zfo k s A z n=false->PreV UY 210 [1,2,3,4,8,9] ((flat (Za Tryz.f95)).drop 10) (FinS UY Tryz.f95 λv h=> ∃r,Frz h v r/\r=fV R) .ret 210 [I lv,I dp,I g,xLb k s a A z n, .b false,I g] .empty:=λhf=>
   fin2 rr rfl (.b _) (.i _ _) (by rw[uF hf]at c;rw[<-c];rfl)
  refine Zf (λf=>y ?_) (λf=>Zf (λo=>y ?_) (λo=>Zf (λt=>y ?_) (λt=>Zf (λw=>y ?_) (λw=>XK ?_))))
  .have f:(p0==s.1&&(p1==s.2.1&&(p2==s.2.2.1&&(p3==s.2.2.2&&true))))=false:=by rwa [Bool.not_eq_true']at f
   rw[<-u,f];rfl
  .have o:(G==A)=false:=by simpa using o
   rw[<-u,o];simp
  .have t:(K==z)=false:=by simpa using t
   rw[<-u,t];simp
  .have w:(H==n)=false:=by simpa using w
   rw[<-u,w];simp
  .have f:(p0==s.1&&(p1==s.2.1&&(p2==s.2.2.1&&(p3==s.2.2.2&&true))))=true:=by rwa [Bool.not_eq_false']at f
   have o:(G==A)=true:=by simpa using o
   have t:(K==z)=true:=by simpa using t
   have w:(H==n)=true:=by simpa using w
   rw[<-u,f,o,t,w];rfl
 have c0: ∀x:Int,((0:Int)==x)=(x==0):=λx=>by
  by_cases h:x=0
  .subst h;rfl
  .have h2:((0:Int)==x)=false:=by
    rw[beq_eq_false_iff_ne];exact λe=>h e.symm
   have h3:(x==0)=false:=by
    rw[beq_eq_false_iff_ne];exact h
   rw[h2,h3]
 refine Zf (λN=>Zf (λh6=>Zf (λD=> ?_) (λD=> ?_)) (λh6=>Zf (λD=> ?_) (λD=> ?_))) (λN=>Zf (λh6=>Zf (λD=> ?_) (λD=> ?_)) (λh6=>Zf (λD=> ?_) (λD=> ?_)))
 all_goals
  refine a8 _ _ _ _ _ _ _ ?_;unfold Zfo;rw[N,h6,D]
  first|simp[c0]|skip
mutual
theorem ZLw{B:Nat}(c:B<2 ^ 20): ∀r:Re,wfRe B r->FoR r
 | .mk k s a e d n,h=>by
  rw[wfRe]at h;exact ZAh c h.2.2.1 (ZCq c a h.2.2.2)
theorem ZCq{B:Nat}(c:B<2 ^ 20): ∀l:List Re,wfRe.wfRes B l-> ∀x∈l,FoR x
 | [],_,x,a=>by cases a
 |r::l,h,x,a=>by
  rw[wfRe.wfRes]at h;have d:=ZLw c r h.1;have f:=ZCq c l h.2;rcases qu.1 a with e|a
  .exact e▸d
  .exact f x a
end
end Go.Y
