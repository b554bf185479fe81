/- A part of the proof. -/
import Derived.Test.YteennilbmmlikaaGreatDoorGWkD
import Derived.Test.YteennilbmmlikaaGreatDoorGRule
import Derived.Test.YteennilbmmlikaaGreatDoorGA2
import Derived.Test.YteennilbmmlikaaGreatDoorYLoop
import Derived.Test.YteennilbmmlikaaGreatDoorYAny3
namespace Go.Y
open Go.Proofs
set_option maxRecDepth 1000000
set_option maxHeartbeats 0
structure LY(h:Heap)(a:Option (Nat×Nat))(l:Nat)(c:Option Nat)(kk:Nat)(out:List Re):Prop where
 cells: ∃(j:Nat) (cs:List V),a=some (j,0)∧kk=9∧j<h.nx∧h.get j=some (.arr cs true)∧(c=none∨c=some l)∧ZZ cs=true∧FrzL .empty cs (row Zd out)∧cs.length=l*9
 len:l=out.length
theorem Zxt(L):FrzL .empty (row Zd L) (row Zd L):=Xa _ (Jc XK L)
theorem LY.one{h:Heap}{x:Re}{cs}(a:Zd x=cs):LY (h.push (.arr cs true)) (some (h.nx,0)) 1 (some 1) 9 [x]:=by
 subst a;have e:row Zd [x]=Zd x:=by simp[row]
 exact⟨⟨h.nx,Zd x,rfl,rfl,sm,by rw[qk,uF rfl], .inr rfl,XK x,by rw[e];exact Xa _ (XK x),by rw[ZT]⟩,rfl⟩
theorem LY.app{h}{a}{l:Nat}{c}{H:Nat}{out:List Re}(hl:LY h a l c H out)(L:List Re){new:List V}(hf:FrzL .empty new (row Zd L))(p:ZZ new=true)(N:Zp new=true)(F:new.length=L.length*9)(hb:out.length+L.length<2 ^ 29){m:Nat}(E:m=L.length)(cap:Option Nat):
  ∃w B x A y,Zk UY h 26 26 (.sl a l c H) (.ts new m cap)=some (.sl w B x A,y)/\LY y w B x A (out++L):=by
 subst E;obtain⟨⟨j,g,rfl,rfl,O,D,i,r,s,f⟩,d⟩:=hl;subst d;have z:UY.kd 26=some (.slice 28):=kr;have q:UY.ty 28=some ⟨9,88, .struct [(0,3),(1,25),(5,26),(6,3),(7,3),(8,3)],[I 0,U 0,U 0,U 0,U 0, .sl none 0 (some 0) 0,I 0,I 0,I 0]⟩:=kr;have d:Zs (L.length*9) new=some new:=ZC F.symm;have P:most=1099511627776:=dc;have n:XJ UY ⟨[],[],h⟩ ⟨9,88, .struct [(0,3),(1,25),(5,26),(6,3),(7,3),(8,3)],[I 0,U 0,U 0,U 0,U 0, .sl none 0 (some 0) 0,I 0,I 0,I 0]⟩ 26 (.ts new L.length cap)=some (L.length,new):=by
  simp only[XJ,z,QS,XS,d];rfl
 by_cases K:L= []
 .subst K;have v:new= []:=qg (by rw[F];simp);subst v;refine⟨some (j,0),out.length,c,9,h,?_,⟨⟨j,g,rfl,rfl,O,D,i,r,by rw[qi];exact s,f⟩,sm⟩⟩;simp only[Zk,Xd,z,q,n]
  rfl
 have W:0<L.length:=List.length_pos_iff.2 K;have t:FrzL .empty (g++new) (row Zd (out++L)):=by rw[XA];exact s.append hf
 have b:=Jb r p;have o:(g++new).length=(out.length+L.length)*9:=by rw[qf,f,F];omega
 rcases i with rfl|rfl;obtain⟨w,B,x,A,y,q1,q2,q3,X,jj,q5,q6⟩:=Zbx (Y:=UY) (h:=h) (k:=9) (a:=some (j,0)) (l:=out.length) (c:=none) (kk:=9) (cs:=g) (new:=new) (m:=L.length) (cap:=cap) z q rfl dc ⟨f.symm, .inr ⟨j,rfl,rfl,rfl,O,D⟩⟩ om d N (by rw[P];show(out.length+L.length)*88<=_;omega) (by rw[P];omega);refine⟨w,B,x,A,y,q1,⟨?_,by rw[X,qf]⟩⟩;obtain⟨_,(⟨e,_⟩|⟨id,Z,e2,e3,e4,e5⟩)⟩:=q2;rw[q5]at e;cases e;exact⟨id,_,Z,e3,e4,e5, .inl e2,b,t,by rw[o,X]⟩
 .refine⟨some (h.nx,0),out.length+L.length,none,9,h.push (.arr (g++new) true),?_,⟨⟨h.nx,_,rfl,rfl,sm,by rw[qk,uF rfl], .inl rfl,b,t,o⟩,by rw[qf]⟩⟩;have h0: ¬(L.length=0):=om;have C: ¬((out.length+L.length)*88>most\/out.length+L.length>most):=om;have u: ¬(out.length+L.length<=out.length):=om;have G:Zs (out.length*9) (g.drop 0)=some g:=by rw[ql];exact ZC f.symm
  simp only[Zk,Xd,z,q,n,ne_eq,not_true_eq_false,vF,h0,C,u,Xt,D,G];rw[uE (by simp[N])]
theorem LY.apps{h}{a}{l:Nat}{c}{i:Nat}{b:List Re}(m:LY h a l c i b)(L:List Re)(k:b.length+L.length<2 ^ 29)(cap:Option Nat):
  ∃d j e g f,Zk UY h 26 26 (.sl a l c i) (.ts (row Zd L) L.length cap)=some (.sl d j e g,f)/\LY f d j e g (b++L):=
 m.app L (Zxt L) (Jc XK L) (Zgf L) (Xf ZT L) k rfl cap
theorem LY.app1{h}{a}{l:Nat}{c}{j:Nat}{b:List Re}(m:LY h a l c j b)(x:Re){cs}(n:Zd x=cs)(o:b.length<2 ^ 28):
  ∃d k f i g,Zk UY h 26 26 (.sl a l c j) (.ts cs 1 (some 1))=some (.sl d k f i,g)/\LY g d k f i (b++ [x]):=by
 have e:row Zd [x]=cs:=by rw[<-n];simp[row]
 have:=m.apps [x] (by simp;omega) (some 1);rw[e]at this;exact this
theorem LY.afterZ{h}{a}{l:Nat}{c}{m:Nat}{d}(o:LY h a l c m d): ∃D:List Nat,Frz (Vi h D) (.sl a l c m) (lst Zd d):=by
 obtain⟨⟨j,i,rfl,rfl,q,n,k,e,f,g⟩,b⟩:=o;subst b;exact⟨[j], .sl _ _ _ _ _ i true i _ _ (by rw[QK,uF sm,n]) (by rw[ql];exact ZC g.symm) (λx p=>by cases p) dc (Za1 e f)⟩
/-! ### Row, as it is called -/
def Zj2(S:Re):Re:=if mayE S=true then S else XG
def fitE(S:Re):Int:=if mayE S=true then 0 else 2
theorem Zo4(S:Re):fitV S= .tup [.agg (Zd (Zj2 S)),I (fitE S)]:=by unfold fitV Zj2 fitE;split<;>rfl
theorem Zre{f}{args}{h}{S:Re}{D}(c:Con UY f args h λv r=>v=fitV S/\r=XP h D){K:Int->Int->Int->Int->Int->List V->Nat->Option Nat->Int->Int->Int->Int->Heap->Prop}
  (b: ∀k w y z A a l s u t n e,Zd (Zj2 S)= [I k,U w,U y,U z,U A, .ts a l s,I u,I t,I n]->e=fitE S->K k w y z A a l s u t n e (XP h D)):
  Con UY f args h λv r=> ∃n d g i j a l c m o p q,v= .tup [.agg [I n,U d,U g,U i,U j, .ts a l c,I m,I o,I p],I q]/\K n d g i j a l c m o p q r:=
 c.mono λv r ⟨C,B⟩=>by
  subst C B;rw[Zo4];have b:=b;revert b;generalize Zj2 S=x;intro b;obtain⟨G,N,H,F,E,L⟩:=x;exact⟨_,_,_,_,_,_,_,_,_,_,_,_,by rw[ZJ],b _ _ _ _ _ _ _ _ _ _ _ _ (Zn _ _ _ _ _ _) rfl⟩
theorem Zxu{b}{a:List Nat}{j:Nat}{vs}{h:Heap}{R:V}{T}{cs}{e:Int}(g:resV UY b (a.zip vs)=some (.tup [.agg cs,I e]))(f:Zd (Zj2 T)=cs)(c:e=fitE T)(d:R=fitV T):
  Go.Y.Fin UY b a (λv h=> ∃r,Frz h v r/\r=R) .ret j vs h:=
 Zdp (.inr rfl) g (Zo2 _ _ f) (.i _ _) (by rw[d,Zo4,c])
theorem ZMz{l}(b:FewL l)(h):Con UY 43 [lst Zd l] h λv a=>v=fitV (sevS 4 l)/\a=XP h []:=
 Con.ofP [] (FrzAL.refl _) (rowT b)
theorem ZM0{b}(g:FewL b){h}{a}{l:Nat}{c}{d:Nat}(f:LY h a l c d b): ∃D,Con UY 43 [.sl a l c d] h λv e=>v=fitV (sevS 4 b)/\e=XP h D:=by
 obtain⟨D,hz⟩:=f.afterZ;exact⟨D,Con.ofP D (.cons _ _ _ _ (.frz _ _ hz) .nil) (rowT g)⟩
theorem ZM1(s:List UInt8)(c:s.length<=300):PCon UY 16 [.s s] (· =fitV (sevS 4 (Xl s))):=by
 refine Zv UK (fn:=Tryz.f16) rfl ZRv rfl ?_;refine⟨_,_,_,ZDs s om,Zre (ZMz (Zf9 c) _) λk i j m o f l d h g n e a b=> ?_⟩;exact Zxu rfl a b rfl
structure InG(l:List Glob):Prop where
 ok:okG l
 b: ∀g∈l,(0<=g.b∧g.b<256)∧ ∀x∈g.sp,(0<=x.lo∧x.lo<256)∧(0<=x.hi∧x.hi<256)
/-! ### search.May -/
def JE(s:List UInt8):List Glob:=if 200<s.length then []else match Qm (s.length+1) s 0 []with| .error _=> []| .ok l=>l
def ZM2(s:List UInt8):Int:=if 200<s.length then 200 else match Qm (s.length+1) s 0 []with| .error e=>(e:Nat)| .ok _=>0
def Ztm(s:List UInt8):Int:=if 200<s.length then 2 else match Qm (s.length+1) s 0 []with| .error _=>1| .ok _=>0
theorem Zci(s:List UInt8):Zh4 s= .tup [lst encG (JE s),I (ZM2 s),I (Ztm s)]:=by
 unfold Zh4 JE ZM2 Ztm;split;rfl
 .cases Qm (s.length+1) s 0 []<;>rfl
def ereL(s:List UInt8):Re:=match Qx s with| .error _=>XG| .ok x=>x
def ereP(s:List UInt8):Int:=match Qx s with| .error (_,p)=>(p:Nat)| .ok _=>0
def ereE(s:List UInt8):Int:=match Qx s with| .error (e,_)=>e| .ok _=>0
theorem Wu(s:List UInt8):Zdm s= .tup [.agg (Zd (ereL s)),I (ereP s),I (ereE s)]:=by
 unfold Zdm ereL ereP ereE
 cases Qx s with
 |error e=>obtain⟨e,p⟩:=e;rfl
 |ok x=>rfl
mutual
theorem Zxv{B C:Nat}(a:B<=C): ∀r:Re,wfRe B r->wfRe C r
 | .mk k s b d c n,h=>by
  rw[wfRe]at h ⊢;exact⟨h.1,h.2.1,uu h.2.2.1 a,Zrf a b h.2.2.2⟩
theorem Zrf{B C:Nat}(a:B<=C): ∀l:List Re,wfRe.wfRes B l->wfRe.wfRes C l
 | [],_=>by rw[wfRe.wfRes];trivial
 |r::l,h=>by
  rw[wfRe.wfRes]at h ⊢;exact⟨Zxv a r h.1,Zrf a l h.2⟩
end
theorem Zo5(s):cntN (ereL s)<=1000:=by
 unfold ereL
 cases a:Qx s with
 |error e=>show cntN XG<=1000;unfold XG;rw[JM];decide
 |ok x=>exact Zw5 a
theorem Zmo(s):wfRe 1000 (ereL s):=by
 unfold ereL
 cases a:Qx s with
 |error e=>show wfRe 1000 XG;unfold XG;rw[wfRe];exact⟨λh=>absurd h dc,λ_ _ _ _=>rfl,dc,by rw[wfRe.wfRes];trivial⟩
 |ok x=>exact Zxv dc x (ZAp a)
theorem ZGx(s):(textF (ereL s)).length<2 ^ 28:=by have a:=Zo5 s;have b:=Vt (ereL s);omega
def mayP(k:Int)(t:List UInt8):Bool:=if(k==0)=true then leI (t.length:Nat) 200 else if(k==1)=true then Ztm t==0 else if(k==2)=true then(if(ereE t==0)=true then mayE (ereL t)else false)else false
theorem Zgg{h:Heap}{d b:Nat}{c a:List V}(e:h.get d=some (.arr c true))(f:b+a.length<=c.length):Zi h d b a=some (h.set d (some (.arr (splice c b a) true))):=by
 simp only[Zi,e];rw[uF f]
theorem ZBi(k:Int)(t)(h):Con UY 104 [.agg [I k, .s t]] h λv _=> ∃a,v= .tup [.p a, .b (mayP k t)]:=by
 refine Zx UK (fn:=Tryz.f104) (Zo UK ZMx rfl ?_);generalize c:mayP k t=M;unfold mayP at c;have d: ∀i:List V,(h.push (.arr i true)).get h.nx=some (.arr i true):=λi=>by rw[qk,uF rfl]
 refine Zf (λj=> ?_) (λj=> ?_);rw[uF j]at c;exact finC rr rfl (.now ⟨_,by rw[c];rfl⟩);rw[uE (by rw[j];decide)]at c;refine Zf (λl=> ?_) (λl=> ?_);rw[uF l]at c;have f:=Zml t;rw[Zci]at f;exact⟨_,_,_,_,_,f,_,Zgg (d _) sm,finC rr rfl (.now ⟨_,by rw[c];rfl⟩)⟩;rw[uE (by rw[l];decide)]at c;refine Zf (λm=> ?_) (λm=> ?_);rw[uF m]at c;have f:=Zh7 t;rw[Wu]at f;have g:=Zox (B:=1000) dc (Zmo t) (ZGx t);revert c g f;generalize ereL t=x;generalize ereE t=e;intro c f g;obtain⟨r,y,u,q,o,w⟩:=x;rw[ZJ]at g f;refine⟨_,_,_,_,_,_,_,_,_,_,_,_,_,f,_,Zgg (d _) ?_,Zf (λn=> ?_) (λn=> ?_)⟩;simp;rw[uF n]at c;refine⟨_,_,_,_,_,_,_,_,_,_,_,(Zr (by rw[qc,uF rfl]) 3 9).trans rfl,_,g,finC rr rfl (.now ⟨_,by rw[c];rfl⟩)⟩;rw[uE (by rw[n];decide)]at c;exact finC rr rfl (.now ⟨_,by rw[c];rfl⟩);rw[uE (by rw[m];decide)]at c;exact finC rr rfl (.now ⟨_,by rw[c];rfl⟩)
theorem ZBj(k:Int)(t):PCon UY 52 [.agg [I k, .s t]] (· = .b (mayP k t)):=by
 refine Zv UK (fn:=Tryz.f52) rfl ZSc rfl ?_;exact(ZBi k t .empty).mono λv d ⟨a,c⟩=>⟨a,_,c,ZB rr rfl (.b _) rfl⟩
/-! ### Within -/
def Wa(r:Re):Re:= .mk 7 (0,0,0,0) [laterF r] 0 0 1
def JO(k:Int)(t:List UInt8):List Re:=if(k==0)=true then Xl t else if(k==1)=true then ZX (JE t)else if(k==2)=true then [Wa (ereL t)]else []
def Zgh(k:Int)(t:List UInt8):V:=
 if mayP k t=false then .tup [.agg (Zd XG), .i .i64 5]
 else if(k==2)=true/\anchB (ereL t)=true then .tup [.agg (Zd XG), .i .i64 5]
 else fitV (sevS 4 (ZU::(JO k t++ [ZU])))
mutual
theorem Zrg{B:Nat} : ∀r:Re,wfRe B r->wfRe B (laterF r)
 | .mk k s a i g n,h=>by
  rw[wfRe]at h;rw[Zex,wfRe];refine⟨λe=>⟨(h.1 e).1,(h.1 e).2.1,(h.1 e).2.2.1,by rw[qC];exact(h.1 e).2.2.2⟩,λb c d f=>by rw[h.2.1 b c d f];rfl,by rw[qC];exact h.2.2.1,Zmp a h.2.2.2⟩
theorem Zmp{B:Nat} : ∀l:List Re,wfRe.wfRes B l->wfRe.wfRes B (l.map laterF)
 | [],_=>by rw[List.map_nil,wfRe.wfRes];trivial
 |r::l,h=>by
  rw[wfRe.wfRes]at h;rw[qz,wfRe.wfRes];exact⟨Zrg r h.1,Zmp l h.2⟩
end
mutual
theorem Zmq: ∀r:Re,cntN (laterF r)=cntN r
 | .mk k s a c b n=>by rw[Zex,cntN,cntN,Zh8 a]
theorem Zh8: ∀l:List Re,cntN.cntsN (l.map laterF)=cntN.cntsN l
 | []=>rfl
 |r::l=>by rw[qz,cntN.cntsN,cntN.cntsN,Zmq r,Zh8 l]
end
theorem Zey{l:List Re}(a:wfRe.wfRes 1000 l)(b:cntN.cntsN l<=3000)(c:l.length<=500):FewL (ZU::(l++ [ZU])):=by
 refine⟨?_,?_,?_⟩;rw[wfRe.wfRes];exact⟨Zo0 dc,Wn a (by rw[wfRe.wfRes,wfRe.wfRes];exact⟨Zo0 dc,trivial⟩)⟩;rw[cntN.cntsN,Ju,Qb,Zq9];omega;simp;omega
theorem Ztn{s:List UInt8}{i j:Nat}{g:Glob}(h:Xx s i= .ok (g,j)):(0<=g.b/\g.b<256)/\g.sp.length<=s.length/\ ∀x∈g.sp,(0<=x.lo/\x.lo<256)/\(0<=x.hi/\x.hi<256):=by unfold Xx at h;split at h;cases h;rename_i c p;have o:=c.toNat_lt;split at h;cases h;exact⟨dc,qx _,λx a=>by cases a⟩;split at h;cases h;exact⟨dc,qx _,λx a=>by cases a⟩;split at h;split at h;cases h;rename_i l k f;have e:=Zjo f (λx a=>by cases a);have n:=Za2 f;cases h;refine⟨⟨Int.le_refl 0,by show(0:Int)<256;decide⟩,?_,e.1⟩;have:=e.2;simp at this;show l.length<=s.length;omega;split at h;split at h;cases h;rename_i d q;have m:=d.toNat_lt;cases h;refine⟨⟨?_,?_⟩,qx _,λx a=>by cases a⟩;show(0:Int)<=(d.toNat:Int);omega;show(d.toNat:Int)<256;omega;cases h;refine⟨⟨?_,?_⟩,qx _,λx a=>by cases a⟩;show(0:Int)<=(c.toNat:Int);omega;show(c.toNat:Int)<256;omega
theorem Zh9{s:List UInt8} : ∀ {m i:Nat} {a l:List Glob},Qm m s i a= .ok l->i<=s.length->a.length<=i->(∀g∈a,(0<=g.b/\g.b<256)/\g.sp.length<=s.length/\ ∀x∈g.sp,(0<=x.lo/\x.lo<256)/\(0<=x.hi/\x.hi<256))->
  l.length<=s.length/\ ∀g∈l,(0<=g.b/\g.b<256)/\g.sp.length<=s.length/\ ∀x∈g.sp,(0<=x.lo/\x.lo<256)/\(0<=x.hi/\x.hi<256)
 |0,_,_,_,h,_,_,_=>by cases h
 |m+1,i,a,l,h,k,f,d=>by
  simp only[Qm]at h;split at h;split at h;cases h;rename_i x j e;have n:=Zfp e;refine Zh9 h om (by simp;omega) λg c=> ?_;rcases qA.1 c with c|c;exact d g c;rw[vE]at c;subst c;exact Ztn e;cases h;exact⟨om,d⟩
theorem Zj3(t):(JE t).length<=200/\InG (JE t):=by
 unfold JE;split;exact⟨qx _,⟨dc,λx a=>by cases a⟩,λx a=>by cases a⟩
 .rename_i h
  cases c:Qm (t.length+1) t 0 [] with
  |error e=>exact⟨qx _,⟨by show(0:Nat)<2 ^ 28;decide,λx a=>by cases a⟩,λx a=>by cases a⟩
  |ok l=>
   obtain⟨d,b⟩:=Zh9 c (qx _) (qx _) (λx a=>by cases a);refine⟨by show l.length<=200;omega,⟨by show l.length<_;omega,λx a=> ?_⟩,λx a=>⟨(b x a).1,(b x a).2.2⟩⟩;have:=(b x a).2.1;omega
theorem Zcj{k:Int}{t:List UInt8}(a:mayP k t=true):FewL (ZU::(JO k t++ [ZU])):=by
 unfold mayP at a;unfold JO;by_cases c:(k==0)=true
 .rw[uF c]at a ⊢;have g:(t.length:Int)<=200:=by simpa[leI]using a
  exact Zey (Zf8 t) (by rw[Zdl];omega) (by rw[Wt];omega)
 rw[uE c]at a ⊢;by_cases d:(k==1)=true;rw[uF d]at ⊢;have b:=Zj3 t;have e:=Zh2 (JE t);have f:=Zdk (JE t);exact Zey (Zmi dc _) om om;rw[uE d];by_cases b:(k==2)=true;rw[uF b];refine Zey ?_ ?_ sm;rw[wfRe.wfRes,wfRe.wfRes];exact⟨Zft dc (.inl rfl) (Zrg _ (Zmo t)),trivial⟩;have:=Zo5 t;rw[Qb];unfold Wa;rw[Za8,Zmq];omega;rw[uE b];exact Zey (by rw[wfRe.wfRes];trivial) (by rw[cntN.cntsN];omega) sm
theorem Zxw(r):Zd (Wa r)= [I 7,U 0,U 0,U 0,U 0, .ts (Zd (laterF r)) 1 none,I 0,I 0,I 1]:=by
 unfold Wa;rw[Zn,Zot]
theorem Zxx{A}{a}{l:Nat}{c}{E:Nat}{p:List Re}(L:LY A a l c E p)(hb:p.length<2 ^ 20)(W:FewL (p++ [ZU])){R:V}(N:R=fitV (sevS 4 (p++ [ZU]))){C}(nn:Nat)(u: ∀(n b d f g:Int) (o:List V) (l:Nat) (c:Option Nat) (i j m e:Int),resV UY C ([2,3].zip [.lb [I n,U b,U d,U f,U g, .ts o l c,I i,I j,I m],I e])=some (.tup [.agg [I n,U b,U d,U f,U g, .ts o l c,I i,I j,I m],I e])):
  ∃n b d f g o x s i j m,(PCon UY 53 [] λv=>v= .agg [I n,U b,U d,U f,U g, .ts o x s,I i,I j,I m])/\
   ∃(q:Option (Nat×Nat)) (y:Nat) (t:Option Nat) (w:Nat) (h:Heap),Zk UY A 26 26 (.sl a l c E) (.ts [I n,U b,U d,U f,U g, .ts o x s,I i,I j,I m] 1 (some 1))=some (.sl q y t w,h)/\
   Con UY 43 [.sl q y t w] h λv B=> ∃n b d f g o l c i j m z,v= .tup [.agg [I n,U b,U d,U f,U g, .ts o l c,I i,I j,I m],I z]/\
    Go.Y.Fin UY C [2,3] (λv h=> ∃r,Frz h v r/\r=R) .ret nn [.lb [I n,U b,U d,U f,U g, .ts o l c,I i,I j,I m],I z] B:=by
 refine Vz ZU ZGo λk0 s0 s1 s2 s3 o l0 H lo X n P=> ?_;obtain⟨F,l',G,Z,B,q1,q2⟩:=L.app1 ZU P om;obtain⟨D,O⟩:=ZM0 W q2;exact⟨F,l',G,Z,B,q1,Zre O λk s0 s1 s2 s3 o l H lo X n e A K=>Zxu (u _ _ _ _ _ _ _ _ _ _ _ _) A K N⟩
theorem Zia(k:Int)(t):PCon UY 20 [.agg [I k, .s t]] (· =Zgh k t):=by
 refine Zv UK (fn:=Tryz.f20) rfl ZRw rfl ?_;generalize g:Zgh k t=R;unfold Zgh at g;have f: ∀(n W X Y Z:Int) (A:List V) (l:Nat) (c:Option Nat) (a0 a1 a2 e:Int),resV UY Tryz.f20 ([2,3].zip [.lb [I n,U W,U X,U Y,U Z, .ts A l c,I a0,I a1,I a2],I e])=some (.tup [.agg [I n,U W,U X,U Y,U Z, .ts A l c,I a0,I a1,I a2],I e]):=λ_ _ _ _ _ _ _ _ _ _ _ _=>rfl;refine⟨_,ZBj k t,Zf (λp=> ?_) (λp=> ?_)⟩;have j:mayP k t=false:=su p;rw[uF j]at g;exact Zdp rr rfl (QH _) (.i _ _) g;have j:mayP k t=true:=su p;rw[uE (by rw[j];decide)]at g;have m:=Zcj j;refine Vz ZU ZGo λk0 s0 s1 s2 s3 A l0 cc lo hi n he=> ?_;have d: ∀L:List Re,JO k t=L-> ¬((k==2)=true/\anchB (ereL t)=true)->R=fitV (sevS 4 ((ZU::L)++ [ZU]))/\FewL ((ZU::L)++ [ZU]):=λL hL hn=>by
  rw[uE hn,hL]at g;rw[hL]at m;exact⟨g.symm,m⟩
 refine Zf (λD=> ?_) (λD=>Zf (λE=> ?_) (λE=>Zf (λF=> ?_) (λF=> ?_)))
 .have K:k=0:=su D;subst K;have hl:t.length<=200:=by
   have:leI (t.length:Nat) 200=true:=by unfold mayP at j;simpa using j
   have:(t.length:Int)<=200:=by simpa[leI]using this
   omega
  obtain⟨G,H⟩:=d (Xl t) rfl sm;obtain⟨w,P,z,N,C,q1,q2⟩:=(LY.one (h:=Heap.empty) he).apps (Xl t) (by rw[Wt];simp;omega) none;exact⟨_,_,_,ZDs t om,w,P,z,N,C,q1,Zxx q2 (by simp[Wt];omega) H G _ f⟩
 .have K:k=1:=su E;subst K;obtain⟨G,H⟩:=d (ZX (JE t)) rfl sm;obtain⟨g1,g2⟩:=Zj3 t;have g3:=Zdk (JE t);have o:=Zml t;rw[Zci]at o;obtain⟨w,P,z,N,C,q1,q2⟩:=(LY.one (h:=Heap.empty) he).apps (ZX (JE t)) (by simp;omega) none;exact⟨_,_,_,_,_,o,_,_,_,ZMt (JE t) om g2.ok g2.b,w,P,z,N,C,q1,Zxx q2 (by simp;omega) H G _ f⟩
 .have K:k=2:=su F;subst K;have o:=Zh7 t;rw[Wu]at o;have ha:=(Zxr (B:=1000) dc (ereL t) (Zmo t)).c;have a:=ZDu (B:=1000) dc (ereL t) (Zmo t);unfold LaR at a;have q:JO 2 t= [Wa (ereL t)]:=rfl;have v:=Zxw (ereL t);revert o ha a q v d g;generalize ereL t=x;intro g d o ha a q v;have O:=d _ q;clear d;revert v a;generalize laterF x=y;intro a v;obtain⟨xk,xs,xl,u,r,xn⟩:=x;rw[ZJ]at o ha a;refine⟨_,_,_,_,_,_,_,_,_,_,_,_,_,o,_,ha,Zf (λp=> ?_) (λp=> ?_)⟩;rw[uF ⟨rfl,p⟩]at g;exact Zdp rr rfl (QH _) (.i _ _) g
  .obtain⟨G,H⟩:=O (λhc=>by rw[p]at hc;exact absurd hc.2 dc);refine Vz y a λk0 s0 s1 s2 s3 A l0 cc lo hi n a3=> ?_;rw[a3]at v;obtain⟨w,P,z,N,C,q1,q2⟩:=(LY.one (h:=Heap.empty) he).app [Wa (.mk xk xs xl u r xn)] (new:= [I 7,U 0,U 0,U 0,U 0, .ts [I k0,U s0,U s1,U s2,U s3, .ts A l0 cc,I lo,I hi,I n] 1 (some 1),I 0,I 0,I 1]) (by
    have e:row Zd [Wa (.mk xk xs xl u r xn)]=Zd (Wa (.mk xk xs xl u r xn)):=by simp[row]
    rw[e,v];exact .cons _ _ _ _ (.i _ _) (.cons _ _ _ _ (.i _ _) (.cons _ _ _ _ (.i _ _) (.cons _ _ _ _ (.i _ _) (.cons _ _ _ _ (.i _ _) (.cons _ _ _ _ (.ts _ _ _ none (λx hx=>by cases hx)) (.cons _ _ _ _ (.i _ _) (.cons _ _ _ _ (.i _ _) (.cons _ _ _ _ (.i _ _) .nil))))))))) rfl rfl rfl sm rfl (some 1)
   exact⟨w,P,z,N,C,q1,Zxx q2 sm H G _ f⟩
 .have D:k≠0:=su D;have E:k≠1:=su E;have F:k≠2:=su F;exfalso;unfold mayP at j;rw[uE (su D),uE (su E),uE (su F)]at j;cases j
theorem ZSf{k s0 s1 s2 s3 a nk lo hi gn lv dp nn h}(K):CP UY 95 (B_95.take 8) (.agg (R9 k s0 s1 s2 s3 a nk none lo hi gn)::I lv::I dp::I nn::Rp 206) h [1,2,3,4,10] K=(If (k==(1:Int)) (If (k==(6:Int)) (If (k==(7:Int)) (K .normal 210 [I lv,I dp,I nn, .lb (R9 k s0 s1 s2 s3 a nk none lo hi gn), .lb (R9 k s0 s1 s2 s3 a nk none lo hi gn)] h) (K .normal 210 [I lv,I dp,I nn, .lb (R9 k s0 s1 s2 s3 a nk none lo hi gn), .lb (R9 k s0 s1 s2 s3 a nk none lo hi 0)] h)) (If (k==(7:Int)) (K .normal 210 [I lv,I dp,I nn, .lb (R9 k s0 s1 s2 s3 a nk none lo hi gn), .lb (R9 k s0 s1 s2 s3 a nk none 0 0 gn)] h) (K .normal 210 [I lv,I dp,I nn, .lb (R9 k s0 s1 s2 s3 a nk none lo hi gn), .lb (R9 k s0 s1 s2 s3 a nk none 0 0 0)] h))) (If (k==(6:Int)) (If (k==(7:Int)) (K .normal 210 [I lv,I dp,I nn, .lb (R9 k s0 s1 s2 s3 a nk none lo hi gn), .lb (R9 k 0 0 0 0 a nk none lo hi gn)] h) (K .normal 210 [I lv,I dp,I nn, .lb (R9 k s0 s1 s2 s3 a nk none lo hi gn), .lb (R9 k 0 0 0 0 a nk none lo hi 0)] h)) (If (k==(7:Int)) (K .normal 210 [I lv,I dp,I nn, .lb (R9 k s0 s1 s2 s3 a nk none lo hi gn), .lb (R9 k 0 0 0 0 a nk none 0 0 gn)] h) (K .normal 210 [I lv,I dp,I nn, .lb (R9 k s0 s1 s2 s3 a nk none lo hi gn), .lb (R9 k 0 0 0 0 a nk none 0 0 0)] h)))):=kr
theorem ZSg{k s0 s1 s2 s3 a nk lo hi gn lv dp nn p0 p1 p2 p3 c d e h}(K):CP UY 95 ((B_95.drop 8).take 2) (MZ 210 [1,2,3,4,10] [I lv,I dp,I nn,.lb (R9 k s0 s1 s2 s3 a nk none lo hi gn),.lb (R9 k p0 p1 p2 p3 a nk none c d e)]) h [1,2,3,4,8,9] K=((λf=>If (!(p0==s0&&(p1==s1&&(p2==s2&&(p3==s3&&true))))) f (If (c !=lo) f (If (d !=hi) f (If (e !=gn) f (K .normal 210 [I lv,I dp,I nn, .lb (R9 k s0 s1 s2 s3 a nk none lo hi gn),Ud,Ud] h))))) (K .ret 210 [I lv,I dp,I nn, .lb (R9 k s0 s1 s2 s3 a nk none lo hi gn), .b false,I nn] h)):=kr
theorem ZSh{k s0 s1 s2 s3 a nk lo hi gn lv dp nn h}(K):CP UY 95 ((B_95.drop 10).take 4) (MZ 210 [1,2,3,4] [I lv,I dp,I nn,.lb (R9 k s0 s1 s2 s3 a nk none lo hi gn)]) h [2,3,4,8,9,11,12] K=(If (k==(7:Int)) (((λf=>λd=>If (ltI 9 (wW (nn+(1:Int)))) (If (gn !=(0:Int)) d (If (leI 64 dp) d f)) (If (gn !=wW (nn+(1:Int))) d (If (leI 64 dp) d f))) (K .normal 210 [I (wW (dp+(1:Int))),I (wW (nn+(1:Int))), .lb (R9 k s0 s1 s2 s3 a nk none lo hi gn),Ud,Ud,I 0, .b false] h)) (K .ret 210 [I dp,I (wW (nn+(1:Int))), .lb (R9 k s0 s1 s2 s3 a nk none lo hi gn), .b false,I (wW (nn+(1:Int))),I 0, .b false] h)) ((λc=>If (k==(6:Int)) (If (ltI 2 lv) c (If (ltI lo 0) c (If (ltI 8 lo) c (If (ltI 8 hi) c ((λg=>If (hi !=(-1:Int)) (If (ltI hi lo) c g) g) (K .normal 210 [I dp,I nn, .lb (R9 k s0 s1 s2 s3 a nk none lo hi gn),Ud,Ud,I 4, .b false] h)))))) (If (k==(4:Int)) (If (ltI 1 lv) c (K .normal 210 [I dp,I nn, .lb (R9 k s0 s1 s2 s3 a nk none lo hi gn),Ud,Ud,I 2, .b true] h)) (If (k==(5:Int)) (If (ltI 0 lv) c (K .normal 210 [I dp,I nn, .lb (R9 k s0 s1 s2 s3 a nk none lo hi gn),Ud,Ud,I 1, .b true] h)) (If (ltI 0 nk) c (If (ltI k 0) c (If (ltI 3 k) c ((λe=>If (k==(0:Int)) (If (ltI 1 lv) c (If (lv==(4:Int)) (If (k !=(1:Int)) c e) e)) (If (lv==(4:Int)) (If (k !=(1:Int)) c e) e)) (K .ret 210 [I dp,I nn, .lb (R9 k s0 s1 s2 s3 a nk none lo hi gn), .b true,I nn,I 0, .b false] h)))))))) (K .ret 210 [I dp,I nn, .lb (R9 k s0 s1 s2 s3 a nk none lo hi gn), .b false,I nn,I 0, .b false] h))):=kr
theorem ZSi{k s0 s1 s2 s3 a d lo hi gn dp nn kd c h}(K):CP UY 95 (pre (B_95.drop 14)) (MZ 210 [2,3,4,11,12] [I dp,I nn,.lb (R9 k s0 s1 s2 s3 a d none lo hi gn),I kd,.b c]) h [2,3,4,8,9,11,14] K=((λf=>(λe=>If c (If (ltI (d:Int) (2:Int)) f e) e) ((λg=>If (!c) (If ((↑d:Int) !=(1:Int)) f g) g) (K .normal 210 [I dp,I nn, .lb (R9 k s0 s1 s2 s3 a d none lo hi gn),Ud,Ud,I kd,I 0] h))) (K .ret 210 [I dp,I nn, .lb (R9 k s0 s1 s2 s3 a d none lo hi gn), .b false,I nn,I kd,Ud] h)):=kr
theorem ZSj{k s0 s1 s2 s3 a nk lo hi gn dp nn kd i h}(K):CP UY 95 (lp_ (B_95.drop 14)) (MZ 210 [2,3,4,11,14] [I dp,I nn,.lb (R9 k s0 s1 s2 s3 a nk none lo hi gn),I kd,I i]) h [2,3,4,8,9,11,14] K=(If (ltI i nk) ((0<=i/\i<nk)/\ ∃b c d e f g j l m n o,Zs 9 (List.drop (i.toNat*9) a)=some (R9 b c d e f g j l m n o)/\ ∃p q,(PCon UY 95 [.agg (R9 b c d e f g j l m n o),I kd,I dp,I nn] λv=>v=.tup [.b p,I q])/\If (!p) (K .ret 210 [I dp,I nn, .lb (R9 k s0 s1 s2 s3 a nk none lo hi gn), .b false,I nn,I kd,I i] h) (K .normal 210 [I dp,I q, .lb (R9 k s0 s1 s2 s3 a nk none lo hi gn),Ud,Ud,I kd,I (wW (i+(1:Int)))] h)) (K (.exit 0) 210 [I dp,I nn, .lb (R9 k s0 s1 s2 s3 a nk none lo hi gn),Ud,Ud,I kd,I i] h)):=kr
theorem ZSk{nn h}(K):CP UY 95 ((post (B_95.drop 14)).drop 1) (MZ 210 [3] [I nn]) h [8,9] K=(K .ret 210 [.b true,I nn] h):=kr
theorem WR{Y}(t:YOK Y){c:Nat->Bool}{fuel:Nat}(n k:Nat){a:List Nat}{p:St}{b:List V}{h:Heap}{l:List Code}{Q:Out->St->Prop}{T:(KT)->Prop}
  (d: ∀K,Zc Y c fuel (l.take k) ⟨b,[],h⟩ (VQ a K)=T K) (m:p=⟨b,[],h⟩) (q:(l.drop k).isEmpty=false) (s:T (PreV Y n a (l.drop k) Q)):TriL Y l p Q:=by
 have r:Zc Y c fuel (l.take k) p (VQ a (PreV Y n a (l.drop k) Q)):=by rw[m,d];exact s
 have e:l=l.take k++l.drop k:=(vN k l).symm;rw[e];refine Zaz ((Zbu t _ _ _ _ r).mono ?_);intro o f g;have j:l.drop k≠ []:=λe=>by rw[e]at q;cases q
 cases o with
 |normal=>exact QM j g.1 rfl rfl g.2
 |exit i=>exact g f rfl rfl rfl
 |ret=>exact g f rfl rfl rfl
def endF(R:Bool×Int)(a:Nat)(b:Bool)(g:Int):Bool×Int:=
 if(if b=true then ltI a 2 else !((a:Int)==1))=true then(false,g)else R
def formF:Re->Int->Int->Int->Bool×Int
 | .mk k s a d c n,lv,b,g=>
  if Zea k s d c n=false then(false,g)
  else if(k==7)=true then
   (if(n==if ltI 9 (XR (g+1))=true then 0 else XR (g+1))=true/\leI 64 b=false then endF (kidsG a 0 (XR (b+1)) (XR (g+1))) a.length false (XR (g+1))else(false,XR (g+1)))
  else if(k==6)=true then
   (if ltI 2 lv=true\/ltI d 0=true\/ltI 8 d=true\/ltI 8 c=true\/((c != -1)=true/\ltI c d=true)then(false,g)else endF (kidsG a 4 b g) a.length false g)
  else if(k==4)=true then(if ltI 1 lv=true then(false,g)else endF (kidsG a 2 b g) a.length true g)
  else if(k==5)=true then(if ltI 0 lv=true then(false,g)else endF (kidsG a 1 b g) a.length true g)
  else if ltI 0 a.length=true\/ltI k 0=true\/ltI 3 k=true\/((k==0)=true/\ltI 1 lv=true)\/((lv==4)=true/\(k !=1)=true)then(false,g)else(true,g)
where
 kidsG:List Re->Int->Int->Int->Bool×Int
  | [],_,_,g=>(true,g)
  |r::l,e,b,g=>if(formF r e b g).1=true then kidsG l e b (formF r e b g).2 else(false,g)
def fV(p:Bool×Int):V:= .tup [.b p.1, .i .i64 p.2]
def FoR(r:Re):Prop:= ∀lv a g:Int,PCon UY 95 [.agg (Zd r), .i .i64 lv, .i .i64 a, .i .i64 g] (· =fV (formF r lv a g))
theorem Zto(a:List Re){i:Nat}(d:i<a.length)(c b g:Int):formF.kidsG (a.drop i) c b g=if(formF a[i] c b g).1=true then formF.kidsG (a.drop (i+1)) c b (formF a[i] c b g).2 else(false,g):=by
 rw[Zes d,formF.kidsG]
abbrev xLb(k:Int)(s:S4)(a:List Re)(c b n:Int):V:= .lb [I k,U s.1,U s.2.1,U s.2.2.1,U s.2.2.2,lst Zd a,I c,I b,I n]
theorem ZBk{B:Nat}(hB:B<2 ^ 20){k:Int}{s}{a:List Re}{A z n:Int}(hl:a.length<=B)(ih: ∀x∈a,FoR x):FoR (.mk k s a A z n):=by
 intro lv dp g;rw[ZJ];refine ZF UK (fn:=Tryz.f95) rfl ?_;refine WR UK 210 8 ZSf rfl kr ?_;generalize c:formF (.mk k s a A z n) lv dp g=R;rw[formF]at c;have a9:(B_95.drop 8).drop 2=B_95.drop 10:=by rw[vI]
 have b0:(B_95.drop 10).drop 4=B_95.drop 14:=by rw[vI]
 have j: ∀(l C O:Int) (o:Bool),endF (formF.kidsG a O l C) a.length o C=R->
   PreV UY 210 [2,3,4,8,9,11,12] (B_95.drop 14) (FinS UY Tryz.f95 λv h=> ∃r,Frz h v r/\r=fV R) .normal 210 [I l,I C,xLb k s a A z n, .undef, .undef,I O, .b o] .empty:=by
  intro l C O o hE;refine⟨rfl,?_⟩;refine Zh UK 210 ZSi rfl ?_;have y:(if o=true then ltI a.length 2 else !(((a.length:Nat):Int)==1))=true->PreV UY 210 [2,3,4,8,9,11,14] (post (B_95.drop 14)) (FinS UY Tryz.f95 λv h=> ∃r,Frz h v r/\r=fV R) .ret 210 [I l,I C,xLb k s a A z n, .b false,I C,I O, .undef] .empty:=λw=>
   fin2 rr rfl (.b _) (.i _ _) (by rw[<-hE];unfold endF;rw[uF w];rfl)
  have Y:(if o=true then ltI a.length 2 else !(((a.length:Nat):Int)==1))=false->PreV UY 210 [2,3,4,8,9,11,14] (post (B_95.drop 14)) (FinS UY Tryz.f95 λv h=> ∃r,Frz h v r/\r=fV R) .normal 210 [I l,I C,xLb k s a A z n, .undef, .undef,I O,I 0] .empty:=by
   intro w;have hE:formF.kidsG a O l C=R:=by
    rw[<-hE];unfold endF;rw[uE (by rw[w];decide)]
   refine⟨rfl,ZM [2,3,4,11,14] [2,3,4,8,9,11,14] (λm vs g=> ∃(i:Nat) (gg:Int),vs= [I l,I gg,xLb k s a A z n,I O,I (i:Nat)]/\i<=a.length/\m=a.length-i/\formF.kidsG (a.drop i) O l gg=R) a.length ZA ⟨0,C,rfl,om,om,hE⟩ ?_⟩;rintro m vs g0 ⟨i,gg,rfl,b7,rfl,hk⟩;refine Zm UK ZSj rfl ?_;refine Zq (λW=> ?_) (λb6=> ?_);have E:=ih a[i] (qe W) O l gg;have G:=Za7 W;rw[Zto a W]at hk;generalize formF a[i] O l gg=q at E hk;generalize a[i]=x at E G;obtain⟨xk,xs,xl,b9,b8,xn⟩:=x;rw[Zn]at G;rw[ZJ]at E;refine⟨Zu W,_,_,_,_,_,_,_,_,_,_,_,G,q.1,q.2,E,Zf (λw=> ?_) (λw=> ?_)⟩;have w:q.1=false:=su w;rw[uE (by rw[w];decide)]at hk;exact fin2 rr rfl (.b _) (.i _ _) (by rw[<-hk];rfl);have w:q.1=true:=su w;rw[uF w]at hk;exact⟨rfl,a.length-(i+1),om,i+1,q.2,by rw[Ze om];rfl,om,rfl,hk⟩;have he:i=a.length:=om;subst he;rw[List.drop_length,formF.kidsG]at hk;refine Zj [3] ?_;refine Zo UK ZSk rfl ?_;exact Zdp rr rfl (.b _) (.i _ _) (by rw[<-hk];rfl)
  cases o;refine ifF rfl (ifT rfl (Zf (λN=>y ?_) (λN=>Y ?_)));rw[uE dc];simpa using N;rw[uE dc];simpa using N;refine ifT rfl (Zf (λN=>y ?_) (λN=>ifF rfl (Y ?_)));rw[uF rfl];exact N;rw[uF rfl];exact N
 have XL:Zea k s A z n=true->PreV UY 210 [1,2,3,4,8,9] (B_95.drop 10) (FinS UY Tryz.f95 λv h=> ∃r,Frz h v r/\r=fV R) .normal 210 [I lv,I dp,I g,xLb k s a A z n, .undef, .undef] .empty:=by
  intro a0;rw[uE (by rw[a0];decide)]at c;refine⟨rfl,?_⟩;refine WR UK 210 4 ZSh rfl kr ?_;rw[b0];have d: ∀(b:Bool) (C:Int),(b,C)=R-> ∀(b1 b2 b3 b4 b5:V),PreV UY 210 [2,3,4,8,9,11,12] (B_95.drop 14) (FinS UY Tryz.f95 λv h=> ∃r,Frz h v r/\r=fV R) .ret 210 [b1,b2,b3, .b b,I C,b4,b5] .empty:=λb C hr _ _ _ _ _=>
   fin2 rr rfl (.b _) (.i _ _) (by rw[<-hr];rfl)
  refine Zf (λD=> ?_) (λD=> ?_);rw[uF D]at c;refine Zf (λh9=> ?_) (λh9=> ?_);rw[h9]at c;refine Zf (λhn=>d _ _ ?_ _ _ _ _ _) (λhn=>Zf (λP=>d _ _ ?_ _ _ _ _ _) (λP=>j _ _ _ _ ?_));rw[uE (λE=>by have:=E.1;simp at this;simp[this]at hn)]at c;exact c;rw[uE (λE=>by rw[E.2]at P;cases P)]at c;exact c;rw[uF ⟨su hn,P⟩]at c;exact c;rw[h9]at c;refine Zf (λhn=>d _ _ ?_ _ _ _ _ _) (λhn=>Zf (λP=>d _ _ ?_ _ _ _ _ _) (λP=>j _ _ _ _ ?_));rw[uE (λE=>by have:=E.1;simp at this;simp[this]at hn)]at c;exact c;rw[uE (λE=>by rw[E.2]at P;cases P)]at c;exact c;rw[uF ⟨su hn,P⟩]at c;exact c;rw[uE (by rw[D];decide)]at c;refine Zf (λZ=> ?_) (λZ=> ?_);rw[uF Z]at c;refine Zf (λf=>d _ _ ?_ _ _ _ _ _) (λf=>Zf (λp=>d _ _ ?_ _ _ _ _ _) (λp=>Zf (λt=>d _ _ ?_ _ _ _ _ _) (λt=>Zf (λu=>d _ _ ?_ _ _ _ _ _) (λu=>Zf (λX=>Zf (λF=>d _ _ ?_ _ _ _ _ _) (λF=>j _ _ _ _ ?_)) (λX=>j _ _ _ _ ?_)))));rw[uF (.inl f)]at c;exact c;rw[uF (.inr (.inl p))]at c;exact c;rw[uF (.inr (.inr (.inl t)))]at c;exact c;rw[uF (.inr (.inr (.inr (.inl u))))]at c;exact c;rw[uF (.inr (.inr (.inr (.inr ⟨X,F⟩))))]at c;exact c;rw[uE (by rw[f,p,t,u,F];simp)]at c;exact c;rw[uE (by rw[f,p,t,u,X];simp)]at c;exact c;rw[uE (by rw[Z];decide)]at c;refine Zf (λh4=> ?_) (λh4=> ?_);rw[uF h4]at c;refine Zf (λf=>d _ _ ?_ _ _ _ _ _) (λf=>j _ _ _ _ ?_);rw[uF f]at c;exact c;rw[uE (by rw[f];decide)]at c;exact c;rw[uE (by rw[h4];decide)]at c;refine Zf (λh5=> ?_) (λh5=> ?_);rw[uF h5]at c;refine Zf (λf=>d _ _ ?_ _ _ _ _ _) (λf=>j _ _ _ _ ?_);rw[uF f]at c;exact c;rw[uE (by rw[f];decide)]at c;exact c;rw[uE (by rw[h5];decide)]at c;refine Zf (λf=>d _ _ ?_ _ _ _ _ _) (λf=>Zf (λp=>d _ _ ?_ _ _ _ _ _) (λp=>Zf (λt=>d _ _ ?_ _ _ _ _ _) (λt=>Zf (λu=>Zf (λX=>d _ _ ?_ _ _ _ _ _) (λX=>Zf (λF=>Zf (λa7=>d _ _ ?_ _ _ _ _ _) (λa7=>d _ _ ?_ _ _ _ _ _)) (λF=>d _ _ ?_ _ _ _ _ _))) (λu=>Zf (λF=>Zf (λa7=>d _ _ ?_ _ _ _ _ _) (λa7=>d _ _ ?_ _ _ _ _ _)) (λF=>d _ _ ?_ _ _ _ _ _)))));rw[uF (.inl f)]at c;exact c;rw[uF (.inr (.inl p))]at c;exact c;rw[uF (.inr (.inr (.inl t)))]at c;exact c;rw[uF (.inr (.inr (.inr (.inl ⟨u,X⟩))))]at c;exact c;rw[uF (.inr (.inr (.inr (.inr ⟨F,a7⟩))))]at c;exact c;rw[uE (by rw[f,p,t,X,a7];simp)]at c;exact c;rw[uE (by rw[f,p,t,X,F];simp)]at c;exact c;rw[uF (.inr (.inr (.inr (.inr ⟨F,a7⟩))))]at c;exact c;rw[uE (by rw[f,p,t,u,a7];simp)]at c;exact c;rw[uE (by rw[f,p,t,u,F];simp)]at c;exact c
 have a8: ∀(p0 p1 p2 p3 L K H:Int),((p0==s.1&&(p1==s.2.1&&(p2==s.2.2.1&&(p3==s.2.2.2&&true))))&&(L==A&&K==z)&&H==n)=Zea k s A z n->
   PreV UY 210 [1,2,3,4,10] (B_95.drop 8) (FinS UY Tryz.f95 λv h=> ∃r,Frz h v r/\r=fV R) .normal 210 [I lv,I dp,I g,xLb k s a A z n, .lb [I k,U p0,U p1,U p2,U p3,lst Zd a,I L,I K,I H]] .empty:=by
  intro p0 p1 p2 p3 L K H w;refine⟨rfl,?_⟩;refine WR UK 210 2 ZSg rfl kr ?_;rw[a9];have y:Zea k s A z n=false->PreV UY 210 [1,2,3,4,8,9] (B_95.drop 10) (FinS UY Tryz.f95 λv h=> ∃r,Frz h v r/\r=fV R) .ret 210 [I lv,I dp,I g,xLb k s a A z n, .b false,I g] .empty:=λhf=>
   fin2 rr rfl (.b _) (.i _ _) (by rw[uF hf]at c;rw[<-c];rfl)
  refine Zf (λf=>y ?_) (λf=>Zf (λp=>y ?_) (λp=>Zf (λt=>y ?_) (λt=>Zf (λu=>y ?_) (λu=>XL ?_))))
  .have f:(p0==s.1&&(p1==s.2.1&&(p2==s.2.2.1&&(p3==s.2.2.2&&true))))=false:=by rwa [Bool.not_eq_true']at f
   rw[<-w,f];rfl
  .have p:(L==A)=false:=su p;rw[<-w,p];simp
  .have t:(K==z)=false:=su t;rw[<-w,t];simp
  .have u:(H==n)=false:=su u;rw[<-w,u];simp
  .have f:(p0==s.1&&(p1==s.2.1&&(p2==s.2.2.1&&(p3==s.2.2.2&&true))))=true:=by rwa [Bool.not_eq_false']at f
   have p:(L==A)=true:=su p;have t:(K==z)=true:=su t;have u:(H==n)=true:=su u;rw[<-w,f,p,t,u];rfl
 have c0: ∀x:Int,((0:Int)==x)=(x==0):=λx=>by
  by_cases h:x=0;subst h;rfl
  .have h2:((0:Int)==x)=false:=by
    rw[beq_eq_false_iff_ne];exact λe=>h e.symm
   have h3:(x==0)=false:=by
    rw[beq_eq_false_iff_ne];exact h
   rw[h2,h3]
 refine Zf (λN=>Zf (λZ=>Zf (λD=> ?_) (λD=> ?_)) (λZ=>Zf (λD=> ?_) (λD=> ?_))) (λN=>Zf (λZ=>Zf (λD=> ?_) (λD=> ?_)) (λZ=>Zf (λD=> ?_) (λD=> ?_)))
 all_goals
  refine a8 _ _ _ _ _ _ _ ?_;unfold Zea;rw[N,Z,D]
  first|simp[c0]|skip
mutual
theorem ZM3{B:Nat}(b:B<2 ^ 20): ∀r:Re,wfRe B r->FoR r
 | .mk k s a d c n,h=>by
  rw[wfRe]at h;exact ZBk b h.2.2.1 (ZDv b a h.2.2.2)
theorem ZDv{B:Nat}(b:B<2 ^ 20): ∀l:List Re,wfRe.wfRes B l-> ∀x∈l,FoR x
 | [],_,x,a=>by cases a
 |r::l,h,x,a=>by
  rw[wfRe.wfRes]at h;have c:=ZM3 b r h.1;have d:=ZDv b l h.2;rcases qu.1 a with e|a;exact e▸c;exact d x a
end
end Go.Y
