/- A part of the proof. -/
import Derived.Test.YteennilbmmlikaaGreatDoorYAny3
import Derived.Test.YteennilbmmlikaaGreatDoorYLoop
import Derived.Test.YteennilbmmlikaaGreatDoorGA2
import Derived.Test.YteennilbmmlikaaGreatDoorEE2
import Derived.Test.YteennilbmmlikaaGreatDoorYFrz
namespace Go.Y
open Go.Proofs
set_option maxRecDepth 1000000
set_option maxHeartbeats 0
theorem ZLf{id d h}(K):CP UY 106 (pre (flat (Za Tryz.f106))) (.p (some (id,0))::I d::Rp 20) h [0,1,4,5] K=(Con UY 135 [.p (some (id,0)),I d] h fun(v:V) (k:Heap)=> ∃a b c e f g i j l m n,v=.agg (R9 a b c e f g i j l m n)/\K .normal 22 [.p (some (id,0)),I d, .lb R0,S (some (k.nx,0)) 1 (some 1) 9] (k.push (YObj.arr (R9 a b c e f g i j l m n) true))):=kr
theorem ZLg{id d a5 e f k5 h}(K):CP UY 106 (flat (Zx (post (flat (Za Tryz.f106))))) (MZ 22 [0,1,4,5] [.p (some (id,0)),I d,.lb R0,S a5 e f k5]) h [0,1,4,5] K=(∃a,RCon UY (136:Nat) [.p (some (id,0)),.s [(124:UInt8)]] h (.b a)/\If a (Con UY 137 [.p (some (id,0))] h fun(v:V) (k:Heap)=> ∃b,v=.i .u8 b/\Con UY 135 [.p (some (id,0)),I d] k fun(v:V) (k:Heap)=> ∃c g j l m n o q r t u,v=.agg (R9 c g j l m n o q r t u)/\ ∃w x y z A,Zk UY k 26 26 (S a5 e f k5) (J (R9 c g j l m n o q r t u) 1 (some 1))=some (S w x y z,A)/\K .normal 22 [.p (some (id,0)),I d, .lb R0,S w x y z] A) (K (.exit 0) 22 [.p (some (id,0)),I d, .lb R0,S a5 e f k5] h)):=kr
theorem ZLh{a5 a b k5 h}(K):CP UY 106 ((post (flat (Za Tryz.f106))).drop 1) (MZ 22 [4,5] [.lb R0,S a5 a b k5]) h [4] K=(Con UY 138 [I 5,S a5 a b k5] h fun(v:V) (k:Heap)=> ∃c d e f g i j l m n o,v=.agg (R9 c d e f g i j l m n o)/\K .ret 22 [.lb (R9 c d e f g i j l m n o)] k):=kr
theorem ZLi{id d h}(K):CP UY 135 (pre (flat (Za Tryz.f135))) (.p (some (id,0))::I d::Rp 19) h [0,1,2,4,5] K=(K .normal 21 [.p (some (id,0)),I d,Ud, .lb R0,S0] h):=kr
theorem ZLj{id d a5 l5 c5 k5 h}(K):CP UY 135 (flat (Zx (post (flat (Za Tryz.f135))))) (MZ 21 [0,1,2,4,5] [.p (some (id,0)),I d,V.undef,.lb R0,S a5 l5 c5 k5]) h [0,1,2,4,5] K=(∃a,RCon UY (107:Nat) [.p (some (id,0))] h (.b a)/\If a (∃b,RCon UY (136:Nat) [.p (some (id,0)),.s [(124:UInt8),41]] h (.b b)/\If (!b) (Con UY 170 [.p (some (id,0)),I d] h fun(v:V) (k:Heap)=> ∃c e f g i j l m n o q,v=.agg (R9 c e f g i j l m n o q)/\ ∃r t u w x,Zk UY k 26 26 (S a5 l5 c5 k5) (J (R9 c e f g i j l m n o q) 1 (some 1))=some (S r t u w,x)/\K .normal 21 [.p (some (id,0)),I d,Ud, .lb R0,S r t u w] x) (K (.exit 0) 21 [.p (some (id,0)),I d,Ud, .lb R0,S a5 l5 c5 k5] h)) (K (.exit 0) 21 [.p (some (id,0)),I d,Ud, .lb R0,S a5 l5 c5 k5] h)):=kr
theorem ZLk{a5 l5 c5 k5 h}(K):CP UY 135 ((post (flat (Za Tryz.f135))).drop 1) (MZ 21 [4,5] [.lb R0,S a5 l5 c5 k5]) h [4] K=(Con UY 138 [I 4,S a5 l5 c5 k5] h fun(v:V) (k:Heap)=> ∃a b c d e f g i j l m,v=.agg (R9 a b c d e f g i j l m)/\K .ret 21 [.lb (R9 a b c d e f g i j l m)] k):=kr
theorem ZQ5{s0 h}(K):CP UY 55 (flat (Za Tryz.f55)) (.s s0::Rp 34) h [2,3,4] K=(If (ltI 200 (↑s0.length:Int)) (K .ret 35 [.lb R0,I 200,I 2] h) (Con UY 106 [.p (some (h.nx,0)),I 0] (h.push (YObj.arr [.s s0,I 0,I 0,I 0] true)) fun(v:V) (k:Heap)=> ∃a b c d e f g i j l m,v=.agg (R9 a b c d e f g i j l m)/\ ∃n,RCon UY (107:Nat) [.p (some (h.nx,0))] k (.b n)/\If n (Con UY 108 [.p (some (h.nx,0)),I 1] k fun(v:V) (k:Heap)=>v=.tup []/\ ∃o,Zb k h.nx 3 1=some [I o]/\If (o !=(0:Int)) (∃q,Zb k h.nx 1 1=some [I q]/\ ∃r,Zb k h.nx 3 1=some [I r]/\K .ret 35 [.lb R0,I q,I r] k) (K .ret 35 [.lb (R9 a b c d e f g i j l m),I 0,I 0] k)) (∃o,Zb k h.nx 3 1=some [I o]/\If (o !=(0:Int)) (∃q,Zb k h.nx 1 1=some [I q]/\ ∃r,Zb k h.nx 3 1=some [I r]/\K .ret 35 [.lb R0,I q,I r] k) (K .ret 35 [.lb (R9 a b c d e f g i j l m),I 0,I 0] k)))):=kr
/-! ### times -/
def tmQ(R:Except Nat (Int×Int×Nat))(h:Heap)(c:Nat)(s:List UInt8)(g:Nat)(v:V)(a:Heap):Prop:=
 ∃(x y:Int) (j:Nat) (e:Int),v= .tup [.i .i64 x, .i .i64 y]/\RdE a c s j g e/\FrO h c a/\((e=0/\R= .ok (x,y,j))\/(e=1/\R= .error j))
abbrev digs:List UInt8:= [48,49,50,51,52,53,54,55,56]
theorem ZFm: ∀(a:_root_.Fin 9) (c:_root_.Fin 256),(List.take (9-a.val) (List.drop a.val digs)).contains (UInt8.ofNat c.val)=(decide (48+a.val<=c.val)&&decide (c.val<=56)):=by decide+kernel
theorem ZCj{a:Nat}(d:a<=8)(c:UInt8):(List.take (9-a) (List.drop a digs)).contains c=(decide (48+a<=c.toNat)&&decide (c.toNat<=56)):=by
 have:=ZFm ⟨a,om⟩ ⟨c.toNat,c.toNat_lt⟩;simpa using this
theorem ZLl{a:Nat}(c:a<=8):(fun(x y:Int)=>if y<x then y else x) ((fun(x y:Int)=>if y>x then y else x) (a:Int) 0) 9=(a:Int):=by
 show(if(9:Int)<(if(0:Int)>(a:Int)then(0:Int)else(a:Int))then(9:Int)else(if(0:Int)>(a:Int)then(0:Int)else(a:Int)))=(a:Int);rw[uE (show¬((0:Int)>(a:Int)) from om),uE om]
theorem Zqm{s:List UInt8}{i a:Nat}(e:a<=8):XU s i (a:Nat)=if pk s i (List.take (9-a) (List.drop a digs))=true then .ok ((((s[i]?).getD 0).toNat:Int)-48,i+1)else .error i:=by
 unfold XU pk
 cases s[i]? with
 |none=>rfl
 |some c=>
  simp only[ZCj e,uq];by_cases h:48+a<=c.toNat/\c.toNat<=56
  .rw[uF ⟨om,om,om⟩,uF (by rw[uN h.1,uN h.2];rfl)]
  .rw[uE om,uE];intro d;simp only[qrq,vJ]at d;exact h d
theorem ZLm{h}{F:Nat}{s:List UInt8}{i g:Nat}(r:RdE h F s i g 0)(hs:s.length<2 ^ 27):
  Con UY 188 [.p (some (F,0))] h (tmQ (Xk s i) h F s g):=by
 refine Zv UK (fn:=Tryz.f188) (Zo UK ZKc rfl ?_);generalize k:Xk s i=R;unfold Xk at k;have d0:=Zqm (s:=s) (i:=i) (a:=0) om;rw[show XU s i ((0:Nat):Int)=XU s i 0 from rfl]at d0;have t: ∀(x y:Int) (j:Nat) (e:Int) (w:Heap),RdE w F s j g e->FrO h F w->((e=0/\R= .ok (x,y,j))\/(e=1/\R= .error j))->
   Go.Y.Fin UY Tryz.f188 [2,3] (AfterZ (tmQ R h F s g)) .ret 30 [I x,I y] w:=λx y j e w w1 W X=>finC rr rfl (.now ⟨x,y,j,e,rfl,w1,W,X⟩)
 refine(Zjh r digs om).mono λv h1 o=> ?_;rcases o with ⟨c,_,hc,hm,l,G,B⟩|⟨_,z,l,G,B⟩|⟨m,_⟩
 rotate_left 2
 .exact absurd rfl m
 rotate_left
 ·-- no number
  have z:pk s i (List.take (9-0) (List.drop 0 digs))=false:=z;rw[d0,z]at k;refine⟨_,l,_,Za6 G [44],Zf (λn=>by simp at n) (λ_=> ?_)⟩;refine(Zjh G [125] om).mono λv w o=> ?_;rcases o with ⟨c,m,_⟩|⟨m,_⟩|⟨_,l,w1,W⟩
  .cases m
  .cases m
  .exact⟨_,l,t _ _ i 1 w w1 (B.trans W) (.inr ⟨rfl,k.symm⟩)⟩
 have P:=ZCj (a:=0) om c;rw[show List.take (9-0) (List.drop 0 digs)=digs from rfl,hm]at P;have a4:48<=c.toNat/\c.toNat<=56:=by
  have:=P.symm;simp only[qrq,vJ]at this;omega
 obtain⟨a,ha,N⟩: ∃a:Nat,c.toNat=48+a/\a<=8:=⟨c.toNat-48,om,om⟩;have hp:pk s i (List.take (9-0) (List.drop 0 digs))=true:=by rw[Vs hc];exact hm
 rw[d0,hp,hc]at k;have ev:((((some c:Option UInt8)).getD 0).toNat:Int)-48=((a:Nat):Int):=by simp only[uq];omega
 rw[uF rfl,ev]at k;simp only[]at k;have a6:=(qb.1 hc).1;have w1:wW (c.toNat:Int)=c.toNat:=ZI om om;have W:wW ((c.toNat:Int)-48)=((a:Nat):Int):=by rw[ZI om om];omega
 refine⟨_,l,?_⟩;rw[w1,W];refine⟨_,Za6 G [44],Zf (λn=> ?_) (λn=> ?_)⟩
 rotate_left
 .have n:s[i+1]? ≠some 44:=by
   have n:pk s (i+1) [44]=false:=by simpa using n
   rw[Qw]at n;simpa using n
  rw[uE n]at k;refine(Zjh G [125] om).mono λv w o=> ?_;rcases o with ⟨d,_,X,hm,l,D,A⟩|⟨_,z,l,D,A⟩|⟨m,_⟩
  .have:d=125:=by simpa using hm
   subst this;rw[uF X]at k;exact⟨_,l,t _ _ (i+2) 0 w D (B.trans A) (.inl ⟨rfl,k.symm⟩)⟩
  .have:s[i+1]? ≠some 125:=by rw[Qw]at z;simpa using z
   rw[uE this]at k;exact⟨_,l,t _ _ (i+1) 1 w D (B.trans A) (.inr ⟨rfl,k.symm⟩)⟩
  .exact absurd rfl m
 have n:s[i+1]? =some 44:=by
  have n:pk s (i+1) [44]=true:=by simpa using n
  rw[Qw]at n;simpa using n
 rw[uF n]at k;have a5:=(qb.1 n).1;refine(Zgw G om).mono λv w o=> ?_;rcases o with ⟨d,_,X,l,D,A⟩|⟨_,z,_⟩|⟨m,_⟩
 rotate_left
 .rw[n]at z;cases z
 .exact absurd rfl m
 refine⟨_,l,_,Za6 D [125],Zf (λf=> ?_) (λf=> ?_)⟩
 .have f:s[i+2]? ≠some 125:=by
   have f:pk s (i+2) [125]=false:=by simpa using f
   rw[Qw]at f;simpa using f
  rw[uE f,Zqm N]at k;rw[ZLl N];refine⟨⟨om,by simp;omega⟩,?_⟩;rw[qdq];refine(Zjh D (List.take (9-a) (List.drop a digs)) om).mono λv h3 o=> ?_;rcases o with ⟨O,_,H,a0,l,y1,Z⟩|⟨_,a2,l,y1,Z⟩|⟨m,_⟩
  .have a1:pk s (i+1+1) (List.take (9-a) (List.drop a digs))=true:=by rw[Vs H];exact a0
   rw[a1,uF rfl,H]at k;simp only[uq]at k;have a3:=O.toNat_lt;refine⟨_,l,?_⟩;have v1:wW (O.toNat:Int)=O.toNat:=ZI om om;have v2:wW ((O.toNat:Int)-48)=(O.toNat:Int)-48:=ZI om om;rw[v1,v2];refine(Zjh y1 [125] om).mono λv h4 o=> ?_;rcases o with ⟨d3,_,K,L,l,C,E⟩|⟨_,u,l,C,E⟩|⟨m,_⟩
   .have:d3=125:=by simpa using L
    subst this;rw[uF K]at k;exact⟨_,l,t _ _ (i+1+1+1+1) 0 h4 C (((B.trans A).trans Z).trans E) (.inl ⟨rfl,k.symm⟩)⟩
   .have:s[i+1+1+1]? ≠some 125:=by rw[Qw]at u;simpa using u
    rw[uE this]at k;exact⟨_,l,t _ _ (i+1+1+1) 1 h4 C (((B.trans A).trans Z).trans E) (.inr ⟨rfl,k.symm⟩)⟩
   .exact absurd rfl m
  .rw[a2,uE dc]at k;refine⟨_,l,?_⟩;refine(Zjh y1 [125] om).mono λv h4 o=> ?_;rcases o with ⟨c,m,_⟩|⟨m,_⟩|⟨_,l,C,E⟩
   .cases m
   .cases m
   .exact⟨_,l,t _ _ (i+1+1) 1 h4 C (((B.trans A).trans Z).trans E) (.inr ⟨rfl,k.symm⟩)⟩
  .exact absurd rfl m
 .have f:s[i+2]? =some 125:=by
   have f:pk s (i+2) [125]=true:=by simpa using f
   rw[Qw]at f;simpa using f
  rw[uF f]at k;refine(Zjh D [125] om).mono λv h3 o=> ?_;rcases o with ⟨d3,_,K,L,l,C,E⟩|⟨_,u,_⟩|⟨m,_⟩
  .exact⟨_,l,t _ _ (i+1+1+1) 0 h3 C ((B.trans A).trans E) (.inl ⟨rfl,k.symm⟩)⟩
  .rw[Qw]at u;exact absurd f (by simpa using u)
  .exact absurd rfl m
/-! ### several -/
theorem ZFn(k:Int){d}{h}{a}{l:Nat}{c}{u:Nat}(n:LX Zd 9 h a l c u d){Q:V->Heap->Prop}
  (o: ∀D:List Nat,(∀j,j∈D->a=some (j,0))->Q (.agg (Zd (sevS k d))) (XO h D)):Con UY 138 [I k, .sl a l c u] h Q:=by
 have g:=n.len;by_cases f:d= []
 .have B:=n.nil f;subst f B g;refine Zv UK (fn:=Tryz.f138) (Zo UK ZFc rfl ?_);exact finC rr rfl (Zby (o [] sm))
 .obtain⟨q,rfl,rfl,y,r,v⟩:=n.cells f;refine Zv UK (fn:=Tryz.f138) (Zo UK ZKm rfl ?_);have t:d.length≠0:=λm=>f (qg m);refine Zf (λm=> ?_) (λm=>Zf (λe=> ?_) (λe=> ?_))
  .have:(l:Int)=0:=by simpa using m
   omega
  .have e:(l:Int)=1:=by simpa using e
   obtain⟨x,rfl⟩:=List.length_eq_one_iff.1 (show d.length=1 from om);obtain⟨C,F,E,w,A,G⟩:=x;refine⟨⟨om,om⟩,rfl,_,_,_,_,_,_,_,_,_,_,_,(Zs r 0 9).trans (QO _ _ _ _ _ _),finC rr rfl (.now ?_)⟩;rw[<-ZJ];exact o [] sm
  .have e:(l:Int)≠1:=by simpa using e
   obtain⟨D,hz,z⟩:=n.afterZ dc ZW XJ;refine finC rr rfl (Wo (D:=D) k 0 0 0 (0,0,0,0) d (.frz _ _ hz) ?_);rw[<-Zee k om];exact o D z
structure AllR(n:Nat):Prop where
 alt: ∀ {h:Heap} {id:Nat} {s:List UInt8} {i g d:Nat},RdE h id s i g 0->s.length<2 ^ 27->i<=s.length->g<=i->d<=64->6*(s.length-i)+6<=n->Con UY 106 [.p (some (id,0)),I (d:Nat)] h (reQ (altE n d s i g) h id s)
 row: ∀ {h:Heap} {id:Nat} {s:List UInt8} {i g d:Nat},RdE h id s i g 0->s.length<2 ^ 27->i<=s.length->g<=i->d<=64->6*(s.length-i)+5<=n->Con UY 135 [.p (some (id,0)),I (d:Nat)] h (reQ (rowE n d s i g []) h id s)
 piece: ∀ {h:Heap} {id:Nat} {s:List UInt8} {i g d:Nat},RdE h id s i g 0->s.length<2 ^ 27->i<s.length->g<=i->d<=64->6*(s.length-i)+4<=n->Con UY 170 [.p (some (id,0)),I (d:Nat)] h (reQ (Qg n d s i g) h id s)
 atom: ∀ {h:Heap} {id:Nat} {s:List UInt8} {i g d:Nat},RdE h id s i g 0->s.length<2 ^ 27->i<s.length->g<=i->d<=64->6*(s.length-i)+3<=n->Con UY 187 [.p (some (id,0)),I (d:Nat)] h (reQ (JV n d s i g) h id s)
theorem Zjj(c:UInt8):([42,43,63,123]:List UInt8).contains c=Zi8 c:=by
 unfold Zi8;simp only[List.contains_cons,List.contains_nil,Bool.or_false,Bool.or_assoc]
def grE(n d:Nat)(s:List UInt8)(i g:Nat):PR Re:=match altE n (d+1) s i (g+1) with
 | .error e=> .error e
 | .ok (r,j,a)=>if s[j]? =some 41 then .ok (.mk 7 (0,0,0,0) [r] 0 0 (if g+1<=9 then((g+1:Nat):Int)else 0),j+1,a)else .error (1,j)
theorem ZLn{n:Nat}(ih:AllR n){h}{k:Nat}{s:List UInt8}{i g d:Nat}(r:RdE h k s i g 0)(hs:s.length<2 ^ 27)(hi:i<=s.length)(hg:g+1<=i)(hd:d<64)(X:6*(s.length-i)+6<=n):
  Con UY 193 [.p (some (k,0)),I d] h (reQ (grE n d s i g) h k s):=by
 refine Zv UK (fn:=Tryz.f193) (Zo UK ZKf rfl ?_);generalize f:grE n d s i g=R;unfold grE at f;obtain⟨h2,k1,k2,k3⟩:=r.s2 (g+1);refine⟨_,r.c2,h2,by rw[Ze om];exact k1,_,k2.c2,?_⟩;rw[Ze om];have W:=ih.alt k2 hs hi (show g+1<=i from om) (show d+1<=64 from om) X;have go: ∀(N:Int),N=(if g+1<=9 then((g+1:Nat):Int)else 0)-> ∀(v:V) (a:Heap),reQ (altE n (d+1) s i (g+1)) h2 k s v a-> ∃(H L O A P:Int) (cs:List V) (l:Nat) (c:Option Nat) (C E K:Int),v= .agg [I H,U L,U O,U A,U P, .ts cs l c,I C,I E,I K]/\
   Con UY 196 [.p (some (k,0)), .s [41]] a λv a=> ∃a0:Int,v= .i .u8 a0/\Go.Y.Fin UY Tryz.f193 [4] (AfterZ (reQ R h k s)) .ret 30 [.lb [I 7,U 0,U 0,U 0,U 0, .ts [I H,U L,U O,U A,U P, .ts cs l c,I C,I E,I K] 1 (some 1),I 0,I 0,I N]] a:=by
  rintro N hN v a ⟨x,j,gg,e,rfl,u1,u2,u3⟩;obtain⟨xk,z,xl,o,w,Z⟩:=x;refine⟨_,_,_,_,_,_,_,_,_,_,_,ZJ _ _ _ _ _ _,?_⟩;refine(Zjh u1 [41] om).mono λv h3 y=> ?_;have m: ∀(F:Nat) (e':Int),RdE h3 k s F gg e'->FrO a k h3->((e'=0/\R= .ok (.mk 7 (0,0,0,0) [.mk xk z xl o w Z] 0 0 N,F,gg))\/(e'≠0/\R= .error (e',F)))->
    Go.Y.Fin UY Tryz.f193 [4] (AfterZ (reQ R h k s)) .ret 30 [.lb [I 7,U 0,U 0,U 0,U 0, .ts [I xk,U z.1,U z.2.1,U z.2.2.1,U z.2.2.2,lst Zd xl,I o,I w,I Z] 1 (some 1),I 0,I 0,I N]] h3:=λF e' w1 u hd=>
   finC rr rfl (Wo (D:= []) 7 0 0 N (0,0,0,0) [.mk xk z xl o w Z] (Zbx _ _ (Zm _ _ _ _ _ _) _) ⟨_,F,gg,e',rfl,w1,((k3.trans u2).trans u),hd⟩)
  rcases u3 with ⟨rfl,hr⟩|⟨B,hr⟩
  .rw[hr]at f;simp only[]at f;rcases y with ⟨c,_,W,hm,G,w1,u⟩|⟨_,X,G,w1,u⟩|⟨B,_⟩
   .have:c=41:=by simpa using hm
    subst this;rw[uF W]at f;exact⟨_,G,m (j+1) 0 w1 u (.inl ⟨rfl,by rw[<-f,hN]⟩)⟩
   .have:s[j]? ≠some 41:=by rw[Qw]at X;simpa using X
    rw[uE this]at f;exact⟨_,G,m j 1 w1 u (.inr ⟨dc,f.symm⟩)⟩
   .exact absurd rfl B
  .rw[hr]at f;simp only[]at f;rcases y with ⟨c,t,_⟩|⟨t,_⟩|⟨_,G,w1,u⟩
   .exact absurd t B
   .exact absurd t B
   .exact⟨_,G,m j e w1 u (.inr ⟨B,f.symm⟩)⟩
 refine Xr (λh9=> ?_) (λh9=> ?_)
 .exact W.mono λv a y=>go _ (by rw[uE om]) v a y
 .exact W.mono λv a y=>go _ (by rw[uF om]) v a y
theorem Zjk(S:S4):V.agg (Zd (Qk S))= .agg [I 1,U S.1,U S.2.1,U S.2.2.1,U S.2.2.2, .ts [] 0 none,I 0,I 0,I 0]:=by
 unfold Qk;rw[Zm];rfl
theorem Zwl(c:UInt8):PCon UY 195 [.i .u8 (c.toNat:Nat)] λv=>v= .agg [I 1,U (ZC λx=>x==c.toNat).1,U (ZC λx=>x==c.toNat).2.1,U (ZC λx=>x==c.toNat).2.2.1,U (ZC λx=>x==c.toNat).2.2.2, .ts [] 0 none,I 0,I 0,I 0]:=by
 have:=Zz2 c
 rwa [Zjk]at this
theorem ZQ6{n:Nat}(ih: ∀m,m<n->AllR m){h}{u:Nat}{s:List UInt8}{i g d:Nat}(r:RdE h u s i g 0)(hs:s.length<2 ^ 27)(hi:i<s.length)(hg:g<=i)(hd:d<=64)(O:6*(s.length-i)+3<=n):
  Con UY 187 [.p (some (u,0)),I d] h (reQ (JV n d s i g) h u s):=by
 obtain⟨n,rfl⟩: ∃m,n=m+1:=⟨n-1,om⟩;refine Zv UK (fn:=Tryz.f187) (Zo UK ZKe rfl ?_);have k:s[i]? =some s[i]:=by simp[hi]
 generalize s[i]=c at k;generalize a:JV (n+1) d s i g=R;rw[JV,k]at a;simp only[]at a;have L: ∀(x:Int),x≠0->R= .error (x,i)->Con UY 108 [.p (some (u,0)),I x] h λv y=>v= .tup []/\Go.Y.Fin UY Tryz.f187 [4] (AfterZ (reQ R h u s)) .ret 52 [zLb] y:=λx hx hr=>
  (Zn7 r x).mono λv y ⟨w,t,o⟩=>⟨w,finC rr rfl (Zby ⟨Xs,i,g,x,rfl,by simpa using t,o, .inr ⟨hx,hr⟩⟩)⟩
 refine⟨_,Za6 r [42,43,63,123],Zf (λf=>L 1 dc ?_) (λf=> ?_)⟩
 .have f:pk s i [42,43,63,123]=true:=by simpa using f
  rw[Vs k,Zjj]at f;rw[uF f]at a;exact a.symm
 have f:pk s i [42,43,63,123]=false:=by simpa using f
 rw[Vs k,Zjj]at f;rw[uE (by rw[f];decide)]at a;clear f;have nx: ∀ {P:V->Heap->Prop},(∀y,RdE y u s (i+1) g 0->FrO h u y->P (.i .u8 (c.toNat:Nat)) y)->Con UY 137 [.p (some (u,0))] h P:=λhP=>
  (Zgw r om).mono λv y X=>by
   rcases X with ⟨e,_,A,w,t,o⟩|⟨_,O,_⟩|⟨A,_⟩
   .rw[k]at A;cases A;rw[w];exact hP y t o
   .rw[k]at O;cases O
   .exact absurd rfl A
 refine⟨_,Za6 r [40],Zf (λf=> ?_) (λf=> ?_)⟩
 .have f:c=40:=by
   have f:pk s i [40]=true:=by simpa using f
   rw[Qw,k]at f;simpa using f
  subst f;rw[uF rfl]at a;refine JT (λa0=>L 8 dc ?_) (λa0=> ?_)
  .rw[uF om]at a;exact a.symm
  rw[uE om]at a;refine nx λN t o=>⟨_,rfl,ifT rfl ?_⟩;have Z:grE n d s (i+1) g=R:=a;refine(ZLn (ih n om) t hs om om om om).mono λv C ⟨x,j,gg,e,w,w1,B,W⟩=> ?_;subst w;obtain⟨xk,xs,xl,a1,a2,xn⟩:=x;refine⟨_,_,_,_,_,_,_,_,_,_,_,ZJ _ _ _ _ _ _,finC rr rfl (.now ?_)⟩;rw[<-ZJ];rw[Z]at W;exact⟨_,j,gg,e,rfl,w1,o.trans B,W⟩
 have f:c≠40:=by
  have f:pk s i [40]=false:=by simpa using f
  rw[Qw,k]at f;simpa using f
 rw[uE f]at a;have l: ∀(C:Heap) (x:Re) (j:Nat),RdE C u s j g 0->FrO h u C->R= .ok (x,j,g)->reQ R h u s (.agg (Zd x)) C:=λC x j q1 q2 hr=>⟨x,j,g,0,rfl,q1,q2, .inl ⟨rfl,hr⟩⟩;refine nx λN t o=>⟨_,rfl,Zf (λc5=>absurd (ZO (d:=40) c5) f) (λ_=>Zf (λH=> ?_) (λH=> ?_))⟩
 .have H:=ZO (d:=91) H;rw[uF H]at a;refine(ZLe t hs om).mono λv C ⟨x,j,e,w,w1,B,W⟩=> ?_;subst w;refine⟨_,_,_,_,_,_,_,_,_,_,_,ZJ _ _ _ _ _ _,finC rr rfl (.now ?_)⟩;rw[<-ZJ];rcases W with ⟨rfl,hr⟩|⟨rfl,hr⟩
  .rw[hr]at a;exact⟨_,j,g,0,rfl,w1,o.trans B, .inl ⟨rfl,a.symm⟩⟩
  .rw[hr]at a;exact⟨Qk x,j,g,1,rfl,w1,o.trans B, .inr ⟨dc,a.symm⟩⟩
 have H:=ZH (d:=91) H;rw[uE H]at a;refine Zf (λF=> ?_) (λF=> ?_)
 .have F:=ZO (d:=46) F;rw[uF F]at a;have z:=Zqk (λ_=>false);rw[setOf_no]at z;exact⟨_,_,_,_,z,finC rr rfl (Za2 (ZC λx=> !false) (l N _ (i+1) t o a.symm))⟩
 have F:=ZH (d:=46) F;rw[uE F]at a;refine Zf (λE=> ?_) (λE=> ?_)
 .have E:=ZO (d:=94) E;rw[uF E]at a;exact finC rr rfl (Wo (D:= []) 2 0 0 0 (0,0,0,0) [] (Wn _ _ _) (l N _ (i+1) t o a.symm))
 have E:=ZH (d:=94) E;rw[uE E]at a;refine Zf (λK=> ?_) (λK=> ?_)
 .have K:=ZO (d:=36) K;rw[uF K]at a;exact finC rr rfl (Wo (D:= []) 3 0 0 0 (0,0,0,0) [] (Wn _ _ _) (l N _ (i+1) t o a.symm))
 have K:=ZH (d:=36) K;rw[uE K]at a;refine Zf (λG=> ?_) (λG=> ?_)
 .have G:=ZO (d:=92) G;rw[uF G]at a;refine(Zgw t om).mono λv C X=> ?_;rcases X with ⟨e,_,A,w,w1,B⟩|⟨_,O,w,w1,B⟩|⟨A,_⟩
  .rw[A]at a;refine⟨_,w,_,_,_,_,_,_,_,_,_,_,_,Zwl e,finC rr rfl (.now ?_)⟩;rw[<-Zjk];exact l C _ (i+2) w1 (o.trans B) a.symm
  .rw[O]at a;refine⟨_,w,_,_,_,_,_,_,_,_,_,_,_,Zwl 0,finC rr rfl (.now ?_)⟩;rw[<-Zjk];exact⟨_,i+1,g,1,rfl,w1,o.trans B, .inr ⟨dc,a.symm⟩⟩
  .exact absurd rfl A
 have G:=ZH (d:=92) G;rw[uE G]at a;refine⟨_,_,_,_,_,_,_,_,_,_,_,Zwl c,finC rr rfl (.now ?_)⟩;rw[<-Zjk];exact l N _ (i+1) t o a.symm
theorem ZLo{n:Nat}(ih: ∀m,m<n->AllR m){h}{A:Nat}{s:List UInt8}{i g d:Nat}(r:RdE h A s i g 0)(hs:s.length<2 ^ 27)(N:i<s.length)(hg:g<=i)(hd:d<=64)(hn:6*(s.length-i)+4<=n):
  Con UY 170 [.p (some (A,0)),I d] h (reQ (Qg n d s i g) h A s):=by
 obtain⟨n,rfl⟩: ∃m,n=m+1:=⟨n-1,om⟩;refine Zv UK (fn:=Tryz.f170) (Zo UK ZKd rfl ?_);generalize a:Qg (n+1) d s i g=R;rw[Qg]at a;refine((ih n om).atom r hs N hg hd om).mono λv h1 ⟨x,j,O,e,H,Z,G,u3⟩=> ?_;subst H;obtain⟨t,l,E,f,k,C⟩:=x;have keep: ∀(w:Heap) (u:Nat) (o:Int),RdE w A s u O o->FrO h A w->((o=0/\R= .ok (.mk t l E f k C,u,O))\/(o≠0/\R= .error (o,u)))->
   Go.Y.Fin UY Tryz.f170 [4] (AfterZ (reQ R h A s)) .ret 46 [.lb [I t,U l.1,U l.2.1,U l.2.2.1,U l.2.2.2,lst Zd E,I f,I k,I C]] w:=λw u o q1 q2 q3=>
  finC rr rfl (.now (by rw[<-ZJ];exact⟨_,u,O,o,rfl,q1,q2,q3⟩))
 refine⟨_,_,_,_,_,_,_,_,_,_,_,ZJ _ _ _ _ _ _,_,Za6 Z [42,43,63,123],Zf (λB=>keep h1 j e Z G ?_) (λB=> ?_)⟩
 .rcases u3 with ⟨rfl,hr⟩|⟨F,hr⟩
  .have B:pk s j [42,43,63,123]=false:=by simpa using B
   rw[hr]at a;simp only[]at a;refine .inl ⟨rfl,?_⟩
   cases K:s[j]? with
   |none=>rw[K]at a;exact a.symm
   |some c=>
    rw[K]at a;simp only[]at a;rw[Vs K,Zjj]at B;rw[uE (by rw[B];decide)]at a;exact a.symm
  .rw[hr]at a;exact .inr ⟨F,a.symm⟩
 have a0:e=0/\pk s j [42,43,63,123]=true:=by simpa using B
 obtain⟨rfl,hp⟩:=a0;rcases u3 with ⟨_,hr⟩|⟨F,hr⟩
 rotate_left
 .exact absurd rfl F
 obtain⟨c,hc,hm,a1⟩:=Zwc hp;rw[hr]at a;simp only[]at a;rw[hc]at a;simp only[]at a;rw[Zjj]at hm;rw[uF hm]at a;have P:(t=2\/t=3)->Con UY 108 [.p (some (A,0)),I 1] h1 λv h'=>v= .tup []/\Go.Y.Fin UY Tryz.f170 [4] (AfterZ (reQ R h A s)) .ret 46 [.lb [I t,U l.1,U l.2.1,U l.2.2.1,U l.2.2.2,lst Zd E,I f,I k,I C]] h':=λhk=>
  (Zn7 Z 1).mono λv h' ⟨H,w1,L⟩=>⟨H,keep h' j 1 (by simpa using w1) (G.trans L) (.inr ⟨dc,by rw[uF (show(Re.mk t l E f k C).kind=2\/(Re.mk t l E f k C).kind=3 from hk)]at a;exact a.symm⟩)⟩
 refine Zf (λW=>P (.inl (by simpa using W))) (λW=>Zf (λX=>P (.inr (by simpa using X))) (λX=> ?_));have W:t≠2:=by simpa using W
 have X:t≠3:=by simpa using X
 rw[uE (λhk:(Re.mk t l E f k C).kind=2\/(Re.mk t l E f k C).kind=3=>hk.elim W X)]at a;have z: ∀(w:Heap) (lo N:Int) (u:Nat) (o:Int),RdE w A s u O o->FrO h A w->((o=0/\R= .ok (.mk 6 (0,0,0,0) [.mk t l E f k C] lo N 0,u,O))\/(o≠0/\R= .error (o,u)))->
   Go.Y.Fin UY Tryz.f170 [4] (AfterZ (reQ R h A s)) .ret 46 [.lb [I 6,U 0,U 0,U 0,U 0, .ts [I t,U l.1,U l.2.1,U l.2.2.1,U l.2.2.2,lst Zd E,I f,I k,I C] 1 (some 1),I lo,I N,I 0]] w:=λw lo N u o q1 q2 q3=>
  finC rr rfl (Wo (D:= []) 6 lo N 0 (0,0,0,0) [.mk t l E f k C] (Zbx _ _ (Zm _ _ _ _ _ _) _) ⟨_,u,O,o,rfl,q1,q2,q3⟩)
 refine(Zgw Z om).mono λv w hq=> ?_;rcases hq with ⟨e,_,F,H,w1,L⟩|⟨_,hn,_⟩|⟨F,_⟩
 rotate_left
 .rw[hc]at hn;cases hn
 .exact absurd rfl F
 rw[hc]at F;cases F;refine⟨_,H,Zf (λc1=> ?_) (λc1=>Zf (λc2=> ?_) (λc2=>Zf (λc3=> ?_) (λc3=> ?_)))⟩
 .have c1:=ZO (d:=43) c1;subst c1;rw[uE dc,uF rfl]at a;exact z w 1 (-1) (j+1) 0 w1 (G.trans L) (.inl ⟨rfl,a.symm⟩)
 .have c2:=ZO (d:=63) c2;subst c2;rw[uE dc,uE dc,uF rfl]at a;exact z w 0 1 (j+1) 0 w1 (G.trans L) (.inl ⟨rfl,a.symm⟩)
 .have c3:=ZO (d:=123) c3;subst c3;rw[uE dc,uE dc,uE dc]at a;refine(ZLm w1 hs).mono λv h3 ⟨x,y,u,o,H,z1,z2,z3⟩=>⟨_,_,H,?_⟩;rcases z3 with ⟨rfl,B⟩|⟨rfl,B⟩
  .rw[B]at a;exact z h3 x y u 0 z1 ((G.trans L).trans z2) (.inl ⟨rfl,a.symm⟩)
  .rw[B]at a;exact z h3 x y u 1 z1 ((G.trans L).trans z2) (.inr ⟨dc,a.symm⟩)
 .have d1:=ZH (d:=43) c1;have d2:=ZH (d:=63) c2;have d3:=ZH (d:=123) c3;have:c=42:=by simpa[Zi8,d1,d2,d3]using hm
  subst this;rw[uF rfl]at a;exact z w 0 (-1) (j+1) 0 w1 (G.trans L) (.inl ⟨rfl,a.symm⟩)
end Go.Y
namespace Go.Y
set_option maxRecDepth 1000000
set_option maxHeartbeats 0
mutual
inductive WkD:V->V->Prop
 |same (v:V):WkD v v
 |nil (c:Option Nat) (k:Nat):WkD (.sl none 0 c k) (.ts [] 0 none)
 |ts (cs cs':List V) (n:Nat) (c:Option Nat) (h:WkDs cs cs'):WkD (.ts cs n c) (.ts cs' n none)
 |agg (cs cs':List V) (h:WkDs cs cs'):WkD (.agg cs) (.agg cs')
inductive WkDs:List V->List V->Prop
 |nil:WkDs [] []
 |cons (v v':V) (l l':List V) (h:WkD v v') (hl:WkDs l l'):WkDs (v::l) (v'::l')
end
mutual
theorem WkD.vr{W}{v v'}(h:WkD v v'){u:Value}(r:VR W v u):VR W v' u:=by
 cases h with
 |same=>exact r
 |nil c k=>cases r;exact .tsz _ (λc h=>by cases h)
 |ts t g n c h=>
  cases r with
  |tsn _ _ a d j f=>cases h;exact .tsn _ _ a d j (λc h=>by cases h)
  |tsz _ f=>cases h;exact .tsz _ (λc h=>by cases h)
  |ts _ _ _ d blk off c e fr l j m o f hr=>exact .ts _ _ _ d blk off c e fr l j (λc h=>by cases h) o f (WkDs.vr h hr)
 |agg t g h=>cases r with|agg _ l w=>exact .agg _ _ (WkDs.vr h w)
theorem WkDs.vr{W}{l a}(h:WkDs l a){c:List Value}(r:VRs W l c):VRs W a c:=by
 cases h with
 |nil=>cases r;exact .nil
 |cons v v' l a h f=>cases r with|cons _ _ _ _ e d=>exact .cons _ _ _ _ (WkD.vr h e) (WkDs.vr f d)
end
theorem PCon.wkD{Y}{f:FuncId}{args args'}{P:V->Prop}(d:WkDs args args')(h:PCon Y f args' P):PCon Y f args P:=
 ⟨h.body,λW w c a e g=>h.tr W w c a e (d.vr g)⟩
end Go.Y
namespace Go.Y
open Go.Proofs
set_option maxRecDepth 1000000
set_option maxHeartbeats 0
theorem LX.frz{t:Type}{f:t->List V}{k:Nat}{h}{a}{l:Nat}{c}{r:Nat}{d:List t}(v:k≠0)(m: ∀x,(f x).length=k)(g: ∀x,Xb (f x)=true)(o:LX f k h a l c r d):
  Frz h (.sl a l c r) (lst f d):=by
 have e:=o.len;by_cases j:d= []
 .have y:=o.nil j;subst j y e;exact .sln _ _ _ (λx n=>by cases n)
 .obtain⟨z,rfl,rfl,w,u,_⟩:=o.cells j;subst e;exact .sl _ _ _ _ _ (row f d) true (row f d) _ _ u (by rw[ql];exact ZD (Xh m d).symm) (λx n=>by cases n) v (Xc _ (Je g d))
theorem Vt(x){f:FuncId}{args}(c:PCon UY f args (· = .agg (Zd x))){K:Int->Int->Int->Int->Int->List V->Nat->Option Nat->Int->Int->Int->Prop}
  (B: ∀k r s1 s2 s3 j l u w t n,Zd x= [I k,U r,U s1,U s2,U s3, .ts j l u,I w,I t,I n]->K k r s1 s2 s3 j l u w t n):
  ∃n g h m a j l c o d e,(PCon UY f args λv=>v= .agg [I n,U g,U h,U m,U a, .ts j l c,I o,I d,I e])/\K n g h m a j l c o d e:=by
 obtain⟨E,D,F,z,A,C⟩:=x;exact⟨_,_,_,_,_,_,_,_,_,_,_,c.mono λv y=>by rw[y];exact ZJ _ _ _ _ _ _,B _ _ _ _ _ _ _ _ _ _ _ (Zm _ _ _ _ _ _)⟩
theorem Zoa(h)(x:Re){cs}(a:Zd x=cs):Frz h (.agg cs) (.agg (Zd x)):=by rw[<-a];exact Zb9 h x
theorem Zwm(a c:Int)(f:0<=a/\a<256)(e:0<=c/\c<256):PCon UY 94 [.ts [.i .u8 a, .i .u8 c] 1 (some 1)] (· = .agg (Zd (Vp [⟨a,c⟩]))):=
 PCon.wkD (.cons _ _ _ _ (.ts _ _ _ _ (.cons _ _ _ _ (.same _) (.cons _ _ _ _ (.same _) .nil))) .nil) (ZCi [⟨a,c⟩] sm (λx d=>by simp at d;subst d;exact⟨f,e⟩))
theorem anyT:PCon UY 100 [] (· = .agg (Zd Vq)):=by
 refine Zw UK (fn:=Tryz.f100) rfl ZKp rfl ?_;have h:=Zwm 0 255 dc dc;rw[Zsh]at h;exact Vt Vq h λk g s1 s2 s3 c l f d e n a=>ZB rr rfl (Zoa _ _ a) rfl
theorem ZFo:PCon UY 53 [] (· = .agg (Zd ZS)):=by
 refine Zw UK (fn:=Tryz.f53) rfl ZQn rfl ?_;refine Vt Vq anyT λk j s1 s2 s3 d l g f h n a=>ZB rr rfl ?_ rfl;have e:Zd ZS= [I 6,U 0,U 0,U 0,U 0,lst Zd [Vq],I 0,I (-1),I 0]:=by unfold ZS;rw[Zm]
 rw[e,Znz,a];exact .agg _ _ (.cons _ _ _ _ (.i _ _) (.cons _ _ _ _ (.i _ _) (.cons _ _ _ _ (.i _ _) (.cons _ _ _ _ (.i _ _) (.cons _ _ _ _ (.i _ _) (.cons _ _ _ _ (.ts _ _ _ none (λx c=>by cases c)) (.cons _ _ _ _ (.i _ _) (.cons _ _ _ _ (.i _ _) (.cons _ _ _ _ (.i _ _) .nil)))))))))
theorem ZCk(s:List UInt8)(A:s.length<2 ^ 28):PCon UY 44 [.s s] (· =lst Zd (ZK s)):=by
 refine ZG UK (fn:=Tryz.f44) rfl ?_;refine Zh UK 24 ZQh rfl ?_;refine⟨rfl,ZN [0,3,6,7] [0,3,6,7] (λm t h=> ∃(i:Nat) (a:Option (Nat×Nat)) (l:Nat) (c:Option Nat) (k:Nat),t= [.s s, .sl a l c k,I (s.length:Nat),I (i:Nat)]/\i<=s.length/\m=s.length-i/\LX Zd 9 h a l c k (ZK (s.take i))) s.length ZA ⟨0,none,0,some 0,0,rfl,om,om,LX.start _ _ _ _ _⟩ ?_⟩;rintro m t h ⟨i,a,l,c,k,rfl,G,rfl,g⟩;refine Zn UK ZQi rfl ?_;refine Zq (λd=> ?_) (λy=> ?_)
 .have E:=s[i].toNat_lt;have e:=Zwm (s[i].toNat:Nat) (s[i].toNat:Nat) ⟨om,om⟩ ⟨om,om⟩;rw[Zsg]at e;refine⟨s[i],Za1 d,s[i],Za1 d,Vt (Qh s[i]) e λD C s1 s2 s3 N B H L z n f=> ?_⟩;obtain⟨u,j,r,o,v,x,w,F,K⟩:=Zhl (Qh s[i]) f g (by rw[Jh,uO];omega);exact⟨u,j,r,o,v,x,rfl,s.length-(i+1),om,i+1,u,j,r,o,by rw[Ze om];rfl,om,rfl,by rw[Zn5 s d];exact w⟩
 .have f:i=s.length:=om;subst f;rw[qm]at g;refine Zj [3] ?_;refine Zo UK ZQj rfl ?_;exact ZB rr rfl (g.frz dc ZW XJ) rfl
theorem ZCl(d:List Glob)(hl:d.length<2 ^ 28)(Z:okG d)(hb: ∀g∈d,(0<=g.b/\g.b<256)/\ ∀x∈g.sp,(0<=x.lo/\x.lo<256)/\(0<=x.hi/\x.hi<256)):PCon UY 49 [lst encG d] (· =lst Zd (ZP d)):=by
 refine ZG UK (fn:=Tryz.f49) rfl ?_;refine Zh UK 48 ZQk rfl ?_;refine⟨rfl,ZN [3,6,7,8] [3,6,7,8] (λm H h=> ∃(i:Nat) (a:Option (Nat×Nat)) (l:Nat) (c:Option Nat) (k:Nat),H= [.sl a l c k,lst encG d,I (d.length:Nat),I (i:Nat)]/\i<=d.length/\m=d.length-i/\LX Zd 9 h a l c k (ZP (d.take i))) d.length ZA ⟨0,none,0,some 0,0,rfl,om,om,LX.start _ _ _ _ _⟩ ?_⟩;rintro m H h ⟨i,a,l,c,k,rfl,hi,rfl,G⟩;refine Zn UK ZQl rfl ?_;refine Zq (λo=> ?_) (λa0=> ?_)
 .have N:=hb d[i] (qe o);have D:(ZP (d.take i)).length<2 ^ 29:=by
   have:=VW (d.take i);rw[uO]at this;omega
  refine⟨Zu o,d[i].k,d[i].b,row encS d[i].sp,d[i].sp.length,none,by rw[qdq,Xp (f:=encG) (k:=3) VP o],?_⟩;have step: ∀(x:Re),XW d[i]= [x]-> ∀z:List V,Zd x=z-> ∃(E:Option (Nat×Nat)) (A:Nat) (C:Option Nat) (B:Nat) (F:Heap),Zk UY h 26 26 (.sl a l c k) (.ts z 1 (some 1))=some (.sl E A C B,F)/\
    XE UY 48 [3,6,7,8] [3,6,7,8] (λm H h=> ∃(i:Nat) (a:Option (Nat×Nat)) (l:Nat) (c:Option Nat) (k:Nat),H= [.sl a l c k,lst encG d,I (d.length:Nat),I (i:Nat)]/\i<=d.length/\m=d.length-i/\LX Zd 9 h a l c k (ZP (d.take i))) (d.length-i) (Xd (post (flat (Za Tryz.f49)))) ((post (flat (Za Tryz.f49))).drop 1) (FinS UY Tryz.f49 λv h=> ∃r,Frz h v r/\r=lst Zd (ZP d)) .normal 48 [.sl E A C B,lst encG d,I (d.length:Nat),I (wW ((i:Nat)+1))] F:=by
   intro x P z t;obtain⟨E,A,C,B,F,q1,q2,q3,q4⟩:=Zhl x t G D;exact⟨E,A,C,B,F,q1,rfl,d.length-(i+1),om,i+1,E,A,C,B,by rw[Ze om];rfl,om,rfl,by rw[Zfu d o,P];exact q2⟩
  refine Zf (λe=> ?_) (λe=>Zf (λj=> ?_) (λj=>Zf (λu=> ?_) (λu=>Zf (λw=> ?_) (λw=> ?_))))
  .have e:d[i].k=0:=by simpa using e
   exact Vt _ (Zwm d[i].b d[i].b N.1 N.1) λO L s1 s2 s3 z K W X y n t=>step _ (by unfold XW;rw[uF e]) _ t
  .have e:d[i].k≠0:=by simpa using e
   have j:d[i].k=1:=by simpa using j
   exact Vt _ anyT λO L s1 s2 s3 z K W X y n t=>step _ (by unfold XW;rw[uE e,uF j]) _ t
  .have e:d[i].k≠0:=by simpa using e
   have j:d[i].k≠1:=by simpa using j
   have u:d[i].k=2:=by simpa using u
   exact Vt _ ZFo λO L s1 s2 s3 z K W X y n t=>step _ (by unfold XW;rw[uE e,uE j,uF u]) _ t
  .have e:d[i].k≠0:=by simpa using e
   have j:d[i].k≠1:=by simpa using j
   have u:d[i].k≠2:=by simpa using u
   have w:d[i].k=3:=by simpa using w
   exact Vt _ (ZCi d[i].sp (by have:=Z.2 d[i] (qe o);omega) N.2) λO L s1 s2 s3 z K W X y n t=>step _ (by unfold XW;rw[uE e,uE j,uE u,uF w]) _ t
  .have e:d[i].k≠0:=by simpa using e
   have j:d[i].k≠1:=by simpa using j
   have u:d[i].k≠2:=by simpa using u
   have w:d[i].k≠3:=by simpa using w
   refine⟨rfl,d.length-(i+1),om,i+1,a,l,c,k,by rw[Ze om];rfl,om,rfl,?_⟩;rw[Zfu d o];have:XW d[i]= []:=by unfold XW;rw[uE e,uE j,uE u,uE w]
   rw[this,qi];exact G
 .have t:i=d.length:=om;subst t;rw[qm]at G;refine Zj [3] ?_;refine Zo UK ZQm rfl ?_;exact ZB rr rfl (G.frz dc ZW XJ) rfl
theorem Zcb{Y}{fn}{a:List Nat}{o:Out}{n:Nat}{vs}{h}{v1 c r1 d R:V}(f:o= .normal\/o= .ret)(e:resV Y fn (a.zip vs)=some (.tup [v1,c]))(g:Frz h v1 r1)(j:Frz h c d)(hr: .tup [r1,d]=R):
  Go.Y.Fin Y fn a (λv h=> ∃r,Frz h v r/\r=R) o n vs h:=⟨f,_,e,_, .tup _ _ (.cons _ _ _ _ g (.cons _ _ _ _ j .nil)),hr⟩
theorem ZLp{a:List Re}(h:a.length≠0)(c:a.length≠1):sevS 4 a= .mk 4 (0,0,0,0) a 0 0 0:=Zee 4 om
theorem rowT{l}(o:FewL l):PCon UY 43 [lst Zd l] (· =fitV (sevS 4 l)):=by
 have e:=Zn3 (B:=1000) dc o.re o.txt;refine Zw UK (fn:=Tryz.f43) rfl ZQg rfl ?_;unfold fitV;generalize c:sevS 4 l=S at e;refine Zf (λd=> ?_) (λd=>Zf (λa=> ?_) (λa=> ?_))
 .have d:l.length=0:=by simpa using d
  have r:l= []:=qg d;subst r;have c:S=Xs:=c.symm;subst c;refine⟨mayE Xs,PCon.wkD (.cons _ _ _ _ (.agg _ _ ?_) .nil) e,?_⟩
  .unfold Xs;rw[Zm];exact .cons _ _ _ _ (.same _) (.cons _ _ _ _ (.same _) (.cons _ _ _ _ (.same _) (.cons _ _ _ _ (.same _) (.cons _ _ _ _ (.same _) (.cons _ _ _ _ (.nil _ _) (.cons _ _ _ _ (.same _) (.cons _ _ _ _ (.same _) (.cons _ _ _ _ (.same _) .nil))))))))
  .cases mayE Xs
   .exact ifT rfl (Zcb rr rfl (Qx _) (.i _ _) rfl)
   .exact ifF rfl (Zcb rr rfl (Qx _) (.i _ _) rfl)
 .have a:l.length=1:=by
   have a:(l.length:Int)=1:=by simpa using a
   omega
  obtain⟨x,rfl⟩:=List.length_eq_one_iff.1 a;have c:S=x:=c.symm;subst c;obtain⟨j,h,m,g,f,n⟩:=S;rw[ZJ]at e;have k:=QO j h m g f n;rw[ql]at k;refine⟨⟨om,sm⟩,_,_,_,_,_,_,_,_,_,_,_,k,_,e,?_⟩;cases mayE (.mk j h m g f n)
  .exact ifT rfl (Zcb rr rfl (Qx _) (.i _ _) rfl)
  .refine ifF rfl ?_;refine Zcb rr rfl ?_ (.i _ _) rfl;rw[<-ZJ];exact Zb9 _ _
 .have d:l.length≠0:=by simpa using d
  have a:l.length≠1:=by
   have a: ¬(l.length:Int)=1:=by simpa using a
   omega
  rw[ZLp d a]at c;subst c;rw[ZJ]at e;refine⟨_,e,?_⟩;cases mayE (.mk 4 (0,0,0,0) l 0 0 0)
  .exact ifT rfl (Zcb rr rfl (Qx _) (.i _ _) rfl)
  .refine ifF rfl ?_;refine Zcb rr rfl ?_ (.i _ _) rfl;exact Zoa _ _ (by rw[Zm])
theorem ZQ7{k s0 s1 s2 s3 b nk lo hi gn h}(K):CP UY 57 (pre (flat (Za Tryz.f57))) (.agg (R9 k s0 s1 s2 s3 b nk none lo hi gn)::Rp 37) h [1,2,23,24,25] K=(If (k==(7:Int)) (If (ltI 0 gn) (((10:Int)=(0:Int)->False)/\((Con UY 109 [J b nk none] h fun(v:V) (f:Heap)=> ∃a c d e,v=S a c d e/\K .normal 38 [.lb [I k,U s0,U s1,U s2,U s3,S a c d e,I lo,I hi,I ((wW (gn+(1:Int))).tmod (10:Int))], .lb R0,S a c d e,I (c:Int),I 0] f)\/ ∃a c d,(PCon UY 109 [J b nk none] λv=>v=J a c d)/\K .normal 38 [.lb [I k,U s0,U s1,U s2,U s3,J a c d,I lo,I hi,I ((wW (gn+(1:Int))).tmod (10:Int))], .lb R0,J a c d,I (c:Int),I 0] h)) ((Con UY 109 [J b nk none] h fun(v:V) (f:Heap)=> ∃a c d e,v=S a c d e/\K .normal 38 [.lb [I k,U s0,U s1,U s2,U s3,S a c d e,I lo,I hi,I gn], .lb R0,S a c d e,I (c:Int),I 0] f)\/ ∃a c d,(PCon UY 109 [J b nk none] λv=>v=J a c d)/\K .normal 38 [.lb (R9 k s0 s1 s2 s3 a c d lo hi gn), .lb R0,J a c d,I (c:Int),I 0] h)) ((Con UY 109 [J b nk none] h fun(v:V) (f:Heap)=> ∃a c d e,v=S a c d e/\K .normal 38 [.lb [I k,U s0,U s1,U s2,U s3,S a c d e,I lo,I hi,I gn], .lb R0,S a c d e,I (c:Int),I 0] f)\/ ∃a c d,(PCon UY 109 [J b nk none] λv=>v=J a c d)/\K .normal 38 [.lb (R9 k s0 s1 s2 s3 a c d lo hi gn), .lb R0,J a c d,I (c:Int),I 0] h)):=kr
theorem ZQ8{k s0 s1 s2 s3 lo hi q l c g2 l2 i h}(K):CP UY 57 (flat (Zx (post (flat (Za Tryz.f57))))) (MZ 38 [1,2,23,24,25] [.lb [I k,U s0,U s1,U s2,U s3,S (some (q,0)) l c 9,I lo,I hi,I g2],.lb R0,S (some (q,0)) l c 9,I l2,I i]) h [1,2,23,24,25] K=(If (ltI i l2) ((0<=i/\i<l)/\9=9/\ ∃a b d e f g j m n o p,Zb h q ((0:Nat)+i.toNat*9) 9=some (R9 a b d e f g j m n o p)/\ ∃r s t u w x y z A B C,(PCon UY 57 [.agg (R9 a b d e f g j m n o p)] fun(v:V)=>v=.agg (R9 r s t u w x y z A B C))/\(0<=i/\i<l)/\9=9/\ ∃D,Zi h q ((0:Nat)+i.toNat*9) (R9 r s t u w x y z A B C)=some D/\K .normal 38 [.lb [I k,U s0,U s1,U s2,U s3,S (some (q,0)) l c 9,I lo,I hi,I g2], .lb R0,S (some (q,0)) l c 9,I l2,I (wW (i+(1:Int)))] D) (K (.exit 0) 38 [.lb [I k,U s0,U s1,U s2,U s3,S (some (q,0)) l c 9,I lo,I hi,I g2], .lb R0,S (some (q,0)) l c 9,I l2,I i] h)):=kr
theorem ZQ9(k s0 s1 s2 s3 lo hi g2)(i:Int)(a b c d h K):CP UY 57 ((post (flat (Za Tryz.f57))).drop 1) (MZ 38 [1,2] [.lb [I k,U s0,U s1,U s2,U s3,S a b c d,I lo,I hi,I g2],.lb R0]) h [2] K=(K .ret 38 [.lb [I k,U s0,U s1,U s2,U s3,S a b c d,I lo,I hi,I g2]] h):=kr
theorem ZLq{k s0 s1 s2 s3 lo hi g2 l2 i h}(K):CP UY 57 (flat (Zx (post (flat (Za Tryz.f57))))) (MZ 38 [1,2,23,24,25] [.lb [I k,U s0,U s1,U s2,U s3,J [] 0 none,I lo,I hi,I g2],.lb R0,J [] 0 none,I l2,I i]) h [1,2,23,24,25] K=(If (ltI i l2) (((0:Int)<=i/\i<(↑(0:Nat):Int))/\ ∃a b c d e f g j l m n,Zr 9 (List.drop (i.toNat*9) [])=some (R9 a b c d e f g j l m n)/\ ∃o p q r s t u w x y z,(PCon UY 57 [.agg (R9 a b c d e f g j l m n)] fun(v:V)=>v=.agg (R9 o p q r s t u w x y z))/\((0:Int)<=i/\i<(↑(0:Nat):Int))/\False) (K (.exit 0) 38 [.lb [I k,U s0,U s1,U s2,U s3,J [] 0 none,I lo,I hi,I g2], .lb R0,J [] 0 none,I l2,I i] h)):=kr
theorem ZLr(k s0 s1 s2 s3 lo hi g2)(i:Int)(h K):CP UY 57 ((post (flat (Za Tryz.f57))).drop 1) (MZ 38 [1,2] [.lb [I k,U s0,U s1,U s2,U s3,J [] 0 none,I lo,I hi,I g2],.lb R0]) h [2] K=(K .ret 38 [.lb [I k,U s0,U s1,U s2,U s3,J [] 0 none,I lo,I hi,I g2]] h):=kr
theorem ZCm{b g h}(K):CP UY 109 (flat (Za Tryz.f109)) (J b g none::Rp 7) h [2] K=((g=0->K .ret 8 [S0] h)/\((∃a c d e f,Zk UY h 26 26 (J [] 0 (some 0)) (J b g none)=some (S a c d e,f)/\K .ret 8 [S a c d e] f)\/Zk UY h 26 26 (J [] 0 (some 0)) (J b g none)=some (J [] 0 (some 0),h)/\K .ret 8 [J [] 0 (some 0)] h)):=kr
theorem ZRa{c d h}(K):CP UY 52 (flat (Za Tryz.f52)) (.agg [I c,.s d]::Rp 10) h [2] K=(Con UY 104 [.agg [I c,.s d]] h fun(v:V) (e:Heap)=> ∃a b,v=.tup [.p a,.b b]/\K .ret 11 [.b b] e):=kr
theorem ZLs{a d h}(K):CP UY 104 (flat (Za Tryz.f104)) (.agg [I a,.s d]::Rp 55) h [2,3] K=(If (a==(0:Int)) (K .ret 56 [.p (some (h.nx,0)), .b (leI (↑d.length:Int) (200:Int))] (h.push (YObj.arr [I a,.s d,S0,I 0,U 0,U 0,U 0,U 0,S0,I 0,I 0,I 0] true))) (If (a==(1:Int)) (∃b c e f g,(PCon UY 54 [.s d] fun(v:V)=>v=.tup [J b c e,I f,I g])/\ ∃i,Zi (h.push (YObj.arr [I a,.s d,S0,I 0,U 0,U 0,U 0,U 0,S0,I 0,I 0,I 0] true)) h.nx 2 [J b c e]=some i/\K .ret 56 [.p (some (h.nx,0)), .b (g==(0:Int))] i) (If (a==(2:Int)) (∃b c e f g i j l m n o q r,(PCon UY 55 [.s d] fun(v:V)=>v=.tup [.agg (R9 b c e f g i j l m n o),I q,I r])/\ ∃t,Zi (h.push (YObj.arr [I a,.s d,S0,I 0,U 0,U 0,U 0,U 0,S0,I 0,I 0,I 0] true)) h.nx 3 (R9 b c e f g i j l m n o)=some t/\If (r==(0:Int)) (∃u w x y z k D A F E C,Zb t h.nx 3 9=some (R9 u w x y z k D A F E C)/\ ∃B,(PCon UY 29 [.agg (R9 u w x y z k D A F E C)] λv=>v=.b B)/\K .ret 56 [.p (some (h.nx,0)), .b B] t) (K .ret 56 [.p (some (h.nx,0)), .b false] t)) (K .ret 56 [.p (some (h.nx,0)), .b false] (h.push (YObj.arr [I a,.s d,S0,I 0,U 0,U 0,U 0,U 0,S0,I 0,I 0,I 0] true)))))):=kr
theorem ZRb{a d h}(K):CP UY 15 (flat (Za Tryz.f15)) (.agg [I a,.s d]::Rp 43) h [2] K=(If (a==(0:Int)) (K .ret 44 [.b (leI (↑d.length:Int) (200:Int))] h) (If (a==(1:Int)) (∃b c e f g,(PCon UY 24 [.s d] fun(v:V)=>v=.tup [J b c e,I f,I g])/\K .ret 44 [.b (g==(0:Int))] h) (If (a==(2:Int)) (∃b c e f g i j l m n o p q,(PCon UY 8 [.s d] fun(v:V)=>v=.tup [.agg (R9 b c e f g i j l m n o),I p,I q])/\If (q==(0:Int)) (∃r,(PCon UY 42 [.agg (R9 b c e f g i j l m n o)] λv=>v=.b r)/\K .ret 44 [.b r] h) (K .ret 44 [.b false] h)) (K .ret 44 [.b false] h)))):=kr
end Go.Y
