/- A part of the proof. -/
import Derived.Test.YteennilbmmlikaaGreatDoorYLoop
import Derived.Test.YteennilbmmlikaaGreatDoorYAny3
import Derived.Test.YteennilbmmlikaaGreatDoorYTryhP
import Derived.Test.YteennilbmmlikaaGreatDoorGSpanC
import Derived.Test.YteennilbmmlikaaGreatDoorGRule
namespace Go.Y
open Go.Proofs
set_option maxRecDepth 1000000
set_option maxHeartbeats 0
theorem ZRy(a:List UInt8)(h:Heap)(K:KT):(Zc UY (UY.loc 54) 100 (pre (flat (Za Tryz.f54))) ⟨(.s a::List.replicate 33 .undef),[],h⟩ (VQ [0,2,3,4,5,6] K))=(If (ltI 200 (↑a.length:Int)) (K .ret 34 [.s a,S0,I 200,I 2,Ud,Ud] h) (K .normal 34 [.s a,S0,I 0,I 0, p_P h.nx,S0] (h.push (YObj.arr [.s a,I 0,.b false] true)))):=kr
theorem ZRz(j:List UInt8)(d:Nat)(m)(q:Nat)(o)(p:Nat)(h)(K:KT):(Zc UY (UY.loc 54) 100 ((lp_ (flat (Za Tryz.f54)))) ⟨mk 34 (([0,5,6]:List Nat).zip [.s j,p_P d,S m q o p]),[],h⟩ (VQ [0,2,3,4,5,6] K))=(∃n,Zb h d 1 1=some [I n]/\If (ltI n (↑j.length:Int)) (Con UY 105 [p_P d] h fun(v:V) (t:Heap)=> ∃n g r l c,v=.agg [I n,.i .u8 g,J r l c]/\ ∃a f e k h,Zk UY t 56 56 (S m q o p) (J [I n,.i .u8 g,J r l c] 1 (some 1))=some (S a f e k,h)/\ ∃b,Zb h d 2 1=some [.b b]/\If b (∃n,Zb h d 1 1=some [I n]/\K .ret 34 [.s j,S0,I n,I 1, p_P d,S a f e k] h) (K .normal 34 [.s j,Ud,Ud,Ud, p_P d,S a f e k] h)) (K (.exit 0) 34 [.s j,Ud,Ud,Ud, p_P d,S m q o p] h)):=kr
theorem ZR0(a)(d:Nat)(b)(c:Nat)(h)(K:KT):(Zc UY (UY.loc 54) 100 (((post (flat (Za Tryz.f54))).drop 1)) ⟨mk 34 (([6]:List Nat).zip [S a d b c]),[],h⟩ (VQ [2,3,4] K))=(K .ret 34 [S a d b c,I 0,I 0] h):=kr
theorem ZR1(a:List UInt8)(h)(K:KT):(Zc UY (UY.loc 24) 100 (pre B_24) ⟨(.s a::List.replicate 70 .undef),[],h⟩ (VQ [0,2,3,4,5,6] K))=(If (ltI 200 (↑a.length:Int)) (K .ret 71 [.s a,S0,I 200,I 2,Ud,Ud] h) (K .normal 71 [.s a,S0,I 0,I 0,S0,I 0] h)):=kr
theorem ZR2(o:List UInt8)(d)(e:Nat)(f)(g:Nat)(b:Int)(h)(K:KT):(Zc UY (UY.loc 24) 100 ((lp_ B_24)) ⟨mk 71 (([0,5,6]:List Nat).zip [.s o,S d e f g,I b]),[],h⟩ (VQ [0,2,3,4,5,6] K))=(If (ltI b (↑o.length:Int)) (∃c,(0<=b/\o[b.toNat]? =some c)/\If ((↑c.toNat:Int)==42) (∃a l c k j,Zk UY h 56 56 (S d e f g) (J [I 2,.i .u8 0,S0] 1 (some 1))=some (S a l c k,j)/\K .normal 71 [.s o,Ud,Ud,Ud,S a l c k,I (wW (b+1))] j) (If ((↑c.toNat:Int)==63) (∃a l c k j,Zk UY h 56 56 (S d e f g) (J [I 1,.i .u8 0,S0] 1 (some 1))=some (S a l c k,j)/\K .normal 71 [.s o,Ud,Ud,Ud,S a l c k,I (wW (b+1))] j) (If ((↑c.toNat:Int)==91) (∃r l c n q,(PCon UY 62 [.s o,I (wW (b+1))] fun(v:V)=>v=.tup [J r l c,I n,I q])/\If (ltI n 0) (K .ret 71 [.s o,S0,I q,I 1,S d e f g,I (wW (b+1))] h) (∃a p m k j,Zk UY h 56 56 (S d e f g) (J [I 3,.i .u8 0,J r l c] 1 (some 1))=some (S a p m k,j)/\K .normal 71 [.s o,Ud,Ud,Ud,S a p m k,I n] j)) (If ((↑c.toNat:Int)==92) (If (leI (↑o.length:Int) (wW (b+1))) (K .ret 71 [.s o,S0,I (wW (b+1)),I 1,S d e f g,I (wW (b+1))] h) (∃c,(0<=wW (b+1)/\o[(wW (b+1)).toNat]? =some c)/\ ∃a l m k j,Zk UY h 56 56 (S d e f g) (J [I 0,.i .u8 (↑c.toNat:Int),S0] 1 (some 1))=some (S a l m k,j)/\K .normal 71 [.s o,Ud,Ud,Ud,S a l m k,I (wW (wW (b+1)+1))] j)) (∃a l m k j,Zk UY h 56 56 (S d e f g) (J [I 0,.i .u8 (↑c.toNat:Int),S0] 1 (some 1))=some (S a l m k,j)/\K .normal 71 [.s o,Ud,Ud,Ud,S a l m k,I (wW (b+1))] j))))) (K (.exit 0) 71 [.s o,Ud,Ud,Ud,S d e f g,I b] h)):=kr
theorem ZR3(a)(b:Nat)(c)(d:Nat)(h)(K:KT):(Zc UY (UY.loc 24) 100 (((post B_24).drop 1)) ⟨mk 71 (([5]:List Nat).zip [S a b c d]),[],h⟩ (VQ [2,3,4] K))=(K .ret 71 [S a b c d,I 0,I 0] h):=kr
theorem ZR4(a b h K):CP UY 50 (pre (flat (Za Tryz.f50))) (J a b none::Rp 15) h [0,3] K=(K .normal 16 [J a b none,I 0] h):=kr
theorem ZR5(a n0 x3 h K):CP UY 50 (lp_ (flat (Za Tryz.f50))) (MZ 16 [0,3] [J a n0 none,I x3]) h [0,2,3] K=(If (ltI x3 n0) ((0<=x3/\x3<n0)/\ ∃b c d e f,Zs 3 (List.drop (x3.toNat*3) a)=some [I b,.i .u8 c,J d e f]/\ ∃g,(PCon UY 101 [.agg [I b,.i .u8 c,J d e f]] fun(v:V)=>v=.b g)/\If (!g) (K .ret 16 [J a n0 none, .b false,I x3] h) (K .normal 16 [J a n0 none,Ud,I (wW (x3+1))] h)) (K (.exit 0) 16 [J a n0 none,Ud,I x3] h)):=kr
theorem ZR6(h K):CP UY 50 ((post (flat (Za Tryz.f50))).drop 1) (MZ 16 [] []) h [2] K=(K .ret 16 [.b true] h):=kr
theorem ZMc(a d e c h K):CP UY 101 (pre (flat (Za Tryz.f101))) (.agg [I a,.i .u8 d,J e c none]::Rp 53) h [1,2,3] K=(If (a==0) (K .ret 54 [.lb [I a, .i .u8 d,J e c none], .b ((↑c:Int)==0),Ud] h) (If (d !=0) (K .ret 54 [.lb [I a, .i .u8 d,J e c none], .b false,Ud] h) (If (ltI a 1) (K .ret 54 [.lb [I a, .i .u8 d,J e c none], .b false,Ud] h) (If (ltI 3 a) (K .ret 54 [.lb [I a, .i .u8 d,J e c none], .b false,Ud] h) (If (!(a==3)==ltI 0 c) (K .ret 54 [.lb [I a, .i .u8 d,J e c none], .b false,Ud] h) (K .normal 54 [.lb [I a, .i .u8 d,J e c none], .b false,I 0] h)))))):=kr
theorem ZMd(d e c a x3 h K):CP UY 101 (lp_ (flat (Za Tryz.f101))) (MZ 54 [1,3] [.lb [I d,.i .u8 e,J c a none],I x3]) h [1,2,3] K=(If (ltI x3 a) ((0<=x3/\x3<a)/\ ∃f,Zs 1 (List.drop 0 (List.drop (x3.toNat*2) c))=some [.i .u8 f]/\(0<=x3/\x3<a)/\ ∃g,Zs 1 (List.drop 1 (List.drop (x3.toNat*2) c))=some [.i .u8 g]/\If (ltI g f) (K .ret 54 [.lb [I d, .i .u8 e,J c a none], .b false,I x3] h) (K .normal 54 [.lb [I d, .i .u8 e,J c a none],Ud,I (wW (x3+1))] h)) (K (.exit 0) 54 [.lb [I d, .i .u8 e,J c a none],Ud,I x3] h)):=kr
theorem ZMe(h K):CP UY 101 ((post (flat (Za Tryz.f101))).drop 1) (MZ 54 [] []) h [2] K=(K .ret 54 [.b true] h):=kr
def ZMf(r:Except Nat (Glob×Nat))(h:Heap)(b:Nat)(s:List UInt8)(v:V)(a:Heap):Prop:=match r with
 | .error e=> ∃x:Glob,v= .agg (encG x)/\Rd a b s e true/\FrO h b a
 | .ok (x,j)=>v= .agg (encG x)/\Rd a b s j false/\FrO h b a
theorem Zch{h}{k b:Int}{Q}(a:Q (.agg (encG ⟨k,b,[]⟩)) h):AfterZ Q (.agg [I k, .i .u8 b, .sl none 0 (some 0) 0]) h:=
 ⟨[],_, .inl (.agg _ _ (.cons _ _ _ _ (.same _) (.cons _ _ _ _ (.same _) (.cons _ _ _ _ (.frz _ _ (.sln _ _ none (λx c=>by cases c))) .nil)))),a⟩
theorem Zxl{h}{p:Nat}{s:List UInt8}{i:Nat}(r:Rd h p s i false)(B:s.length<2 ^ 28)(A:i<s.length):
  Con UY 105 [p_P p] h (ZMf (Xx s i) h p s):=by
 refine Zx UK (fn:=Tryz.f105) (ZG UK (loc:=UY.loc 105) 100 [2] ?_);rw[show(⟨[p_P p]++List.replicate (Tryz.f105.ntmps- [p_P p].length) .undef,[],h⟩:St)=⟨p_P p::List.replicate 24 .undef,[],h⟩ by rfl,ZMb];refine(Zev r om om).mono λv C ⟨x,o,k⟩=>⟨_,x,?_⟩;have a:s[i]? =some s[i]:=by simp[A]
 simp only[Zby,a]at o ⊢;rw[show(42:Int)=(((42:UInt8).toNat:Nat):Int) from dc,show(63:Int)=(((63:UInt8).toNat:Nat):Int) from dc,show(91:Int)=(((91:UInt8).toNat:Nat):Int) from dc,show(92:Int)=(((92:UInt8).toNat:Nat):Int) from dc,Js,Js,Js,Js];refine WY (λc=>finC rr rfl (Zch ?_)) (λc=> ?_);simp only[Xx,a,c,vG];exact⟨rfl,o,k⟩;refine WY (λg=>finC rr rfl (Zch ?_)) (λg=> ?_);unfold Xx;rw[a];simp only[];rw[uE c,uF g];exact⟨rfl,o,k⟩;refine WY (λn=> ?_) (λn=> ?_)
 .refine(ZGj o B om).mono λv z w=> ?_
  cases u:setS (s.length+1) s (i+1) [] with
  |error e=>
   have m:Xx s i= .error e:=by unfold Xx;rw[a];simp only[];rw[uE c,uE g,uF n,u]
   rw[u]at w;obtain⟨rfl,f,q⟩:=w;refine⟨_,_,_,rfl,finC rr rfl (.now ?_)⟩;rw[m];exact⟨⟨3,0,[]⟩,rfl,f,k.trans q⟩
  |ok y=>
   obtain⟨l,j⟩:=y;have m:Xx s i= .ok (⟨3,0,l⟩,j):=by unfold Xx;rw[a];simp only[];rw[uE c,uE g,uF n,u]
   rw[u]at w;obtain⟨rfl,f,q⟩:=w;refine⟨_,_,_,rfl,finC rr rfl (.now ?_)⟩;rw[m];exact⟨rfl,f,k.trans q⟩
 refine WY (λt=> ?_) (λt=>finC rr rfl (Zch ?_))
 .refine(Zev o om om).mono λv z ⟨x,f,q⟩=>⟨_,x,finC rr rfl (Zch ?_)⟩
  cases b:s[i+1]? with
  |none=>
   have m:Xx s i= .error (i+1):=by unfold Xx;rw[a];simp only[];rw[uE c,uE g,uE n,uF t,b]
   simp only[Zby,b]at f ⊢;rw[m];exact⟨_,rfl,f,k.trans q⟩
  |some d=>
   have m:Xx s i= .ok (⟨0,d.toNat,[]⟩,i+2):=by unfold Xx;rw[a];simp only[];rw[uE c,uE g,uE n,uF t,b]
   simp only[Zby,b]at f ⊢;rw[m];exact⟨rfl,f,k.trans q⟩
 .simp only[Xx,a,c,g,n,t,vF];exact⟨rfl,o,k⟩
def Zh4(s:List UInt8):V:=
 if 200<s.length then .tup [lst encG [], .i .i64 200, .i .i64 2]else match Qm (s.length+1) s 0 [] with
  | .error e=> .tup [lst encG [], .i .i64 (e:Nat), .i .i64 1]
  | .ok l=> .tup [lst encG l, .i .i64 0, .i .i64 0]
def ZMg(s:List UInt8)(R:Except Nat (List Glob))(m:Nat)(e:List V)(h:Heap):Prop:=
 ∃(d i:Nat) (b:List Glob) (a:Option (Nat×Nat)) (l:Nat) (c:Option Nat) (k:Nat),e= [.s s, p_P d, .sl a l c k]/\Lst encG 3 h a l c k b/\(∀j,a=some (j,0)->d<j)/\
  Rd h d s i false/\i<=s.length/\b.length<=i/\s.length-i<m/\Qm m s i b=R
theorem Zjz{h}{a}{l:Nat}{c}{o:Nat}{f:List Glob}(x:Glob){b:List V}(u:b.length=3)(r:Zp b=true)(d:ZZ b=true)(s:FrzL .empty b (encG x))(t:Lst encG 3 h a l c o f)(q:f.length<2 ^ 29):
  ∃g p m n k,Zk UY h 56 56 (.sl a l c o) (.ts b 1 (some 1))=some (.sl g p m n,k)/\Lst encG 3 k g p m n (f++ [x])/\Fr h a k/\ ∃j,g=some (j,0)/\h.nx<=j:=
 Lst.app1 (Y:=UY) (e:=59) (te:=⟨3,40, .struct [(0,3),(1,5),(2,57)],[I 0, .i .u8 0, .sl none 0 (some 0) 0]⟩) x kr kr rfl dc t s d u r dc q
theorem Zml(s):PCon UY 54 [.s s] (· =Zh4 s):=by
 refine ZF UK (fn:=Tryz.f54) rfl ?_;refine Xm UK (n:=34) (loc:=UY.loc 54) 100 [0,2,3,4,5,6] kr ?_;rw[show(⟨[.s s]++List.replicate (Tryz.f54.ntmps- [V.s s].length) .undef,[], .empty⟩:St)=⟨.s s::List.replicate 33 .undef,[], .empty⟩ by rfl,ZRy];unfold Zh4;refine Xr (λt=> ?_) (λA=> ?_);rw[uF om];exact fin3 rr rfl (Jq encG _ _ _) (.i _ _) (.i _ _) rfl;have hs:s.length<=200:=om;rw[uE om];generalize hR:Qm (s.length+1) s 0 []=R;refine⟨rfl,ZM [0,5,6] [0,2,3,4,5,6] (ZMg s R) (s.length+1) ZA
  ⟨_,0,[],none,0,some 0,0,rfl,Lst.nil _ _ _ _ _,sm,⟨by simp[qk],sm⟩,om,sm,om,hR⟩ ?_⟩
 rintro m vs h ⟨g,i,P,a,l,c,k,rfl,z,p,O,hi,a1,hm,r⟩;refine ZW UK (loc:=UY.loc 54) 100 [0,2,3,4,5,6] ?_;rw[ZRz];obtain⟨m,rfl⟩: ∃m',m=m'+1:=⟨m-1,om⟩;have a0:=z.len;refine⟨_,O.c1,Zq (λt=> ?_) (λA=> ?_)⟩
 .refine(Zxl O om t).mono λv X G=> ?_;simp only[Qm,t,vG]at r;have d:FrO h g X-> ∀j,a=some (j,0)->j<h.nx->X.get j=h.get j:=λf j N hl=>f.2 j hl (λe=>by have:=p j N;omega);have C: ∀o,a≠some (g,o):=by
   intro o Y;have h0:=z.off Y;subst h0;have:=p g Y;omega
  cases L:Xx s i with
  |error e=>
   rw[L]at G r;obtain⟨x,rfl,q,u⟩:=G;obtain⟨E,K,F,H,w,W,Z,D,j,q4,q5⟩:=Zjz x rfl rfl rfl (Xa _ rfl) (z.fr u.1 (d u)) om;have b:Rd w g s e true:=⟨by rw[D.2 g q.lt C];exact q.get,qv q.lt D.1⟩;refine⟨_,_,_,_,_,rfl,E,K,F,H,w,W,true,b.c2,?_⟩;refine⟨_,b.c1,?_⟩;subst r;exact fin3 rr rfl (Jq encG _ _ _) (.i _ _) (.i _ _) rfl
  |ok y=>
   obtain⟨x,j⟩:=y;rw[L]at G r;have N:=Zfp L;obtain⟨rfl,q,u⟩:=G;obtain⟨E,K,F,H,w,W,Z,D,jj,q4,q5⟩:=Zjz x rfl rfl rfl (Xa _ rfl) (z.fr u.1 (d u)) om;have b:Rd w g s j false:=⟨by rw[D.2 g q.lt C];exact q.get,qv q.lt D.1⟩;refine⟨_,_,_,_,_,rfl,E,K,F,H,w,W,false,b.c2,rfl,m,om,g,j,P++ [x],E,K,F,H,rfl,Z,?_,b,N.2,by simp;omega,om,r⟩;intro j' B;rw[q4]at B;cases B;have:=O.lt;have:=u.1;omega
 .refine Zj [6] ?_;refine ZG UK (loc:=UY.loc 54) 100 [2,3,4] ?_;rw[show pick [0,2,3,4,5,6] [6] [V.s s,V.undef,V.undef,V.undef,p_P g,V.sl a l c k]= [V.sl a l c k] by rfl,ZR0];simp only[Qm,Nat.not_lt.2 A,vF]at r;subst r;exact Zju rr rfl (z.frz dc VT) (.i _ _) (.i _ _) rfl
def Zxm(s:List UInt8)(R:Except Nat (List Glob))(m:Nat)(d:List V)(h:Heap):Prop:=
 ∃(i:Nat) (b:List Glob) (a:Option (Nat×Nat)) (l:Nat) (c:Option Nat) (k:Nat),d= [.s s, .sl a l c k, .i .i64 (i:Nat)]/\Lst encG 3 h a l c k b/\
  i<=s.length/\b.length<=i/\s.length-i<m/\Qm m s i b=R
theorem ZBe(k b:Int):FrzL .empty [I k, .i .u8 b, .sl none 0 (some 0) 0] (encG ⟨k,b,[]⟩):=
 .cons _ _ _ _ (.i _ _) (.cons _ _ _ _ (.i _ _) (.cons _ _ _ _ (.sln _ _ none (λx a=>by cases a)) .nil))
theorem Zh5(s):PCon UY 24 [.s s] (· =Zh4 s):=by
 refine ZF UK (fn:=Tryz.f24) rfl ?_;refine Xm UK (n:=71) (loc:=UY.loc 24) 100 [0,2,3,4,5,6] kr ?_;rw[show(⟨[.s s]++List.replicate (Tryz.f24.ntmps- [V.s s].length) .undef,[], .empty⟩:St)=⟨.s s::List.replicate 70 .undef,[], .empty⟩ by rfl,ZR1];unfold Zh4;refine Xr (λg=> ?_) (λA=> ?_);rw[uF om];exact fin3 rr rfl (Jq encG _ _ _) (.i _ _) (.i _ _) rfl;have hs:s.length<=200:=om;rw[uE om];generalize Z:Qm (s.length+1) s 0 []=R;refine⟨rfl,ZM [0,5,6] [0,2,3,4,5,6] (Zxm s R) (s.length+1) ZA
  ⟨0,[],none,0,some 0,0,rfl,Lst.nil _ _ _ _ _,om,sm,om,Z⟩ ?_⟩
 rintro m vs h ⟨i,H,a,l,c,k,rfl,G,hi,a3,hm,f⟩;refine ZW UK (loc:=UY.loc 24) 100 [0,2,3,4,5,6] ?_;rw[ZR2];obtain⟨m,rfl⟩: ∃m',m=m'+1:=⟨m-1,om⟩;have a2:=G.len;refine Zq (λg=> ?_) (λA=> ?_)
 .have b:s[i]? =some s[i]:=by simp[g]
  simp only[Qm,g,vG]at f;have more: ∀(x:Glob) (j:Nat) (d:List V),Xx s i= .ok (x,j)->d.length=3->Zp d=true->ZZ d=true->FrzL .empty d (encG x)-> ∀K:Int,K=(j:Nat)->
    ∃(u:Option (Nat×Nat)) (C:Nat) (w:Option Nat) (B:Nat) (z:Heap),Zk UY h 56 56 (.sl a l c k) (.ts d 1 (some 1))=some (.sl u C w B,z)/\
     XF UY 71 [0,2,3,4,5,6] [0,5,6] (Zxm s R) (m+1) (Xb (post B_24)) ((post B_24).drop 1)
      (FinS UY Tryz.f24 λv h=> ∃r,Frz h v r/\r=match R with| .error e=> .tup [lst encG [],I e,I 1]| .ok l=> .tup [lst encG l,I 0,I 0])
      .normal 71 [.s s, .undef, .undef, .undef, .sl u C w B,I K] z:=by
   rintro x j d p P W X Y K rfl;have hj:=Zfp p;obtain⟨u,C,w,B,O,q1,q2,_⟩:=Zjz x P W X Y G om;rw[p]at f;exact⟨u,C,w,B,O,q1,rfl,m,om,j,H++ [x],u,C,w,B,rfl,q2,hj.2,by simp;omega,om,f⟩
  refine⟨s[i],⟨om,by simp[g]⟩,?_⟩;rw[show(42:Int)=(((42:UInt8).toNat:Nat):Int) from dc,show(63:Int)=(((63:UInt8).toNat:Nat):Int) from dc,show(91:Int)=(((91:UInt8).toNat:Nat):Int) from dc,show(92:Int)=(((92:UInt8).toNat:Nat):Int) from dc,Js,Js,Js,Js,Ze om];refine WY (λo=> ?_) (λo=> ?_);exact more ⟨2,0,[]⟩ (i+1) _ (by unfold Xx;rw[b];simp only[];rw[uF o]) rfl rfl rfl (ZBe _ _) _ rfl;refine WY (λq=> ?_) (λq=> ?_);exact more ⟨1,0,[]⟩ (i+1) _ (by unfold Xx;rw[b];simp only[];rw[uE o,uF q]) rfl rfl rfl (ZBe _ _) _ rfl;refine WY (λt=> ?_) (λt=> ?_)
  .have E:=Zl7 s (i+1) om om
   cases F:setS (s.length+1) s (i+1) [] with
   |error e=>
    have p:Xx s i= .error e:=by unfold Xx;rw[b];simp only[];rw[uE o,uE q,uF t,F]
    rw[F]at E;rw[p]at f;refine⟨_,_,_,_,_,E,Xr (λ_=> ?_) (λh=>om)⟩;subst f;exact fin3 rr rfl (Jq encG _ _ _) (.i _ _) (.i _ _) rfl
   |ok y=>
    obtain⟨N,j⟩:=y;have p:Xx s i= .ok (⟨3,0,N⟩,j):=by unfold Xx;rw[b];simp only[];rw[uE o,uE q,uF t,F]
    rw[F]at E;exact⟨_,_,_,_,_,E,Xr (λh=>om) (λ_=>more ⟨3,0,N⟩ j _ p rfl rfl rfl (Xa _ rfl) _ rfl)⟩
  refine WY (λD=> ?_) (λD=> ?_)
  .refine JU (λa1=> ?_) (λa0=> ?_)
   .have p:Xx s i= .error (i+1):=by unfold Xx;rw[b];simp only[];rw[uE o,uE q,uE t,uF D,qq om]
    rw[p]at f;subst f;exact fin3 rr rfl (Jq encG _ _ _) (.i _ _) (.i _ _) rfl
   .have L:i+1<s.length:=om;refine⟨s[i+1],⟨om,by rw[show(((i+1:Nat):Int)).toNat=i+1 from om];simp[L]⟩,?_⟩;rw[Ze om];exact more ⟨0,s[i+1].toNat,[]⟩ (i+2) _ (by unfold Xx;rw[b];simp only[];rw[uE o,uE q,uE t,uF D];simp[L]) rfl rfl rfl (ZBe _ _) _ rfl
  .exact more ⟨0,s[i].toNat,[]⟩ (i+1) _ (by unfold Xx;rw[b];simp only[];rw[uE o,uE q,uE t,uE D]) rfl rfl rfl (ZBe _ _) _ rfl
 .refine Zj [5] ?_;refine ZG UK (loc:=UY.loc 24) 100 [2,3,4] ?_;rw[show pick [0,2,3,4,5,6] [5] [V.s s,V.undef,V.undef,V.undef,V.sl a l c k,I i]= [V.sl a l c k] by rfl,ZR3];simp only[Qm,Nat.not_lt.2 A,vF]at f;subst f;exact Zju rr rfl (G.frz dc VT) (.i _ _) (.i _ _) rfl
end Go.Y
namespace Go.Y
set_option maxRecDepth 1000000
set_option maxHeartbeats 0
def Zdo(g:Glob)(c:Int):Bool:=if g.k=0 then g.b==c else g.k==1||g.sp.any λx=>leI x.lo c&&leI c x.hi
def M:List Glob->List UInt8->Bool
 | [],[]=>true
 | [],_::_=>false
 |g::l,[]=>g.k==2&&M l []
 |g::l,c::r=>if g.k=2 then M l (c::r)||M (g::l) r else Zdo g c.toNat&&M l r
termination_by l s=>(l.length,s.length)
theorem Zmj(g:Glob)(d:g.k=2)(l)(s:List UInt8):M (g::l) s=true↔ ∃t,t<:+s/\M l t=true:=by
 induction s with
 |nil=>
  rw[M,d];simp
 |cons c r e=>
  rw[M,uF d];simp only[uS,e];constructor;rintro(h|⟨t,a,b⟩);exact⟨_,List.suffix_refl _,h⟩;exact⟨t,a.trans (List.suffix_cons c r),b⟩;rintro⟨t,a,b⟩;rcases List.suffix_cons_iff.1 a with rfl|a;exact .inl b;exact .inr ⟨t,a,b⟩
theorem Zxg(g:Glob)(a:g.k≠2)(l)(s:List UInt8):M (g::l) s=true↔ ∃c r,s=c::r/\Zdo g c.toNat=true/\M l r=true:=by
 cases s with
 |nil=>rw[M];simp[a]
 |cons c r=>
  rw[M,uE a,qrq];exact⟨λh=>⟨c,r,rfl,h⟩,fun⟨c',r',he,h⟩=>by cases he;exact h⟩
theorem WQ: ∀(l m:List Glob) (s:List UInt8),M (l++m) s=true↔ ∃a b,s=a++b/\M l a=true/\M m b=true
 | [],m,s=>by
  rw[qy];constructor;intro h;exact⟨[],s,rfl,by rw[M],h⟩
  .rintro⟨a,b,rfl,e,d⟩
   cases a with
   |nil=>exact d
   |cons c r=>rw[M]at e;cases e
 |g::l,m,s=>by
  rw[qs];by_cases i:g.k=2;rw[Zmj g i];constructor;rintro⟨t,⟨p,rfl⟩,d⟩;obtain⟨a,b,rfl,f,j⟩:=(WQ l m t).1 d;exact⟨p++a,b,sm,(Zmj g i l (p++a)).2 ⟨a,List.suffix_append p a,f⟩,j⟩;rintro⟨a,b,rfl,e,d⟩;obtain⟨t,⟨p,rfl⟩,f⟩:=(Zmj g i l a).1 e;exact⟨t++b,⟨p,sm⟩,(WQ l m (t++b)).2 ⟨t,b,rfl,f,d⟩⟩;rw[Zxg g i];constructor;rintro⟨c,r,rfl,e,d⟩;obtain⟨a,b,rfl,f,j⟩:=(WQ l m r).1 d;exact⟨c::a,b,rfl,(Zxg g i l (c::a)).2 ⟨c,a,rfl,e,f⟩,j⟩;rintro⟨a,b,rfl,e,d⟩;obtain⟨c,r,rfl,f,j⟩:=(Zxg g i l a).1 e;exact⟨c,r++b,rfl,f,(WQ l m (r++b)).2 ⟨r,b,rfl,j,d⟩⟩
theorem Zxh(s:List UInt8):M [] s=s.isEmpty:=by cases s<;>rw[M]<;>rfl
theorem Zxi(g:Glob)(d:g.k≠2)(q:List UInt8):M [g] q=true↔ ∃c,q= [c]/\Zdo g c.toNat=true:=by
 rw[Zxg g d];constructor
 .rintro⟨c,r,rfl,b,a⟩;rw[Zxh]at a
  cases r with
  |nil=>exact⟨c,rfl,b⟩
  |cons _ _=>cases a
 .rintro⟨c,rfl,h⟩;exact⟨c,[],rfl,h,by rw[Zxh];rfl⟩
theorem ZGh(g:Glob)(a:g.k=2)(q:List UInt8):M [g] q=true:=(Zmj g a [] q).2 ⟨[],List.nil_suffix,by rw[Zxh];rfl⟩
theorem Zba(a:List Glob)(g:Glob)(b:g.k=2)(s:List UInt8):M (a++ [g]) s=true↔ ∃p,p<+:s/\M a p=true:=by
 rw[WQ];exact⟨fun⟨p,q,h1,h2,_⟩=>⟨p,⟨q,h1.symm⟩,h2⟩,fun⟨p,⟨q,h1⟩,h2⟩=>⟨p,q,h1.symm,h2,ZGh g b q⟩⟩
theorem Zgd(a:List Glob)(g:Glob)(b:g.k=2):M (a++ [g]) []=M a []:=by rw[Bool.eq_iff_iff,Zba a g b];exact⟨fun⟨p,h1,h2⟩=>by rw[List.prefix_nil.1 h1]at h2;exact h2,λh=>⟨[],List.prefix_refl _,h⟩⟩
theorem Zeb(a:List Glob)(g:Glob)(e:g.k=2)(t:List UInt8)(c:UInt8):M (a++ [g]) (t++ [c])=(M a (t++ [c])||M (a++ [g]) t):=by rw[Bool.eq_iff_iff,uS,Zba a g e,Zba a g e];constructor;rintro⟨p,b,d⟩;rcases List.prefix_concat_iff.1 b with rfl|b;exact .inl d;exact .inr ⟨p,b,d⟩;rintro(h|⟨p,b,d⟩);exact⟨_,List.prefix_refl _,h⟩;exact⟨p,b.trans (List.prefix_append t [c]),d⟩
theorem Zg6(a:List Glob)(g:Glob)(e:g.k≠2):M (a++ [g]) []=false:=by rw[Bool.eq_false_iff];intro h;obtain⟨p,q,b,_,d⟩:=(WQ a [g] []).1 h;obtain⟨c,rfl,_⟩:=(Zxi g e q).1 d;simp at b
theorem Zge(a:List Glob)(g:Glob)(f:g.k≠2)(t:List UInt8)(c:UInt8):M (a++ [g]) (t++ [c])=(M a t&&Zdo g c.toNat):=by
 rw[Bool.eq_iff_iff,qrq,WQ];constructor;rintro⟨p,q,b,e,h⟩;obtain⟨d,rfl,i⟩:=(Zxi g f q).1 h;obtain⟨rfl,j⟩:=List.append_inj' b rfl;cases j;exact⟨e,i⟩;rintro⟨b,e⟩;exact⟨t,[c],rfl,b,(Zxi g f [c]).2 ⟨c,rfl,e⟩⟩
def tab(l:List Glob)(s:List UInt8)(i k:Nat):Bool:=M (l.take i) (s.take k)
theorem ZDp(l)(s:List UInt8)(k:Nat)(a:k<=s.length):tab l s 0 k=decide (k=0):=by
 unfold tab;rw[uQ,Zxh]
 cases k with
 |zero=>rfl
 |succ k=>
  cases s with
  |nil=>simp at a
  |cons c r=>rfl
theorem Zmk{l:List Glob}{s}{i:Nat}(b:i<l.length)(a:l[i].k=2):tab l s (i+1) 0=tab l s i 0:=by unfold tab;rw[qa b,uQ,Zgd _ _ a]
theorem Zrb{l:List Glob}{s:List UInt8}{i k:Nat}(b:i<l.length)(a:l[i].k=2)(c:k<s.length):tab l s (i+1) (k+1)=(tab l s i (k+1)||tab l s (i+1) k):=by unfold tab;rw[qa b,qa c,Zeb _ _ a]
theorem ZBc{l:List Glob}{s}{i:Nat}(b:i<l.length)(a:l[i].k≠2):tab l s (i+1) 0=false:=by unfold tab;rw[qa b,uQ,Zg6 _ _ a]
theorem Zxj{l:List Glob}{s:List UInt8}{i k:Nat}(b:i<l.length)(a:l[i].k≠2)(c:k<s.length):tab l s (i+1) (k+1)=(tab l s i k&&Zdo l[i] s[k].toNat):=by unfold tab;rw[qa b,qa c,Zge _ _ a]
theorem ZGi(l:List Glob)(s:List UInt8):tab l s l.length s.length=M l s:=by unfold tab;rw[qm,qm]
def oneS(g:Glob):Bool:=
 if g.k=0 then g.sp.isEmpty else if g.k=1\/g.k=2 then g.b==0&&g.sp.isEmpty else if g.k=3 then g.b==0&& !g.sp.isEmpty&& !g.sp.any (λx=>ltI x.hi x.lo)else false
def mayS(l:List Glob):Bool:=l.all oneS
end Go.Y
namespace Go.Y
open Go.Proofs
set_option maxRecDepth 1000000
set_option maxHeartbeats 0
theorem f63_0(a c d e x1 h K):CP UY 63 (pre B_63) (.agg [I a,.i .u8 c,J d e none]::.i .u8 x1::Rp 44) h [1,2,4,5,6,10] K=(If (a==(0:Int)) (K .ret 46 [.i .u8 x1, .lb [I a, .i .u8 c,J d e none], .b (c==x1),Ud,Ud, .rf] h) (K .normal 46 [.i .u8 x1, .lb [I a, .i .u8 c,J d e none], .b false, .b (a==(1:Int)),I 0,Ud] h)):=kr
theorem f63_1(e f d c x1 g a h K):CP UY 63 (lp_ B_63) (MZ 46 [1,2,5,6,10] [.i .u8 x1,.lb [I e,.i .u8 f,J d c none],.b g,I a,V.undef]) h [1,2,5,6,10] K=(If (ltI a c) (If g (K .normal 46 [.i .u8 x1, .lb [I e, .i .u8 f,J d c none], .b true,I (wW (a+(1:Int))),Ud] h) ((0<=a/\a<c)/\ ∃j,Zs 1 (List.drop 0 (List.drop (a.toNat*2) d))=some [.i .u8 j]/\If (leI j x1) ((0<=a/\a<c)/\ ∃l,Zs 1 (List.drop 1 (List.drop (a.toNat*2) d))=some [.i .u8 l]/\K .normal 46 [.i .u8 x1, .lb [I e, .i .u8 f,J d c none], .b (leI x1 l),I (wW (a+(1:Int))),Ud] h) (K .normal 46 [.i .u8 x1, .lb [I e, .i .u8 f,J d c none], .b false,I (wW (a+(1:Int))),Ud] h))) (K (.exit 0) 46 [.i .u8 x1, .lb [I e, .i .u8 f,J d c none], .b g,I a,Ud] h)):=kr
theorem f63_2(a h K):CP UY 63 ((post B_63).drop 1) (MZ 46 [5] [.b a]) h [4] K=(K .ret 46 [.b a] h):=kr
def okG(l:List Glob):Prop:=l.length<2 ^ 28/\ ∀x∈l,x.sp.length<2 ^ 28
theorem ZBf(g:Glob)(L:g.sp.length<2 ^ 30):PCon UY 101 [.agg (encG g)] (· = .b (oneS g)):=by
 refine ZF UK (fn:=Tryz.f101) rfl ?_;refine Xm UK (n:=54) (loc:=UY.loc 101) 100 [1,2,3] kr ?_;refine Eq.mpr (ZMc g.k g.b (row encS g.sp) g.sp.length _ _) ?_;have f: ∀(b:Bool) (v1 D:V) (h:Heap),b=oneS g->AtV [1,2,3] (FinS UY Tryz.f101 λv h=> ∃r,Frz h v r/\r= .b (oneS g)) .ret 54 [v1, .b b,D] h:=λb v1 D h j=>Xc rr rfl ⟨_, .b _,by rw[j]⟩;have F:(((g.sp.length:Nat):Int)==0)=g.sp.isEmpty:=by cases g.sp<;>simp<;>omega
 refine Zf (λe=>f _ _ _ _ ?_) (λe=> ?_);have e:g.k=0:=su e;rw[F];simp[oneS,e];have e:g.k≠0:=su e;refine Zf (λj=>f _ _ _ _ ?_) (λj=> ?_);have j:g.b≠0:=su j;simp[oneS,e,j];have j:g.b=0:=su j;refine Xr (λG=>f _ _ _ _ ?_) (λG=> ?_);have z:g.k≠1:=om;have A:g.k≠2:=om;have B:g.k≠3:=om;simp[oneS,e,z,A,B];refine Xr (λw=>f _ _ _ _ ?_) (λw=> ?_);have z:g.k≠1:=om;have A:g.k≠2:=om;have B:g.k≠3:=om;simp[oneS,e,z,A,B];have t:ltI 0 ((g.sp.length:Nat):Int)= !g.sp.isEmpty:=by cases g.sp<;>simp[ltI]<;>omega
 rw[t];have s:g.k≠3->(g.k=1\/g.k=2):=om;refine Zf (λd=>f _ _ _ _ ?_) (λd=> ?_)
 .by_cases c:g.k=3
  .have:g.sp.isEmpty=true:=by rw[c]at d;cases h:g.sp.isEmpty<;>rw[h]at d<;>simp_all
   simp[oneS,c,this]
  .have:g.sp.isEmpty=false:=by
    have o:(g.k==3)=false:=su c;rw[o]at d;cases h:g.sp.isEmpty<;>rw[h]at d<;>simp_all
   simp[oneS,e,s c,this]
 refine⟨rfl,ZM [1,3] [1,2,3] (λm E _=> ∃i:Nat,E= [.lb (encG g),I (i:Nat)]/\i<=g.sp.length/\(g.sp.take i).any (λx=>ltI x.hi x.lo)=false/\m=g.sp.length-i) g.sp.length ZA ⟨0,rfl,om,rfl,om⟩ ?_⟩;rintro m E C ⟨i,rfl,K,q,rfl⟩;refine ZW UK (loc:=UY.loc 101) 100 [1,2,3] ?_;refine Eq.mpr (ZMd g.k g.b (row encS g.sp) g.sp.length (i:Nat) C _) ?_;have l:g.k≠3->g.sp= []:=by
  intro c;have o:(g.k==3)=false:=su c;rw[o]at d;cases h:g.sp.isEmpty;rw[h]at d;simp at d;exact List.isEmpty_iff.1 h
 refine Zq (λa=> ?_) (λu=> ?_)
 .have H:=VP VS g.sp a;rw[qdq,H];have c:g.k=3:=by
   by_cases c:g.k=3;exact c;rw[l c]at a;simp at a
  have p:g.sp.isEmpty=false:=by
   cases y:g.sp with
   |nil=>rw[y]at a;simp at a
   |cons _ _=>rfl
  refine⟨Zu a,_,rfl,Zu a,_,rfl,Zf (λd=>f _ _ _ _ ?_) (λd=> ?_)⟩;have:g.sp.any (λx=>ltI x.hi x.lo)=true:=List.any_eq_true.2 ⟨_,qe a,d⟩;simp[oneS,c,j,p,this];refine⟨rfl,g.sp.length-(i+1),om,i+1,?_,om,?_,rfl⟩;rw[Ze om];rfl;rw[qa a,uj,q];simp[d]
 .refine Zj [] ?_;refine ZG UK (loc:=UY.loc 101) 100 [2] ?_;refine Eq.mpr (ZMe C _) ?_;rw[qt u]at q;refine ZB rr rfl (.b _) ?_;by_cases c:g.k=3
  .have p:g.sp.isEmpty=false:=by
    rw[c]at d;cases h:g.sp.isEmpty<;>rw[h]at d<;>simp_all
   simp[oneS,c,j,p,q]
  .simp[oneS,e,s c,j,l c]
theorem ZBg(l)(g:okG l):PCon UY 50 [lst encG l] (· = .b (mayS l)):=by
 refine ZF UK (fn:=Tryz.f50) rfl ?_;refine Xm UK (n:=16) (loc:=UY.loc 50) 100 [0,3] kr ?_;refine Eq.mpr (ZR4 (row encG l) l.length _ _) ?_;have k:=g.1;refine⟨rfl,ZM [0,3] [0,2,3] (λm h _=> ∃i:Nat,h= [lst encG l,I (i:Nat)]/\i<=l.length/\(l.take i).all oneS=true/\m=l.length-i) l.length ZA ⟨0,rfl,om,rfl,om⟩ ?_⟩;rintro m h f ⟨i,rfl,j,c,rfl⟩;refine ZW UK (loc:=UY.loc 50) 100 [0,2,3] ?_;refine Eq.mpr (ZR5 (row encG l) l.length (i:Nat) f _) ?_;refine Zq (λa=> ?_) (λe=> ?_)
 .rw[qdq];refine⟨Zu a,_,_,_,_,_,Xw VT a,_,ZBf l[i] (by have:=g.2 _ (qe a);omega),Zf (λd=> ?_) (λd=> ?_)⟩
  .refine Xc rr rfl ⟨_, .b _,?_⟩;have:mayS l=false:=by
    rw[mayS,List.all_eq_false];exact⟨_,qe a,su d⟩
   rw[this]
  .refine⟨rfl,l.length-(i+1),om,i+1,?_,om,?_,rfl⟩;rw[Ze om];rfl;rw[qa a,List.all_append,c];simpa using d
 .refine Zj [] ?_;refine ZG UK (loc:=UY.loc 50) 100 [2] ?_;refine Eq.mpr (ZR6 f _) ?_;rw[qt e]at c;exact ZB rr rfl (.b _) (by rw[mayS,c])
end Go.Y
