/- A part of the proof. -/
import Derived.Test.YteennilbmmlikaaGreatDoorYAny3
import Derived.Test.YteennilbmmlikaaGreatDoorYLoop
import Derived.Test.YteennilbmmlikaaGreatDoorYTryhP
import Derived.Test.YteennilbmmlikaaGreatDoorGSortK
import Derived.Test.YteennilbmmlikaaGreatDoorYFrz
import Derived.Test.YteennilbmmlikaaGreatDoorGTextE
import Derived.Test.YteennilbmmlikaaGreatDoorEE2
import Derived.Test.YteennilbmmlikaaGreatDoorED1
namespace Go.Y
open Go.Proofs
set_option maxRecDepth 1000000
set_option maxHeartbeats 0
theorem ZQs(a:List UInt8)(h:Heap)(K:KT):(Zc UY (UY.loc 54) 100 (pre (flat (Za Tryz.f54))) ⟨(.s a::List.replicate 33 .undef),[],h⟩ (VQ [0,2,3,4,5,6] K))=(If (ltI 200 (↑a.length:Int)) (K .ret 34 [.s a,S0,I 200,I 2,Ud,Ud] h) (K .normal 34 [.s a,S0,I 0,I 0, .p (some (h.nx,0)),S0] (h.push (YObj.arr [.s a,I 0,.b false] true)))):=kr
theorem ZQt(j:List UInt8)(d:Nat)(r:Option (Nat×Nat))(t:Nat)(m)(o:Nat)(h)(K:KT):(Zc UY (UY.loc 54) 100 ((flat (Zx (post (flat (Za Tryz.f54)))))) ⟨mk 34 (([0,5,6]:List Nat).zip [.s j,.p (some (d,0)),S r t m o]),[],h⟩ (VQ [0,2,3,4,5,6] K))=(∃n,Zb h d 1 1=some [I n]/\If (ltI n (↑j.length:Int)) (Con UY 105 [.p (some (d,0))] h fun(v:V) (w:Heap)=> ∃n g u l c,v=.agg [I n,.i .u8 g,J u l c]/\ ∃a e f k h,Zk UY w 56 56 (S r t m o) (J [I n,.i .u8 g,J u l c] 1 (some 1))=some (S a e f k,h)/\ ∃b,Zb h d 2 1=some [.b b]/\If b (∃n,Zb h d 1 1=some [I n]/\K .ret 34 [.s j,S0,I n,I 1, .p (some (d,0)),S a e f k] h) (K .normal 34 [.s j,Ud,Ud,Ud, .p (some (d,0)),S a e f k] h)) (K (.exit 0) 34 [.s j,Ud,Ud,Ud, .p (some (d,0)),S r t m o] h)):=kr
theorem ZQu(a:Option (Nat×Nat))(c:Nat)(e)(d:Nat)(h)(K:KT):(Zc UY (UY.loc 54) 100 (((post (flat (Za Tryz.f54))).drop 1)) ⟨mk 34 (([6]:List Nat).zip [S a c e d]),[],h⟩ (VQ [2,3,4] K))=(K .ret 34 [S a c e d,I 0,I 0] h):=kr
theorem ZQv(a:List UInt8)(h)(K:KT):(Zc UY (UY.loc 24) 100 (pre (flat (Za Tryz.f24))) ⟨(.s a::List.replicate 70 .undef),[],h⟩ (VQ [0,2,3,4,5,6] K))=(If (ltI 200 (↑a.length:Int)) (K .ret 71 [.s a,S0,I 200,I 2,Ud,Ud] h) (K .normal 71 [.s a,S0,I 0,I 0,S0,I 0] h)):=kr
theorem ZQw(o:List UInt8)(d:Option (Nat×Nat))(e:Nat)(f)(g:Nat)(b:Int)(h)(K:KT):(Zc UY (UY.loc 24) 100 ((flat (Zx (post (flat (Za Tryz.f24)))))) ⟨mk 71 (([0,5,6]:List Nat).zip [.s o,S d e f g,I b]),[],h⟩ (VQ [0,2,3,4,5,6] K))=(If (ltI b (↑o.length:Int)) (∃c,(0<=b/\o[b.toNat]? =some c)/\If ((↑c.toNat:Int)==42) (∃a l c k j,Zk UY h 56 56 (S d e f g) (J [I 2,.i .u8 0,S0] 1 (some 1))=some (S a l c k,j)/\K .normal 71 [.s o,Ud,Ud,Ud,S a l c k,I (wW (b+1))] j) (If ((↑c.toNat:Int)==63) (∃a l c k j,Zk UY h 56 56 (S d e f g) (J [I 1,.i .u8 0,S0] 1 (some 1))=some (S a l c k,j)/\K .normal 71 [.s o,Ud,Ud,Ud,S a l c k,I (wW (b+1))] j) (If ((↑c.toNat:Int)==91) (∃u l c n r,(PCon UY 62 [.s o,I (wW (b+1))] fun(v:V)=>v=.tup [J u l c,I n,I r])/\If (ltI n 0) (K .ret 71 [.s o,S0,I r,I 1,S d e f g,I (wW (b+1))] h) (∃a t m k j,Zk UY h 56 56 (S d e f g) (J [I 3,.i .u8 0,J u l c] 1 (some 1))=some (S a t m k,j)/\K .normal 71 [.s o,Ud,Ud,Ud,S a t m k,I n] j)) (If ((↑c.toNat:Int)==92) (If (leI (↑o.length:Int) (wW (b+1))) (K .ret 71 [.s o,S0,I (wW (b+1)),I 1,S d e f g,I (wW (b+1))] h) (∃c,(0<=wW (b+1)/\o[(wW (b+1)).toNat]? =some c)/\ ∃a l m k j,Zk UY h 56 56 (S d e f g) (J [I 0,.i .u8 (↑c.toNat:Int),S0] 1 (some 1))=some (S a l m k,j)/\K .normal 71 [.s o,Ud,Ud,Ud,S a l m k,I (wW (wW (b+1)+1))] j)) (∃a l m k j,Zk UY h 56 56 (S d e f g) (J [I 0,.i .u8 (↑c.toNat:Int),S0] 1 (some 1))=some (S a l m k,j)/\K .normal 71 [.s o,Ud,Ud,Ud,S a l m k,I (wW (b+1))] j))))) (K (.exit 0) 71 [.s o,Ud,Ud,Ud,S d e f g,I b] h)):=kr
theorem ZQx(a:Option (Nat×Nat))(b:Nat)(c)(d:Nat)(h)(K:KT):(Zc UY (UY.loc 24) 100 (((post (flat (Za Tryz.f24))).drop 1)) ⟨mk 71 (([5]:List Nat).zip [S a b c d]),[],h⟩ (VQ [2,3,4] K))=(K .ret 71 [S a b c d,I 0,I 0] h):=kr
theorem ZQy(a c h K):CP UY 50 (pre (flat (Za Tryz.f50))) (J a c none::Rp 15) h [0,3] K=(K .normal 16 [J a c none,I 0] h):=kr
theorem ZQz(a n0 x3 h K):CP UY 50 (flat (Zx (post (flat (Za Tryz.f50))))) (MZ 16 [0,3] [J a n0 none,I x3]) h [0,2,3] K=(If (ltI x3 n0) ((0<=x3/\x3<n0)/\ ∃b c d e f,Zr 3 (List.drop (x3.toNat*3) a)=some [I b,.i .u8 c,J d e f]/\ ∃g,(PCon UY 101 [.agg [I b,.i .u8 c,J d e f]] fun(v:V)=>v=.b g)/\If (!g) (K .ret 16 [J a n0 none, .b false,I x3] h) (K .normal 16 [J a n0 none,Ud,I (wW (x3+1))] h)) (K (.exit 0) 16 [J a n0 none,Ud,I x3] h)):=kr
theorem ZQ0(h K):CP UY 50 ((post (flat (Za Tryz.f50))).drop 1) (MZ 16 [] []) h [2] K=(K .ret 16 [.b true] h):=kr
theorem ZK4(a d e c h K):CP UY 101 (pre (flat (Za Tryz.f101))) (.agg [I a,.i .u8 d,J e c none]::Rp 53) h [1,2,3] K=(If (a==0) (K .ret 54 [.lb [I a, .i .u8 d,J e c none], .b ((↑c:Int)==0),Ud] h) (If (d !=0) (K .ret 54 [.lb [I a, .i .u8 d,J e c none], .b false,Ud] h) (If (ltI a 1) (K .ret 54 [.lb [I a, .i .u8 d,J e c none], .b false,Ud] h) (If (ltI 3 a) (K .ret 54 [.lb [I a, .i .u8 d,J e c none], .b false,Ud] h) (If (!(a==3)==ltI 0 c) (K .ret 54 [.lb [I a, .i .u8 d,J e c none], .b false,Ud] h) (K .normal 54 [.lb [I a, .i .u8 d,J e c none], .b false,I 0] h)))))):=kr
theorem ZK5(d e c a x3 h K):CP UY 101 (flat (Zx (post (flat (Za Tryz.f101))))) (MZ 54 [1,3] [.lb [I d,.i .u8 e,J c a none],I x3]) h [1,2,3] K=(If (ltI x3 a) ((0<=x3/\x3<a)/\ ∃f,Zr 1 (List.drop 0 (List.drop (x3.toNat*2) c))=some [.i .u8 f]/\(0<=x3/\x3<a)/\ ∃g,Zr 1 (List.drop 1 (List.drop (x3.toNat*2) c))=some [.i .u8 g]/\If (ltI g f) (K .ret 54 [.lb [I d, .i .u8 e,J c a none], .b false,I x3] h) (K .normal 54 [.lb [I d, .i .u8 e,J c a none],Ud,I (wW (x3+1))] h)) (K (.exit 0) 54 [.lb [I d, .i .u8 e,J c a none],Ud,I x3] h)):=kr
theorem ZK6(h K):CP UY 101 ((post (flat (Za Tryz.f101))).drop 1) (MZ 54 [] []) h [2] K=(K .ret 54 [.b true] h):=kr
def ZK7(r:Except Nat (Glob×Nat))(h:Heap)(c:Nat)(s:List UInt8)(v:V)(a:Heap):Prop:=match r with
 | .error e=> ∃x:Glob,v= .agg (encG x)/\Rd a c s e true/\FrO h c a
 | .ok (x,j)=>v= .agg (encG x)/\Rd a c s j false/\FrO h c a
theorem Zca{h}{k b:Int}{Q}(a:Q (.agg (encG ⟨k,b,[]⟩)) h):AfterZ Q (.agg [I k, .i .u8 b, .sl none 0 (some 0) 0]) h:=
 ⟨[],_, .inl (.agg _ _ (.cons _ _ _ _ (.same _) (.cons _ _ _ _ (.same _) (.cons _ _ _ _ (.frz _ _ (.sln _ _ none (λx c=>by cases c))) .nil)))),a⟩
theorem Zwj{h}{m:Nat}{s:List UInt8}{i:Nat}(r:Rd h m s i false)(x:s.length<2 ^ 28)(z:i<s.length):
  Con UY 105 [.p (some (m,0))] h (ZK7 (Xx s i) h m s):=by
 refine Zv UK (fn:=Tryz.f105) (ZE UK (loc:=UY.loc 105) 100 [2] ?_);rw[show(⟨[.p (some (m,0))]++List.replicate (Tryz.f105.ntmps- [V.p (some (m,0))].length) .undef,[],h⟩:St)=⟨.p (some (m,0))::List.replicate 24 .undef,[],h⟩ by rfl,ZK3];refine(Zef r om om).mono λv B ⟨w,n,g⟩=>⟨_,w,?_⟩;have a:s[i]? =some s[i]:=by simp[z]
 simp only[Zbt,a]at n ⊢;rw[show(42:Int)=(((42:UInt8).toNat:Nat):Int) from dc,show(63:Int)=(((63:UInt8).toNat:Nat):Int) from dc,show(91:Int)=(((91:UInt8).toNat:Nat):Int) from dc,show(92:Int)=(((92:UInt8).toNat:Nat):Int) from dc,Ju,Ju,Ju,Ju];refine WT (λc1=>finC rr rfl (Zca ?_)) (λc1=> ?_)
 .simp only[Xx,a,c1,vG];exact⟨rfl,n,g⟩
 refine WT (λc2=>finC rr rfl (Zca ?_)) (λc2=> ?_)
 .unfold Xx;rw[a];simp only[];rw[uE c1,uF c2];exact⟨rfl,n,g⟩
 refine WT (λc3=> ?_) (λc3=> ?_)
 .refine(ZFf n x om).mono λv A o=> ?_
  cases t:setS (s.length+1) s (i+1) [] with
  |error e=>
   have hp:Xx s i= .error e:=by unfold Xx;rw[a];simp only[];rw[uE c1,uE c2,uF c3,t]
   rw[t]at o;obtain⟨rfl,f,k⟩:=o;refine⟨_,_,_,rfl,finC rr rfl (.now ?_)⟩;rw[hp];exact⟨⟨3,0,[]⟩,rfl,f,g.trans k⟩
  |ok y=>
   obtain⟨l,j⟩:=y;have hp:Xx s i= .ok (⟨3,0,l⟩,j):=by unfold Xx;rw[a];simp only[];rw[uE c1,uE c2,uF c3,t]
   rw[t]at o;obtain⟨rfl,f,k⟩:=o;refine⟨_,_,_,rfl,finC rr rfl (.now ?_)⟩;rw[hp];exact⟨rfl,f,g.trans k⟩
 refine WT (λu=> ?_) (λu=>finC rr rfl (Zca ?_))
 .refine(Zef n om om).mono λv A ⟨w,f,k⟩=>⟨_,w,finC rr rfl (Zca ?_)⟩
  cases c:s[i+1]? with
  |none=>
   have hp:Xx s i= .error (i+1):=by unfold Xx;rw[a];simp only[];rw[uE c1,uE c2,uE c3,uF u,c]
   simp only[Zbt,c]at f ⊢;rw[hp];exact⟨_,rfl,f,g.trans k⟩
  |some d=>
   have hp:Xx s i= .ok (⟨0,d.toNat,[]⟩,i+2):=by unfold Xx;rw[a];simp only[];rw[uE c1,uE c2,uE c3,uF u,c]
   simp only[Zbt,c]at f ⊢;rw[hp];exact⟨rfl,f,g.trans k⟩
 .simp only[Xx,a,c1,c2,c3,u,vF];exact⟨rfl,n,g⟩
def Zhr(s:List UInt8):V:=
 if 200<s.length then .tup [lst encG [], .i .i64 200, .i .i64 2]else match Qn (s.length+1) s 0 [] with
  | .error e=> .tup [lst encG [], .i .i64 (e:Nat), .i .i64 1]
  | .ok l=> .tup [lst encG l, .i .i64 0, .i .i64 0]
def ZK8(s:List UInt8)(R:Except Nat (List Glob))(m:Nat)(f:List V)(h:Heap):Prop:=
 ∃(e i:Nat) (d:List Glob) (a:Option (Nat×Nat)) (l:Nat) (c:Option Nat) (k:Nat),f= [.s s, .p (some (e,0)), .sl a l c k]/\Lst encG 3 h a l c k d/\(∀j,a=some (j,0)->e<j)/\
  Rd h e s i false/\i<=s.length/\d.length<=i/\s.length-i<m/\Qn m s i d=R
theorem Zji{h}{a}{l:Nat}{c}{m:Nat}{f:List Glob}(x:Glob){new:List V}(v:new.length=3)(t:Zp new=true)(d:Xb new=true)(u:FrzL .empty new (encG x))(w:Lst encG 3 h a l c m f)(y:f.length<2 ^ 29):
  ∃k n r o g,Zk UY h 56 56 (.sl a l c m) (.ts new 1 (some 1))=some (.sl k n r o,g)/\Lst encG 3 g k n r o (f++ [x])/\Fr h a g/\ ∃j,k=some (j,0)/\h.nx<=j:=
 Lst.app1 (Y:=UY) (e:=59) (te:=⟨3,40, .struct [(0,3),(1,5),(2,57)],[I 0, .i .u8 0, .sl none 0 (some 0) 0]⟩) x kr kr rfl dc w u d v t dc y
theorem Zlv(s):PCon UY 54 [.s s] (· =Zhr s):=by
 refine ZG UK (fn:=Tryz.f54) rfl ?_;refine Xg UK (n:=34) (loc:=UY.loc 54) 100 [0,2,3,4,5,6] kr ?_;rw[show(⟨[.s s]++List.replicate (Tryz.f54.ntmps- [V.s s].length) .undef,[], .empty⟩:St)=⟨.s s::List.replicate 33 .undef,[], .empty⟩ by rfl,ZQs];unfold Zhr;refine Xr (λz=> ?_) (λE=> ?_)
 .rw[uF om];exact fin3 rr rfl (Js encG _ _ _) (.i _ _) (.i _ _) rfl
 have hs:s.length<=200:=om;rw[uE om];generalize hR:Qn (s.length+1) s 0 []=R;refine⟨rfl,ZN [0,5,6] [0,2,3,4,5,6] (ZK8 s R) (s.length+1) ZA
  ⟨_,0,[],none,0,some 0,0,rfl,Lst.nil _ _ _ _ _,sm,⟨by simp[qk],sm⟩,om,sm,om,hR⟩ ?_⟩
 rintro m vs h ⟨r,i,Z,a,l,c,k,rfl,D,t,hr,hi,a1,hm,u⟩;refine ZR UK (loc:=UY.loc 54) 100 [0,2,3,4,5,6] ?_;rw[ZQt];obtain⟨m,rfl⟩: ∃m',m=m'+1:=⟨m-1,om⟩;have a0:=D.len;refine⟨_,hr.c1,Zq (λz=> ?_) (λE=> ?_)⟩
 .refine(Zwj hr om z).mono λv h2 H=> ?_;simp only[Qn,z,vG]at u;have d:FrO h r h2-> ∀j,a=some (j,0)->j<h.nx->h2.get j=h.get j:=λf j X hl=>f.2 j hl (λe=>by have:=t j X;omega);have B: ∀o,a≠some (r,o):=by
   intro o ho;have h0:=D.off ho;subst h0;have:=t r ho;omega
  cases W:Xx s i with
  |error e=>
   rw[W]at H u;obtain⟨x,rfl,w,A⟩:=H;obtain⟨L,K,O,N,F,P,q2,C,j,q4,q5⟩:=Zji x rfl rfl rfl (Xc _ rfl) (D.fr A.1 (d A)) om;have g:Rd F r s e true:=⟨by rw[C.2 r w.lt B];exact w.get,qv w.lt C.1⟩;refine⟨_,_,_,_,_,rfl,L,K,O,N,F,P,true,g.c2,?_⟩;refine⟨_,g.c1,?_⟩;subst u;exact fin3 rr rfl (Js encG _ _ _) (.i _ _) (.i _ _) rfl
  |ok y=>
   obtain⟨x,j⟩:=y;rw[W]at H u;have X:=Zfb W;obtain⟨rfl,w,A⟩:=H;obtain⟨L,K,O,N,F,P,q2,C,jj,q4,q5⟩:=Zji x rfl rfl rfl (Xc _ rfl) (D.fr A.1 (d A)) om;have g:Rd F r s j false:=⟨by rw[C.2 r w.lt B];exact w.get,qv w.lt C.1⟩;refine⟨_,_,_,_,_,rfl,L,K,O,N,F,P,false,g.c2,rfl,m,om,r,j,Z++ [x],L,K,O,N,rfl,q2,?_,g,X.2,by simp;omega,om,u⟩;intro j' G;rw[q4]at G;cases G;have:=hr.lt;have:=A.1;omega
 .refine Zj [6] ?_;refine ZE UK (loc:=UY.loc 54) 100 [2,3,4] ?_;rw[show pick [0,2,3,4,5,6] [6] [V.s s,V.undef,V.undef,V.undef,V.p (some (r,0)),V.sl a l c k]= [V.sl a l c k] by rfl,ZQu];simp only[Qn,Nat.not_lt.2 E,vF]at u;subst u;exact Zjd rr rfl (D.frz dc VP) (.i _ _) (.i _ _) rfl
def Zwk(s:List UInt8)(R:Except Nat (List Glob))(m:Nat)(e:List V)(h:Heap):Prop:=
 ∃(i:Nat) (d:List Glob) (a:Option (Nat×Nat)) (l:Nat) (c:Option Nat) (k:Nat),e= [.s s, .sl a l c k, .i .i64 (i:Nat)]/\Lst encG 3 h a l c k d/\
  i<=s.length/\d.length<=i/\s.length-i<m/\Qn m s i d=R
theorem Zz5(k b:Int):FrzL .empty [I k, .i .u8 b, .sl none 0 (some 0) 0] (encG ⟨k,b,[]⟩):=
 .cons _ _ _ _ (.i _ _) (.cons _ _ _ _ (.i _ _) (.cons _ _ _ _ (.sln _ _ none (λx a=>by cases a)) .nil))
theorem Zdf(s):PCon UY 24 [.s s] (· =Zhr s):=by
 refine ZG UK (fn:=Tryz.f24) rfl ?_;refine Xg UK (n:=71) (loc:=UY.loc 24) 100 [0,2,3,4,5,6] kr ?_;rw[show(⟨[.s s]++List.replicate (Tryz.f24.ntmps- [V.s s].length) .undef,[], .empty⟩:St)=⟨.s s::List.replicate 70 .undef,[], .empty⟩ by rfl,ZQv];unfold Zhr;refine Xr (λf=> ?_) (λw=> ?_)
 .rw[uF om];exact fin3 rr rfl (Js encG _ _ _) (.i _ _) (.i _ _) rfl
 have hs:s.length<=200:=om;rw[uE om];generalize O:Qn (s.length+1) s 0 []=R;refine⟨rfl,ZN [0,5,6] [0,2,3,4,5,6] (Zwk s R) (s.length+1) ZA
  ⟨0,[],none,0,some 0,0,rfl,Lst.nil _ _ _ _ _,om,sm,om,O⟩ ?_⟩
 rintro m vs h ⟨i,G,a,l,c,k,rfl,F,hi,a0,hm,g⟩;refine ZR UK (loc:=UY.loc 24) 100 [0,2,3,4,5,6] ?_;rw[ZQw];obtain⟨m,rfl⟩: ∃m',m=m'+1:=⟨m-1,om⟩;have W:=F.len;refine Zq (λf=> ?_) (λw=> ?_)
 .have d:s[i]? =some s[i]:=by simp[f]
  simp only[Qn,f,vG]at g;have more: ∀(x:Glob) (j:Nat) (new:List V),Xx s i= .ok (x,j)->new.length=3->Zp new=true->Xb new=true->FrzL .empty new (encG x)-> ∀E:Int,E=(j:Nat)->
    ∃(A:Option (Nat×Nat)) (o:Nat) (u:Option Nat) (t:Nat) (z:Heap),Zk UY h 56 56 (.sl a l c k) (.ts new 1 (some 1))=some (.sl A o u t,z)/\
     XE UY 71 [0,2,3,4,5,6] [0,5,6] (Zwk s R) (m+1) (Xd (post (flat (Za Tryz.f24)))) ((post (flat (Za Tryz.f24))).drop 1)
      (FinS UY Tryz.f24 λv h=> ∃r,Frz h v r/\r=match R with| .error e=> .tup [lst encG [],I e,I 1]| .ok l=> .tup [lst encG l,I 0,I 0])
      .normal 71 [.s s, .undef, .undef, .undef, .sl A o u t,I E] z:=by
   rintro x j new hp h1 X Z h4 E rfl;have hj:=Zfb hp;obtain⟨A,o,u,t,L,P,N,_⟩:=Zji x h1 X Z h4 F om;rw[hp]at g;exact⟨A,o,u,t,L,P,rfl,m,om,j,G++ [x],A,o,u,t,rfl,N,hj.2,by simp;omega,om,g⟩
  refine⟨s[i],⟨om,by simp[f]⟩,?_⟩;rw[show(42:Int)=(((42:UInt8).toNat:Nat):Int) from dc,show(63:Int)=(((63:UInt8).toNat:Nat):Int) from dc,show(91:Int)=(((91:UInt8).toNat:Nat):Int) from dc,show(92:Int)=(((92:UInt8).toNat:Nat):Int) from dc,Ju,Ju,Ju,Ju,Ze om];refine WT (λc1=> ?_) (λc1=> ?_)
  .exact more ⟨2,0,[]⟩ (i+1) _ (by unfold Xx;rw[d];simp only[];rw[uF c1]) rfl rfl rfl (Zz5 _ _) _ rfl
  refine WT (λc2=> ?_) (λc2=> ?_)
  .exact more ⟨1,0,[]⟩ (i+1) _ (by unfold Xx;rw[d];simp only[];rw[uE c1,uF c2]) rfl rfl rfl (Zz5 _ _) _ rfl
  refine WT (λc3=> ?_) (λc3=> ?_)
  .have B:=Zli s (i+1) om om
   cases C:setS (s.length+1) s (i+1) [] with
   |error e=>
    have hp:Xx s i= .error e:=by unfold Xx;rw[d];simp only[];rw[uE c1,uE c2,uF c3,C]
    rw[C]at B;rw[hp]at g;refine⟨_,_,_,_,_,B,Xr (λ_=> ?_) (λh=>om)⟩;subst g;exact fin3 rr rfl (Js encG _ _ _) (.i _ _) (.i _ _) rfl
   |ok y=>
    obtain⟨K,j⟩:=y;have hp:Xx s i= .ok (⟨3,0,K⟩,j):=by unfold Xx;rw[d];simp only[];rw[uE c1,uE c2,uF c3,C]
    rw[C]at B;exact⟨_,_,_,_,_,B,Xr (λh=>om) (λ_=>more ⟨3,0,K⟩ j _ hp rfl rfl rfl (Xc _ rfl) _ rfl)⟩
  refine WT (λD=> ?_) (λD=> ?_)
  .refine JT (λa1=> ?_) (λa2=> ?_)
   .have hp:Xx s i= .error (i+1):=by unfold Xx;rw[d];simp only[];rw[uE c1,uE c2,uE c3,uF D,qq om]
    rw[hp]at g;subst g;exact fin3 rr rfl (Js encG _ _ _) (.i _ _) (.i _ _) rfl
   .have H:i+1<s.length:=om;refine⟨s[i+1],⟨om,by rw[show(((i+1:Nat):Int)).toNat=i+1 from om];simp[H]⟩,?_⟩;rw[Ze om];exact more ⟨0,s[i+1].toNat,[]⟩ (i+2) _ (by unfold Xx;rw[d];simp only[];rw[uE c1,uE c2,uE c3,uF D];simp[H]) rfl rfl rfl (Zz5 _ _) _ rfl
  .exact more ⟨0,s[i].toNat,[]⟩ (i+1) _ (by unfold Xx;rw[d];simp only[];rw[uE c1,uE c2,uE c3,uE D]) rfl rfl rfl (Zz5 _ _) _ rfl
 .refine Zj [5] ?_;refine ZE UK (loc:=UY.loc 24) 100 [2,3,4] ?_;rw[show pick [0,2,3,4,5,6] [5] [V.s s,V.undef,V.undef,V.undef,V.sl a l c k,I i]= [V.sl a l c k] by rfl,ZQx];simp only[Qn,Nat.not_lt.2 w,vF]at g;subst g;exact Zjd rr rfl (F.frz dc VP) (.i _ _) (.i _ _) rfl
end Go.Y
namespace Go.Y
set_option maxRecDepth 1000000
set_option maxHeartbeats 0
def Zde(g:Glob)(c:Int):Bool:=if g.k=0 then g.b==c else g.k==1||g.sp.any λx=>leI x.lo c&&leI c x.hi
def M:List Glob->List UInt8->Bool
 | [],[]=>true
 | [],_::_=>false
 |g::l,[]=>g.k==2&&M l []
 |g::l,c::r=>if g.k=2 then M l (c::r)||M (g::l) r else Zde g c.toNat&&M l r
termination_by l s=>(l.length,s.length)
theorem Zlt(g:Glob)(e:g.k=2)(l)(s:List UInt8):M (g::l) s=true↔ ∃t,t<:+s/\M l t=true:=by
 induction s with
 |nil=>
  rw[M,e];simp
 |cons c r f=>
  rw[M,uF e];simp only[uS,f];constructor
  .rintro(h|⟨t,a,d⟩)
   .exact⟨_,List.suffix_refl _,h⟩
   .exact⟨t,a.trans (List.suffix_cons c r),d⟩
  .rintro⟨t,a,d⟩;rcases List.suffix_cons_iff.1 a with rfl|a
   .exact .inl d
   .exact .inr ⟨t,a,d⟩
theorem Zwe(g:Glob)(a:g.k≠2)(l)(s:List UInt8):M (g::l) s=true↔ ∃c r,s=c::r/\Zde g c.toNat=true/\M l r=true:=by
 cases s with
 |nil=>rw[M];simp[a]
 |cons c r=>
  rw[M,uE a,qrq];exact⟨λh=>⟨c,r,rfl,h⟩,fun⟨c',r',he,h⟩=>by cases he;exact h⟩
theorem WM: ∀(l m:List Glob) (s:List UInt8),M (l++m) s=true↔ ∃a b,s=a++b/\M l a=true/\M m b=true
 | [],m,s=>by
  rw[qy];constructor
  .intro h;exact⟨[],s,rfl,by rw[M],h⟩
  .rintro⟨a,b,rfl,e,d⟩
   cases a with
   |nil=>exact d
   |cons c r=>rw[M]at e;cases e
 |g::l,m,s=>by
  rw[qs];by_cases j:g.k=2
  .rw[Zlt g j];constructor
   .rintro⟨t,⟨p,rfl⟩,d⟩;obtain⟨a,b,rfl,f,n⟩:=(WM l m t).1 d;exact⟨p++a,b,sm,(Zlt g j l (p++a)).2 ⟨a,List.suffix_append p a,f⟩,n⟩
   .rintro⟨a,b,rfl,e,d⟩;obtain⟨t,⟨p,rfl⟩,f⟩:=(Zlt g j l a).1 e;exact⟨t++b,⟨p,sm⟩,(WM l m (t++b)).2 ⟨t,b,rfl,f,d⟩⟩
  .rw[Zwe g j];constructor
   .rintro⟨c,r,rfl,e,d⟩;obtain⟨a,b,rfl,f,n⟩:=(WM l m r).1 d;exact⟨c::a,b,rfl,(Zwe g j l (c::a)).2 ⟨c,a,rfl,e,f⟩,n⟩
   .rintro⟨a,b,rfl,e,d⟩;obtain⟨c,r,rfl,f,n⟩:=(Zwe g j l a).1 e;exact⟨c,r++b,rfl,f,(WM l m (r++b)).2 ⟨r,b,rfl,n,d⟩⟩
theorem Zwf(s:List UInt8):M [] s=s.isEmpty:=by cases s<;>rw[M]<;>rfl
theorem Zwg(g:Glob)(e:g.k≠2)(q:List UInt8):M [g] q=true↔ ∃c,q= [c]/\Zde g c.toNat=true:=by
 rw[Zwe g e];constructor
 .rintro⟨c,r,rfl,d,a⟩;rw[Zwf]at a
  cases r with
  |nil=>exact⟨c,rfl,d⟩
  |cons _ _=>cases a
 .rintro⟨c,rfl,h⟩;exact⟨c,[],rfl,h,by rw[Zwf];rfl⟩
theorem ZFd(g:Glob)(a:g.k=2)(q:List UInt8):M [g] q=true:=(Zlt g a [] q).2 ⟨[],List.nil_suffix,by rw[Zwf];rfl⟩
theorem Za7(a:List Glob)(g:Glob)(c:g.k=2)(s:List UInt8):M (a++ [g]) s=true↔ ∃p,p<+:s/\M a p=true:=by
 rw[WM];exact⟨fun⟨p,q,h1,h2,_⟩=>⟨p,⟨q,h1.symm⟩,h2⟩,fun⟨p,⟨q,h1⟩,h2⟩=>⟨p,q,h1.symm,h2,ZFd g c q⟩⟩
theorem Zf1(a:List Glob)(g:Glob)(c:g.k=2):M (a++ [g]) []=M a []:=by
 rw[Bool.eq_iff_iff,Za7 a g c];exact⟨fun⟨p,h1,h2⟩=>by rw[List.prefix_nil.1 h1]at h2;exact h2,λh=>⟨[],List.prefix_refl _,h⟩⟩
theorem Zdz(a:List Glob)(g:Glob)(f:g.k=2)(t:List UInt8)(c:UInt8):M (a++ [g]) (t++ [c])=(M a (t++ [c])||M (a++ [g]) t):=by
 rw[Bool.eq_iff_iff,uS,Za7 a g f,Za7 a g f];constructor
 .rintro⟨p,d,e⟩;rcases List.prefix_concat_iff.1 d with rfl|d
  .exact .inl e
  .exact .inr ⟨p,d,e⟩
 .rintro(h|⟨p,d,e⟩)
  .exact⟨_,List.prefix_refl _,h⟩
  .exact⟨p,d.trans (List.prefix_append t [c]),e⟩
theorem Zgx(a:List Glob)(g:Glob)(f:g.k≠2):M (a++ [g]) []=false:=by
 rw[Bool.eq_false_iff];intro h;obtain⟨p,q,e,_,d⟩:=(WM a [g] []).1 h;obtain⟨c,rfl,_⟩:=(Zwg g f q).1 d;simp at e
theorem Zf2(a:List Glob)(g:Glob)(h:g.k≠2)(t:List UInt8)(c:UInt8):M (a++ [g]) (t++ [c])=(M a t&&Zde g c.toNat):=by
 rw[Bool.eq_iff_iff,qrq,WM];constructor
 .rintro⟨p,q,e,f,l⟩;obtain⟨d,rfl,m⟩:=(Zwg g h q).1 l;obtain⟨rfl,j⟩:=List.append_inj' e rfl;cases j;exact⟨f,m⟩
 .rintro⟨e,f⟩;exact⟨t,[c],rfl,e,(Zwg g h [c]).2 ⟨c,rfl,f⟩⟩
def tab(l:List Glob)(s:List UInt8)(i k:Nat):Bool:=M (l.take i) (s.take k)
theorem ZCh(l)(s:List UInt8)(k:Nat)(a:k<=s.length):tab l s 0 k=decide (k=0):=by
 unfold tab;rw[uQ,Zwf]
 cases k with
 |zero=>rfl
 |succ k=>
  cases s with
  |nil=>simp at a
  |cons c r=>rfl
theorem Zlu{l:List Glob}{s}{i:Nat}(c:i<l.length)(a:l[i].k=2):tab l s (i+1) 0=tab l s i 0:=by
 unfold tab;rw[qa c,uQ,Zf1 _ _ a]
theorem Zql{l:List Glob}{s:List UInt8}{i k:Nat}(c:i<l.length)(a:l[i].k=2)(d:k<s.length):tab l s (i+1) (k+1)=(tab l s i (k+1)||tab l s (i+1) k):=by
 unfold tab;rw[qa c,qa d,Zdz _ _ a]
theorem Zz3{l:List Glob}{s}{i:Nat}(c:i<l.length)(a:l[i].k≠2):tab l s (i+1) 0=false:=by
 unfold tab;rw[qa c,uQ,Zgx _ _ a]
theorem Zwh{l:List Glob}{s:List UInt8}{i k:Nat}(c:i<l.length)(a:l[i].k≠2)(d:k<s.length):tab l s (i+1) (k+1)=(tab l s i k&&Zde l[i] s[k].toNat):=by
 unfold tab;rw[qa c,qa d,Zf2 _ _ a]
theorem ZFe(l:List Glob)(s:List UInt8):tab l s l.length s.length=M l s:=by unfold tab;rw[qm,qm]
def oneS(g:Glob):Bool:=
 if g.k=0 then g.sp.isEmpty else if g.k=1\/g.k=2 then g.b==0&&g.sp.isEmpty else if g.k=3 then g.b==0&& !g.sp.isEmpty&& !g.sp.any (λx=>ltI x.hi x.lo)else false
def mayS(l:List Glob):Bool:=l.all oneS
end Go.Y
namespace Go.Y
open Go.Proofs
set_option maxRecDepth 1000000
set_option maxHeartbeats 0
theorem ZQ1(a c h K):CP UY 48 (flat (Za Tryz.f48)) (J a c none::Rp 5) h [2] K=(Con UY 97 [J a c none,V.fn (Fn.func (98:Nat)) [] []] h fun(v:V) (d:Heap)=> ∃b,v=.b b/\K .ret 6 [.b !b] d):=kr
theorem ZQ2(a d h K):CP UY 97 (flat (Za Tryz.f97)) (J a d none::V.fn (.func 98) [] []::Rp 7) h [4] K=(Con UY 130 [J a d none,V.fn (Fn.func 98) [] []] h fun(v:V) (e:Heap)=> ∃c,v=I c/\K .ret 9 [.b (leI 0 c)] e):=kr
theorem ZK9(a c h K):CP UY 130 (pre (flat (Za Tryz.f130))) (J a c none::V.fn (.func 98) [] []::Rp 17) h [0,1,7,8] K=(K .normal 19 [J a c none, .fn (Fn.func 98) [] [],I (c:Int),I 0] h):=kr
theorem ZLa(a j x8 h K):CP UY 130 (flat (Zx (post (flat (Za Tryz.f130))))) (MZ 19 [0,1,7,8] [J a j none,V.fn (Fn.func 98) [] [],I (j:Int),I x8]) h [0,1,4,7,8] K=(If (ltI x8 j) ((0<=x8/\x8<j)/\ ∃b c d e f,Zr 3 (List.drop (x8.toNat*3) a)=some [I b,.i .u8 c,J d e f]/\ ∃g,(PCon UY 98 [.agg [I b,.i .u8 c,J d e f]] fun(v:V)=>v=.b g)/\If g (K .ret 19 [J a j none, .fn (Fn.func 98) [] [],I x8,I (j:Int),I x8] h) (K .normal 19 [J a j none, .fn (Fn.func 98) [] [],Ud,I (j:Int),I (wW (x8+(1:Int)))] h)) (K (.exit 0) 19 [J a j none, .fn (Fn.func 98) [] [],Ud,I (j:Int),I x8] h)):=kr
theorem ZLb(h K):CP UY 130 ((post (flat (Za Tryz.f130))).drop 1) (MZ 19 [] []) h [4] K=(K .ret 19 [I (-1)] h):=kr
theorem ZQ3(a c d e h K):CP UY 98 (flat (Za Tryz.f98)) (.agg [I a,.i .u8 c,J d e none]::Rp 5) h [2] K=(∃b,(PCon UY 99 [.agg [I a,.i .u8 c,J d e none]] λv=>v=.b b)/\K .ret 6 [.b !b] h):=kr
theorem ZQ4(c d e a h K):CP UY 99 (flat (Za Tryz.f99)) (.agg [I c,.i .u8 d,J e a none]::Rp 39) h [2] K=(If (c==(0:Int)) (K .ret 40 [.b ((↑a:Int)==(0:Int))] h) ((λf=>If (c==(1:Int)) f (If (c==(2:Int)) f (If (c==(3:Int)) (If (d==(0:Int)) (If (ltI 0 a) (Con UY 131 [J e a none,V.fn (Fn.func (132:Nat)) [] []] h fun(v:V) (g:Heap)=> ∃b,v=.b b/\K .ret 40 [.b !b] g) (K .ret 40 [.b false] h)) (K .ret 40 [.b false] h)) (K .ret 40 [.b false] h)))) (If (d==(0:Int)) (K .ret 40 [.b ((↑a:Int)==(0:Int))] h) (K .ret 40 [.b false] h)))):=kr
theorem ZLc(a c h K):CP UY 132 (flat (Za Tryz.f132)) (.agg [.i .u8 a,.i .u8 c]::Rp 7) h [2] K=(K .ret 8 [.b (ltI c a)] h):=kr
theorem f63_0(a c d e x1 h K):CP UY 63 (pre (flat (Za Tryz.f63))) (.agg [I a,.i .u8 c,J d e none]::.i .u8 x1::Rp 44) h [1,2,4,5,6,10] K=(If (a==(0:Int)) (K .ret 46 [.i .u8 x1, .lb [I a, .i .u8 c,J d e none], .b (c==x1),Ud,Ud, .rf] h) (K .normal 46 [.i .u8 x1, .lb [I a, .i .u8 c,J d e none], .b false, .b (a==(1:Int)),I 0,Ud] h)):=kr
theorem f63_1(e f d c x1 g a h K):CP UY 63 (flat (Zx (post (flat (Za Tryz.f63))))) (MZ 46 [1,2,5,6,10] [.i .u8 x1,.lb [I e,.i .u8 f,J d c none],.b g,I a,V.undef]) h [1,2,5,6,10] K=(If (ltI a c) (If g (K .normal 46 [.i .u8 x1, .lb [I e, .i .u8 f,J d c none], .b true,I (wW (a+(1:Int))),Ud] h) ((0<=a/\a<c)/\ ∃j,Zr 1 (List.drop 0 (List.drop (a.toNat*2) d))=some [.i .u8 j]/\If (leI j x1) ((0<=a/\a<c)/\ ∃l,Zr 1 (List.drop 1 (List.drop (a.toNat*2) d))=some [.i .u8 l]/\K .normal 46 [.i .u8 x1, .lb [I e, .i .u8 f,J d c none], .b (leI x1 l),I (wW (a+(1:Int))),Ud] h) (K .normal 46 [.i .u8 x1, .lb [I e, .i .u8 f,J d c none], .b false,I (wW (a+(1:Int))),Ud] h))) (K (.exit 0) 46 [.i .u8 x1, .lb [I e, .i .u8 f,J d c none], .b g,I a,Ud] h)):=kr
theorem f63_2(a h K):CP UY 63 ((post (flat (Za Tryz.f63))).drop 1) (MZ 46 [5] [.b a]) h [4] K=(K .ret 46 [.b a] h):=kr
theorem ZFg(a d h K):CP UY 131 (flat (Za Tryz.f131)) (J a d none::V.fn (.func 132) [] []::Rp 7) h [4] K=(Con UY 167 [J a d none,V.fn (Fn.func 132) [] []] h fun(v:V) (e:Heap)=> ∃c,v=I c/\K .ret 9 [.b (leI 0 c)] e):=kr
theorem ZFh(a c h K):CP UY 167 (pre (flat (Za Tryz.f167))) (J a c none::V.fn (.func 132) [] []::Rp 17) h [0,1,7,8] K=(K .normal 19 [J a c none, .fn (Fn.func 132) [] [],I (c:Int),I 0] h):=kr
theorem ZFi(a e x8 h K):CP UY 167 (flat (Zx (post (flat (Za Tryz.f167))))) (MZ 19 [0,1,7,8] [J a e none,V.fn (Fn.func 132) [] [],I (e:Int),I x8]) h [0,1,4,7,8] K=(If (ltI x8 e) ((0<=x8/\x8<e)/\ ∃b c,Zr 2 (List.drop (x8.toNat*2) a)=some [.i .u8 b,.i .u8 c]/\ ∃d,(PCon UY 132 [.agg [.i .u8 b,.i .u8 c]] λv=>v=.b d)/\If d (K .ret 19 [J a e none, .fn (Fn.func 132) [] [],I x8,I (e:Int),I x8] h) (K .normal 19 [J a e none, .fn (Fn.func 132) [] [],Ud,I (e:Int),I (wW (x8+1))] h)) (K (.exit 0) 19 [J a e none, .fn (Fn.func 132) [] [],Ud,I (e:Int),I x8] h)):=kr
theorem ZFj(h K):CP UY 167 ((post (flat (Za Tryz.f167))).drop 1) (MZ 19 [] []) h [4] K=(K .ret 19 [I (-1)] h):=kr
theorem Zz6(x:Span):PCon UY 132 [.agg (encS x)] (· = .b (ltI x.hi x.lo)):=by
 refine ZG UK (fn:=Tryz.f132) rfl (ZE UK (loc:=UY.loc 132) 100 [2] ?_);refine Eq.mpr (ZLc x.lo x.hi _ _) ?_;exact ZB rr rfl (.b _) rfl
theorem Zz7(l:List Span)(p:Span->Bool)(h:Heap)(t:l.length<2 ^ 30)(hp: ∀x∈l,PCon UY 132 [.agg (encS x)] (· = .b (p x))):
  Con UY 167 [lst encS l, .fn (.func 132) [] []] h λv d=> ∃n:Int,v= I n/\leI 0 n=l.any p/\d=h:=by
 refine Zv UK (fn:=Tryz.f167) ?_;refine Xg UK (n:=19) (loc:=UY.loc 167) 100 [0,1,7,8] kr ?_;refine Eq.mpr (ZFh (row encS l) l.length h _) ?_;refine⟨rfl,ZN [0,1,7,8] [0,1,4,7,8] (λm o d=> ∃i:Nat,o= [lst encS l, .fn (.func 132) [] [],I l.length,I (i:Nat)]/\i<=l.length/\(l.take i).any p=false/\m=l.length-i/\d=h) l.length ZA ⟨0,rfl,om,rfl,om,rfl⟩ ?_⟩;rintro m o d ⟨i,rfl,r,c,rfl,rfl⟩;refine ZR UK (loc:=UY.loc 167) 100 [0,1,4,7,8] ?_;refine Eq.mpr (ZFi (row encS l) l.length (i:Nat) d _) ?_;refine Zq (λa=> ?_) (λj=> ?_)
 .have e:Zr 2 (List.drop ((i:Int).toNat*2) (row encS l))=some (encS l[i]):=by rw[qdq];exact Xp (f:=encS) (k:=2) (λ_=>rfl) a
  refine⟨Zu a,_,_,e,p l[i],hp l[i] (qe a),Zf (λg=> ?_) (λg=> ?_)⟩
  .refine ZZ rr rfl (.now ⟨(i:Nat),rfl,?_,rfl⟩);have:l.any p=true:=List.any_eq_true.2 ⟨l[i],qe a,g⟩;rw[this];simp[leI]
  .refine⟨rfl,l.length-(i+1),om,i+1,?_,om,?_,rfl,rfl⟩
   .rw[Ze om];rfl
   .rw[qa a,uj,c];simp[g]
 .refine Zj [] ?_;refine ZE UK (loc:=UY.loc 167) 100 [4] ?_;refine Eq.mpr (ZFj d _) ?_;rw[qt j]at c;exact finC rr rfl (.now ⟨-1,rfl,by rw[c];rfl,rfl⟩)
theorem Zn8(l:List Span)(p:Span->Bool)(h:Heap)(e:l.length<2 ^ 30)(hp: ∀x∈l,PCon UY 132 [.agg (encS x)] (· = .b (p x))):
  Con UY 131 [lst encS l, .fn (.func 132) [] []] h λv a=>v= .b (l.any p)/\a=h:=by
 refine Zv UK (fn:=Tryz.f131) (ZE UK (loc:=UY.loc 131) 100 [4] ?_);refine Eq.mpr (ZFg (row encS l) l.length h _) ?_;refine(Zz7 l p h e hp).mono λv a ⟨n,f,d,c⟩=>⟨n,f,?_⟩;subst c;rw[d];exact finC rr rfl (.now ⟨rfl,rfl⟩)
theorem Zz8(g:Glob)(m:g.sp.length<2 ^ 30):PCon UY 99 [.agg (encG g)] (· = .b (oneS g)):=by
 refine ZG UK (fn:=Tryz.f99) rfl (ZE UK (loc:=UY.loc 99) 100 [2] ?_);refine Eq.mpr (ZQ4 g.k g.b (row encS g.sp) g.sp.length _ _) ?_;have f: ∀b:Bool,b=oneS g->Fin UY Tryz.f99 [2] (λv h=> ∃r,Frz h v r/\r= .b (oneS g)) .ret 40 [.b b] .empty:=λb a=>ZB rr rfl (.b _) (by rw[a]);have n:(((g.sp.length:Nat):Int)==0)=g.sp.isEmpty:=by cases g.sp<;>simp<;>omega
 rw[n];refine Zf (λj=>f _ ?_) (λj=> ?_)
 .have j:g.k=0:=by simpa using j
  simp[oneS,j]
 have j:g.k≠0:=by simpa using j
 refine Zf (λd=> ?_) (λd=> ?_)
 .have d:g.k=1:=by simpa using d
  exact Zf (λa=>f _ (by simp[oneS,d,a])) (λa=>f _ (by simp[oneS,d,a]))
 have d:g.k≠1:=by simpa using d
 refine Zf (λe=> ?_) (λe=> ?_)
 .have e:g.k=2:=by simpa using e
  exact Zf (λa=>f _ (by simp[oneS,e,a])) (λa=>f _ (by simp[oneS,e,a]))
 have e:g.k≠2:=by simpa using e
 refine Zf (λc=> ?_) (λc=>f _ ?_)
 .have c:g.k=3:=by simpa using c
  refine Zf (λa=> ?_) (λa=>f _ (by simp[oneS,c,a]));refine VM (λhp=> ?_) (λhz=>f _ ?_)
  .refine(Zn8 g.sp (λx=>ltI x.hi x.lo) _ m λx _=>Zz6 x).mono λv u ⟨t,o⟩=>⟨_,t,?_⟩;subst o;refine f _ ?_;have:g.sp.isEmpty=false:=by cases l:g.sp with
    |nil=>rw[l]at hp;simp at hp
    |cons _ _=>rfl
   simp[oneS,c,a,this]
  .have:g.sp= []:=qg hz;simp[oneS,c,this]
 .have c:g.k≠3:=by simpa using c
  simp[oneS,j,d,e,c]
theorem Zz9(g:Glob)(a:g.sp.length<2 ^ 30):PCon UY 98 [.agg (encG g)] (· = .b (!oneS g)):=by
 refine ZG UK (fn:=Tryz.f98) rfl (ZE UK (loc:=UY.loc 98) 100 [2] ?_);refine Eq.mpr (ZQ3 g.k g.b (row encS g.sp) g.sp.length _ _) ?_;exact⟨_,Zz8 g a,ZB rr rfl (.b _) rfl⟩
theorem ZAa(l:List Glob)(p:Glob->Bool)(h:Heap)(t:l.length<2 ^ 30)(hp: ∀x∈l,PCon UY 98 [.agg (encG x)] (· = .b (p x))):
  Con UY 130 [lst encG l, .fn (.func 98) [] []] h λv d=> ∃n:Int,v= I n/\leI 0 n=l.any p/\d=h:=by
 refine Zv UK (fn:=Tryz.f130) ?_;refine Xg UK (n:=19) (loc:=UY.loc 130) 100 [0,1,7,8] kr ?_;refine Eq.mpr (ZK9 (row encG l) l.length h _) ?_;refine⟨rfl,ZN [0,1,7,8] [0,1,4,7,8] (λm o d=> ∃i:Nat,o= [lst encG l, .fn (.func 98) [] [],I l.length,I (i:Nat)]/\i<=l.length/\(l.take i).any p=false/\m=l.length-i/\d=h) l.length ZA ⟨0,rfl,om,rfl,om,rfl⟩ ?_⟩;rintro m o d ⟨i,rfl,r,c,rfl,rfl⟩;refine ZR UK (loc:=UY.loc 130) 100 [0,1,4,7,8] ?_;refine Eq.mpr (ZLa (row encG l) l.length (i:Nat) d _) ?_;refine Zq (λa=> ?_) (λj=> ?_)
 .have e:Zr 3 (List.drop ((i:Int).toNat*3) (row encG l))=some (encG l[i]):=by rw[qdq];exact Xp (f:=encG) (k:=3) (λ_=>rfl) a
  refine⟨Zu a,_,_,_,_,_,e,p l[i],hp l[i] (qe a),Zf (λg=> ?_) (λg=> ?_)⟩
  .refine ZZ rr rfl (.now ⟨(i:Nat),rfl,?_,rfl⟩);have:l.any p=true:=List.any_eq_true.2 ⟨l[i],qe a,g⟩;rw[this];simp[leI]
  .refine⟨rfl,l.length-(i+1),om,i+1,?_,om,?_,rfl,rfl⟩
   .rw[Ze om];rfl
   .rw[qa a,uj,c];simp[g]
 .refine Zj [] ?_;refine ZE UK (loc:=UY.loc 130) 100 [4] ?_;refine Eq.mpr (ZLb d _) ?_;rw[qt j]at c;exact finC rr rfl (.now ⟨-1,rfl,by rw[c];rfl,rfl⟩)
theorem Zn9(l:List Glob)(p:Glob->Bool)(h:Heap)(e:l.length<2 ^ 30)(hp: ∀x∈l,PCon UY 98 [.agg (encG x)] (· = .b (p x))):
  Con UY 97 [lst encG l, .fn (.func 98) [] []] h λv a=>v= .b (l.any p)/\a=h:=by
 refine Zv UK (fn:=Tryz.f97) (ZE UK (loc:=UY.loc 97) 100 [4] ?_);refine Eq.mpr (ZQ2 (row encG l) l.length h _) ?_;refine(ZAa l p h e hp).mono λv a ⟨n,f,d,c⟩=>⟨n,f,?_⟩;subst c;rw[d];exact finC rr rfl (.now ⟨rfl,rfl⟩)
def okG(l:List Glob):Prop:=l.length<2 ^ 28/\ ∀x∈l,x.sp.length<2 ^ 28
theorem ZAb(l)(a:okG l):PCon UY 48 [lst encG l] (· = .b (mayS l)):=by
 refine ZG UK (fn:=Tryz.f48) rfl (ZE UK (loc:=UY.loc 48) 100 [2] ?_);refine Eq.mpr (ZQ1 (row encG l) l.length _ _) ?_;refine(Zn9 l (λg=> !oneS g) _ (by have:=a.1;omega) λx c=>Zz9 x (by have:=a.2 x c;omega)).mono λv f ⟨e,d⟩=>⟨_,e,?_⟩;subst d;refine ZB rr rfl (.b _) ?_;rw[mayS,List.not_any_eq_all_not];simp
theorem ZAc(g:Glob)(O:g.sp.length<2 ^ 30):PCon UY 101 [.agg (encG g)] (· = .b (oneS g)):=by
 refine ZG UK (fn:=Tryz.f101) rfl ?_;refine Xg UK (n:=54) (loc:=UY.loc 101) 100 [1,2,3] kr ?_;refine Eq.mpr (ZK4 g.k g.b (row encS g.sp) g.sp.length _ _) ?_;have f: ∀(b:Bool) (v1 G:V) (h:Heap),b=oneS g->AtV [1,2,3] (FinS UY Tryz.f101 λv h=> ∃r,Frz h v r/\r= .b (oneS g)) .ret 54 [v1, .b b,G] h:=λb v1 G h e=>ZZ rr rfl ⟨_, .b _,by rw[e]⟩;have L:(((g.sp.length:Nat):Int)==0)=g.sp.isEmpty:=by cases g.sp<;>simp<;>omega
 refine Zf (λj=>f _ _ _ _ ?_) (λj=> ?_)
 .have j:g.k=0:=by simpa using j
  rw[L];simp[oneS,j]
 have j:g.k≠0:=by simpa using j
 refine Zf (λe=>f _ _ _ _ ?_) (λe=> ?_)
 .have e:g.b≠0:=by simpa using e
  simp[oneS,j,e]
 have e:g.b=0:=by simpa using e
 refine Xr (λN=>f _ _ _ _ ?_) (λN=> ?_)
 .have E:g.k≠1:=om;have C:g.k≠2:=om;have z:g.k≠3:=om;simp[oneS,j,E,C,z]
 refine Xr (λB=>f _ _ _ _ ?_) (λB=> ?_)
 .have E:g.k≠1:=om;have C:g.k≠2:=om;have z:g.k≠3:=om;simp[oneS,j,E,C,z]
 have y:ltI 0 ((g.sp.length:Nat):Int)= !g.sp.isEmpty:=by cases g.sp<;>simp[ltI]<;>omega
 rw[y];have w:g.k≠3->(g.k=1\/g.k=2):=om;refine Zf (λd=>f _ _ _ _ ?_) (λd=> ?_)
 .by_cases c:g.k=3
  .have:g.sp.isEmpty=true:=by rw[c]at d;cases h:g.sp.isEmpty<;>rw[h]at d<;>simp_all
   simp[oneS,c,this]
  .have:g.sp.isEmpty=false:=by
    have t:(g.k==3)=false:=by simpa using c
    rw[t]at d;cases h:g.sp.isEmpty<;>rw[h]at d<;>simp_all
   simp[oneS,j,w c,this]
 refine⟨rfl,ZN [1,3] [1,2,3] (λm H _=> ∃i:Nat,H= [.lb (encG g),I (i:Nat)]/\i<=g.sp.length/\(g.sp.take i).any (λx=>ltI x.hi x.lo)=false/\m=g.sp.length-i) g.sp.length ZA ⟨0,rfl,om,rfl,om⟩ ?_⟩;rintro m H F ⟨i,rfl,P,o,rfl⟩;refine ZR UK (loc:=UY.loc 101) 100 [1,2,3] ?_;refine Eq.mpr (ZK5 g.k g.b (row encS g.sp) g.sp.length (i:Nat) F _) ?_;have l:g.k≠3->g.sp= []:=by
  intro c;have t:(g.k==3)=false:=by simpa using c
  rw[t]at d;cases h:g.sp.isEmpty
  .rw[h]at d;simp at d
  .exact List.isEmpty_iff.1 h
 refine Zq (λa=> ?_) (λA=> ?_)
 .have K:=VN VO g.sp a;rw[qdq,K];have c:g.k=3:=by
   by_cases c:g.k=3
   .exact c
   .rw[l c]at a;simp at a
  have u:g.sp.isEmpty=false:=by
   cases D:g.sp with
   |nil=>rw[D]at a;simp at a
   |cons _ _=>rfl
  refine⟨Zu a,_,rfl,Zu a,_,rfl,Zf (λd=>f _ _ _ _ ?_) (λd=> ?_)⟩
  .have:g.sp.any (λx=>ltI x.hi x.lo)=true:=List.any_eq_true.2 ⟨_,qe a,d⟩;simp[oneS,c,e,u,this]
  .refine⟨rfl,g.sp.length-(i+1),om,i+1,?_,om,?_,rfl⟩
   .rw[Ze om];rfl
   .rw[qa a,uj,o];simp[d]
 .refine Zj [] ?_;refine ZE UK (loc:=UY.loc 101) 100 [2] ?_;refine Eq.mpr (ZK6 F _) ?_;rw[qt A]at o;refine ZB rr rfl (.b _) ?_;by_cases c:g.k=3
  .have u:g.sp.isEmpty=false:=by
    rw[c]at d;cases h:g.sp.isEmpty<;>rw[h]at d<;>simp_all
   simp[oneS,c,e,u,o]
  .simp[oneS,j,w c,e,l c]
theorem ZAd(l)(f:okG l):PCon UY 50 [lst encG l] (· = .b (mayS l)):=by
 refine ZG UK (fn:=Tryz.f50) rfl ?_;refine Xg UK (n:=16) (loc:=UY.loc 50) 100 [0,3] kr ?_;refine Eq.mpr (ZQy (row encG l) l.length _ _) ?_;have j:=f.1;refine⟨rfl,ZN [0,3] [0,2,3] (λm h _=> ∃i:Nat,h= [lst encG l,I (i:Nat)]/\i<=l.length/\(l.take i).all oneS=true/\m=l.length-i) l.length ZA ⟨0,rfl,om,rfl,om⟩ ?_⟩;rintro m h g ⟨i,rfl,k,c,rfl⟩;refine ZR UK (loc:=UY.loc 50) 100 [0,2,3] ?_;refine Eq.mpr (ZQz (row encG l) l.length (i:Nat) g _) ?_;refine Zq (λa=> ?_) (λd=> ?_)
 .rw[qdq];refine⟨Zu a,_,_,_,_,_,Xp VP a,_,ZAc l[i] (by have:=f.2 _ (qe a);omega),Zf (λe=> ?_) (λe=> ?_)⟩
  .refine ZZ rr rfl ⟨_, .b _,?_⟩;have:mayS l=false:=by
    rw[mayS,List.all_eq_false];exact⟨_,qe a,by simpa using e⟩
   rw[this]
  .refine⟨rfl,l.length-(i+1),om,i+1,?_,om,?_,rfl⟩
   .rw[Ze om];rfl
   .rw[qa a,List.all_append,c];simpa using e
 .refine Zj [] ?_;refine ZE UK (loc:=UY.loc 50) 100 [2] ?_;refine Eq.mpr (ZQ0 g _) ?_;rw[qt d]at c;exact ZB rr rfl (.b _) (by rw[mayS,c])
theorem PCon.hz{f:FuncId}{args}{Q:V->Prop}(c:PCon Tryh.Y f args Q):PCon UY f args Q:=⟨c.body,c.tr⟩
abbrev reW(S:S4):List V:= [I 1,U S.1,U S.2.1,U S.2.2.1,U S.2.2.2, .sl none 0 (some 0) 0,I 0,I 0,I 0]
theorem ZFk(p:Nat->Bool){c:Nat}(h:c<256):Zr 1 ((reW (ZC p)).drop (0+1+c / 64*1))=some [U (Xf p (c / 64) 64:Nat)]:=by
 have:c / 64=0\/c / 64=1\/c / 64=2\/c / 64=3:=om;rcases this with e|e|e|e<;>rw[e]<;>rfl
theorem ZLd(p:Nat->Bool){c:Nat}(h:c<256):splice (reW (ZC p)) (0+1+c / 64*1) [U ((Xf p (c / 64) 64|||2 ^ (c % 64):Nat):Int)]=reW (ZC λx=>p x||x==c):=by
 have e:reW (ZC λx=>p x||x==c)= [I 1,U (Xf (λx=>p x||x==c) 0 64:Nat),U (Xf (λx=>p x||x==c) 1 64:Nat),U (Xf (λx=>p x||x==c) 2 64:Nat),U (Xf (λx=>p x||x==c) 3 64:Nat), .sl none 0 (some 0) 0,I 0,I 0,I 0]:=rfl
 rw[e,JN,JN,JN,JN];have:c / 64=0\/c / 64=1\/c / 64=2\/c / 64=3:=om;rcases this with e|e|e|e<;>rw[e]<;>rfl
theorem ZFl{h:Heap}{d:Nat}{p:Nat->Bool}{c:Nat}(f:c<256)(l:h.get d=some (.arr (reW (ZC p)) true)){K:Heap->Prop}
  (m: ∀k,k=h.set d (some (.arr (reW (ZC λx=>p x||x==c)) true))->K k):
  (0:Int)<=6/\((0:Int)<=(c:Int).fdiv ((2:Int) ^ min (Int.toNat (6:Int)) IntKind.i64.bits)/\(c:Int).fdiv ((2:Int) ^ min (Int.toNat (6:Int)) IntKind.i64.bits)<4)/\ ∃n:Int,
   Zb h d (0+1+((c:Int).fdiv ((2:Int) ^ min (Int.toNat (6:Int)) IntKind.i64.bits)).toNat*1) 1=some [V.i IntKind.u64 n]/\
   (0:Int)<=wW (((BitVec.ofInt IntKind.i64.bits (c:Int)&&&BitVec.ofInt IntKind.i64.bits (63:Int)).toNat:Nat):Int)/\
   ((0:Int)<=(c:Int).fdiv ((2:Int) ^ min (Int.toNat (6:Int)) IntKind.i64.bits)/\(c:Int).fdiv ((2:Int) ^ min (Int.toNat (6:Int)) IntKind.i64.bits)<4)/\ ∃a:Heap,
   Zi h d (0+1+((c:Int).fdiv ((2:Int) ^ min (Int.toNat (6:Int)) IntKind.i64.bits)).toNat*1) [V.i IntKind.u64 (IntKind.u64.wrap (((BitVec.ofInt IntKind.u64.bits n|||BitVec.ofInt IntKind.u64.bits (IntKind.u64.wrap (1*2 ^ min (wW (((BitVec.ofInt IntKind.i64.bits (c:Int)&&&BitVec.ofInt IntKind.i64.bits (63:Int)).toNat:Nat):Int)).toNat IntKind.u64.bits))).toNat:Nat):Int))]=some a/\K a:=by
 rw[Zzt,Zzu f];have j:=WH p (c / 64) 64;refine⟨om,⟨om,om⟩,_,(Zs l _ _).trans (ZFk _ f),om,⟨om,om⟩,?_⟩;have g:=Zv6 j (show c % 64<64 from om);rw[qdq,qdq,g];refine⟨_,?_,m _ rfl⟩;have e:reW (ZC λx=>p x||x==c)=splice (reW (ZC p)) (0+1+c / 64*1) [U ((Xf p (c / 64) 64|||2 ^ (c % 64):Nat):Int)]:=(ZLd p f).symm
 rw[e];simp only[Zi,l];rw[uF (by simp;omega)]
theorem Zlw(l:List Span){i:Nat}(a:i<l.length):ZQ (l.take (i+1))=Zls (ZQ (l.take i)) l[i].lo l[i].hi:=by
 rw[qa a];have:l[i]=⟨l[i].lo,l[i].hi⟩:=rfl;rw[this,Vo]
abbrev Zsk:V:= .lb [I 0,U 0,U 0,U 0,U 0, .sl none 0 (some 0) 0,I 0,I 0,I 0]
theorem ZCi(l:List Span)(N:l.length<2 ^ 40)(E: ∀x∈l,(0<=x.lo/\x.lo<256)/\(0<=x.hi/\x.hi<256)):PCon UY 94 [lst encS l] (· = .agg (Zd (Vp l))):=by
 refine PCon.hz (ZG Tryh.Yok (fn:=Tryz.f94) rfl ?_);refine Zh Tryh.Yok 37 ZKq rfl ?_;refine⟨_,rfl,rfl,ZN [2,3,8,9,10] [2,3,8,9,10] (λm r h=> ∃i:Nat,r= [Zsk, .p (some (Heap.empty.nx,0)),lst encS l,I (l.length:Nat),I (i:Nat)]/\i<=l.length/\m=l.length-i/\h.get Heap.empty.nx=some (.arr (reW (ZC (ZQ (l.take i)))) true)) l.length ZA ⟨0,rfl,om,om,?_⟩ ?_⟩
 .have:ZC (ZQ (l.take 0))=(0,0,0,0):=setOf_no;rw[this];rfl
 rintro m r h ⟨i,rfl,F,rfl,w⟩;refine Zh Tryh.Yok 37 ZKr rfl ?_;refine Zq (λd=>⟨rfl,QZ (n:=37) [2,3,8,9,10] kr ?_⟩) (λA=> ?_)
 .refine Zh Tryh.Yok 37 ZKs rfl ?_;have v:=E l[i] (qe d);obtain⟨g,t⟩:=Int.eq_ofNat_of_zero_le v.1.1;obtain⟨a,o⟩:=Int.eq_ofNat_of_zero_le v.2.1;have u:Zr 2 (List.drop (((i:Nat):Int).toNat*2) (row encS l))=some [.i .u8 (g:Nat), .i .u8 (a:Nat)]:=by
   rw[qdq,Xp (f:=encS) (k:=2) VO d];show some [V.i .u8 l[i].lo,V.i .u8 l[i].hi]=_;rw[t,o]
  have w1:wW (g:Int)=(g:Nat):=ZI om om;have C:wW (a:Int)=(a:Nat):=ZI om om;refine⟨Zu d,_,_,u,rfl,Zfa [2,3,5,6,8,9,10] [2,3,5,6,8,9,10] (λm r h=> ∃c:Nat,r= [Zsk, .p (some (Heap.empty.nx,0)), .lb [.i .u8 (g:Nat), .i .u8 (a:Nat)],I (c:Nat),lst encS l,I (l.length:Nat),I (i:Nat)]/\g<=c/\c<=max (a+1) g/\257-c<=m/\h.get Heap.empty.nx=some (.arr (reW (ZC (Zb8 (ZQ (l.take i)) g c))) true)) 257 ZA ⟨g,by rw[w1];rfl,om,om,om,by rw[Zfz];exact w⟩ ?_⟩;rintro G r O ⟨c,rfl,z,H,K,j⟩;refine Zn Tryh.Yok ZKt rfl ?_;rw[C];refine JT (λD=> ?_) (λB=> ?_)
  .refine ZFl om j λL e=>⟨rfl,257-(c+1),om,c+1,by rw[Ze om];rfl,om,om,qnq _,?_⟩;rw[e,qc,uF rfl,Zfy _ z]
  .have y:c=max (a+1) g:=om;subst y;simp only[Zhe];rw[uF kr];refine ZU rfl ⟨rfl,[2,3,8,9,10],rfl,?_⟩;refine Zn Tryh.Yok ZKu rfl ?_;refine⟨rfl,l.length-(i+1),om,i+1,by rw[Ze om];rfl,om,rfl,?_⟩;rw[Zhq]at j;rw[Zlw l d,t,o];exact j
 .have y:i=l.length:=om;subst y;rw[qm]at w;refine ZU rfl (Zj [2,3] ?_);refine Zo Tryh.Yok ZKv rfl ?_;refine⟨_,_,_,_,_,_,_,_,_,_,_,_,(Zs w 0 9).trans rfl,ZB rr rfl (.agg _ _ (.cons _ _ _ _ (.i _ _) (.cons _ _ _ _ (.i _ _) (.cons _ _ _ _ (.i _ _) (.cons _ _ _ _ (.i _ _) (.cons _ _ _ _ (.i _ _) (.cons _ _ _ _ (.sln _ _ none (λx v=>by cases v)) (.cons _ _ _ _ (.i _ _) (.cons _ _ _ _ (.i _ _) (.cons _ _ _ _ (.i _ _) .nil)))))))))) (by unfold Vp Qk;rw[Zm];rfl)⟩
def clQ(R:Except Nat (S4×Nat))(h:Heap)(c:Nat)(s:List UInt8)(g:Nat)(v:V)(a:Heap):Prop:=
 ∃(x:S4) (j:Nat) (e:Int),v= .agg (Zd (Qk x))/\RdE a c s j g e/\FrO h c a/\((e=0/\R= .ok (x,j))\/(e=1/\R= .error j))
abbrev zLb:V:= .lb [I 0,U 0,U 0,U 0,U 0, .sl none 0 (some 0) 0,I 0,I 0,I 0]
def ClI(f:Heap)(c:Nat)(s:List UInt8)(g:Nat)(other:Bool)(R:Except Nat (List Span×Nat))(m:Nat)(j:List V)(h:Heap):Prop:=
 ∃(i:Nat) (e:Int) (p:Nat->Bool) (first:Bool) (d:V),j= [.p (some (c,0)),zLb, .b other, .lb (setC (ZC p)), .b first,d]/\RdE h c s i g e/\FrO f c h/\
  ((e=0/\ ∃a,first=a.isEmpty/\p=ZQ a/\i<=s.length/\s.length-i<m/\setS m s i a=R)\/(e=1/\R= .error i))
theorem ZLe{h}{A:Nat}{s:List UInt8}{i g:Nat}(r:RdE h A s i g 0)(hs:s.length<2 ^ 27)(hi:i<=s.length):
  Con UY 194 [.p (some (A,0))] h (clQ (QN s i) h A s g):=by
 refine Zv UK (fn:=Tryz.f194) (Zh UK 65 ZKg rfl ?_);generalize W:QN s i=L;have go: ∀(h1:Heap) (i0:Nat) (other:Bool),RdE h1 A s i0 g 0->FrO h A h1->i0<=s.length->
   (L=match setS (s.length+1) s i0 []with| .error e=> .error e| .ok (l,j)=> .ok (ZC (λc=>ZQ l c !=other),j))->
   PreV UY 65 [0,2,3,4,5,7] (post (flat (Za Tryz.f194))) (FinS UY Tryz.f194 (AfterZ (clQ L h A s g))) .normal 65
    [.p (some (A,0)),zLb, .b other, .lb [U 0,U 0,U 0,U 0], .b true, .undef] h1:=by
  intro h1 i0 other q1 q2 a5 P;generalize t:setS (s.length+1) s i0 []=R at P;refine⟨rfl,ZN [0,2,3,4,5,7] [0,2,3,4,5,7] (ClI h A s g other R) (s.length+1) ZA ⟨i0,0,ZQ [],true, .undef,?_,q1,q2, .inl ⟨rfl,[],rfl,rfl,a5,om,t⟩⟩ ?_⟩
  .have:ZC (ZQ [])=(0,0,0,0):=setOf_no;rw[this];rfl
  clear q1 q2 a5 t r hi W;rintro m vs h2 ⟨i,e,p,first,v7,rfl,hr,D,H⟩;refine Zn UK ZKh rfl ?_;have stop:((e=0/\s[i]? =some 93/\ ∃d,p=ZQ d/\R= .ok (d,i+1))\/(e=1/\R= .error i))->XE UY 65 [0,2,3,4,5,7] [0,2,3,4,5,7] (ClI h A s g other R) m (Xd (post (flat (Za Tryz.f194)))) ((post (flat (Za Tryz.f194))).drop 1) (FinS UY Tryz.f194 (AfterZ (clQ (L) h A s g))) (.exit 0) 65
    [.p (some (A,0)),zLb, .b other, .lb (setC (ZC p)), .b first,v7] h2:=by
   intro hf;refine Zj [0,2,3,4] ?_;refine Zo UK ZKi rfl ?_;refine(Zjh hr [93] om).mono λv h3 G=> ?_;have a0: ∀(i':Nat) (e':Int) (n:V),RdE h3 A s i' g e'->FrO h2 A h3->((e'=0/\L= .ok (ZC (λc=>p c !=other),i'))\/(e'=1/\L= .error i'))-> ∀K:KT,K=Go.Y.Fin UY Tryz.f194 [2] (AfterZ (clQ (L) h A s g))->
     If other (∃n a4 a1 a3:Int,(PCon UY 176 [.agg [U (ZC p).1,U (ZC p).2.1,U (ZC p).2.2.1,U (ZC p).2.2.2]] λv=>v= .agg [U n,U a4,U a1,U a3])/\K .ret 65 [.lb [I 1,U n,U a4,U a1,U a3, .sl none 0 (some 0) 0,I 0,I 0,I 0]] h3)
      (K .ret 65 [.lb [I 1,U (ZC p).1,U (ZC p).2.1,U (ZC p).2.2.1,U (ZC p).2.2.2, .sl none 0 (some 0) 0,I 0,I 0,I 0]] h3):=by
    rintro i' e' n w1 F hd K rfl;have hx: ∀x,((e'=0/\L= .ok (x,i'))\/(e'=1/\L= .error i'))->clQ (L) h A s g (.agg (Zd (Qk x))) h3:=λx hd=>⟨x,i',e',rfl,w1,D.trans F,hd⟩;refine Zf (λho=> ?_) (λho=> ?_)
    .subst ho;have:(λc=>p c !=true)=λc=> !p c:=by funext c;cases p c<;>rfl
     rw[this]at hd;exact⟨_,_,_,_,Zqk p,finC rr rfl (Za2 (ZC λc=> !p c) (hx _ hd))⟩
    .subst ho;have:(λc=>p c !=false)=p:=by funext c;cases p c<;>rfl
     rw[this]at hd;exact finC rr rfl (Za2 (ZC p) (hx _ hd))
   rcases hf with ⟨rfl,a6,d,rfl,t⟩|⟨rfl,t⟩
   .rcases G with ⟨c,_,hc,_,w,w1,F⟩|⟨_,N,_⟩|⟨u,_⟩
    .refine⟨_,w,a0 (i+1) 0 v w1 F (.inl ⟨rfl,?_⟩) _ rfl⟩;rw[P,t]
    .rw[Qw,a6]at N;simp at N
    .exact absurd rfl u
   .rcases G with ⟨c,u,_⟩|⟨u,_⟩|⟨_,w,w1,F⟩
    .cases u
    .cases u
    .refine⟨_,w,a0 i 1 v w1 F (.inr ⟨rfl,?_⟩) _ rfl⟩;rw[P,t]
  refine⟨_,hr.c3,Zf (λO=> ?_) (λO=>stop ?_)⟩
  rotate_left
  .have O:e≠0:=by simpa using O
   rcases H with ⟨u,_⟩|H
   .exact absurd u O
   .exact .inr H
  have O:e=0:=by simpa using O
  subst O;rcases H with ⟨_,d,rfl,rfl,hi,hm,t⟩|⟨u,_⟩
  rotate_left
  .cases u
  obtain⟨m,rfl⟩: ∃m',m=m'+1:=⟨m-1,om⟩;by_cases o:d≠ []/\s[i]? =some 93
  .have X:d.isEmpty=false:=by
    cases d with
    |nil=>exact absurd rfl o.1
    |cons=>rfl
   rw[setS,uF o]at t;refine Zf (λf=>by rw[X]at f;cases f) (λ_=>⟨_,Za6 hr [93],Zf (λf=> ?_) (λf=>stop (.inl ⟨rfl,o.2,d,rfl,t.symm⟩))⟩);rw[Qw,o.2]at f;simp at f
  rw[setS,uE o]at t;clear stop;refine Zf (λh5=> ?_) (λh5=>⟨_,Za6 hr [93],Zf (λ_=> ?_) (λf=> ?_)⟩)
  rotate_left 2
  .exfalso;have f:pk s i [93]=true:=by simpa using f
   rw[Qw]at f;exact o ⟨(λe=>by rw[e]at h5;cases h5),(by simpa using f)⟩
  all_goals
   clear o h5;refine(endR hr om).mono λv h3 G=> ?_;rcases G with ⟨c1,j,_,y,w,u1,u2⟩|⟨j,_,y,w,u1,u2⟩|⟨u,_⟩
   rotate_left 2
   .exact absurd rfl u
   rotate_left
   ·-- no byte
    refine⟨_,w,_,Za6 u1 [45],Zf (λf=>by simp at f) (λ_=>⟨_,_,_,_,VX (ZQ d) (lo:=0) (hi:=0) dc dc,?_⟩)⟩;have hit:XS s i= .error j:=by unfold XS;rw[y]
    rw[hit]at t;exact⟨rfl,m,om,j,1,_,_,_,rfl,u1,D.trans u2, .inr ⟨rfl,t.symm⟩⟩
   have k1:=Zd8 y;have j1:=Vl y;obtain⟨a,rfl⟩:=Int.eq_ofNat_of_zero_le k1.1;have ha:a<256:=om;have X:(d++ [(⟨(a:Int),(a:Int)⟩:Span)]).isEmpty=false:=by cases d<;>rfl
   refine⟨_,w,_,Za6 u1 [45],Zf (λf=> ?_) (λf=> ?_)⟩
   rotate_left
   ·-- one byte alone
    have f:pk s j [45]=false:=by simpa using f
    have B: ¬s[j]? =some 45:=by rw[Qw]at f;simpa using f
    have hit:XS s i= .ok (⟨(a:Nat),(a:Nat)⟩,j):=by unfold XS;rw[y];simp only[];rw[uE B]
    rw[hit]at t;exact⟨_,_,_,_,VX (ZQ d) ha ha,rfl,m,om,j,0,_,false,_,rfl,u1,D.trans u2, .inl ⟨rfl,d++ [⟨(a:Nat),(a:Nat)⟩],X.symm,(Vo _ _ _).symm,j1.2.1,om,t⟩⟩
   have f:pk s j [45]=true:=by simpa using f
   have B:s[j]? =some 45:=by rw[Qw]at f;simpa using f
   refine(Zgw u1 om).mono λv h4 G=> ?_;rcases G with ⟨c,_,hc,w,w1,F⟩|⟨_,N,_⟩|⟨u,_⟩
   rotate_left
   .rw[B]at N;cases N
   .exact absurd rfl u
   refine⟨_,w,?_⟩;refine(endR w1 om).mono λv h5 G=> ?_;rcases G with ⟨c2,k,_,C,w,Z,x2⟩|⟨k,_,C,w,Z,x2⟩|⟨u,_⟩
   rotate_left 2
   .exact absurd rfl u
   rotate_left
   .refine⟨_,w,_,Z.c3,Zf (λf=>by simp at f) (λ_=>⟨_,_,_,_,VX (ZQ d) (hi:=0) ha dc,?_⟩)⟩;have hit:XS s i= .error k:=by unfold XS;rw[y];simp only[];rw[uF B,C]
    rw[hit]at t;exact⟨rfl,m,om,k,1,_,_,_,rfl,Z,((D.trans u2).trans F).trans x2, .inr ⟨rfl,t.symm⟩⟩
   have k2:=Zd8 C;have j2:=Vl C;obtain⟨b,rfl⟩:=Int.eq_ofNat_of_zero_le k2.1;have z:b<256:=om;have a2:(d++ [(⟨(a:Int),(b:Int)⟩:Span)]).isEmpty=false:=by cases d<;>rfl
   refine⟨_,w,_,Z.c3,Zf (λ_=>Xr (λa7=> ?_) (λa8=> ?_)) (λf=>by simp at f)⟩
   .obtain⟨h6,y1,y2,y3⟩:=Z.s1 (k-1);refine⟨_,Z.c1,h6,by rw[ZI om om,show((k:Int)-1)=((k-1:Nat):Int) from om];exact y1,?_⟩;refine(Zn7 y2 1).mono λv h7 ⟨w,z1,z2⟩=>⟨w,_,_,_,_,VX (ZQ d) ha z,?_⟩;have hit:XS s i= .error (k-1):=by unfold XS;rw[y];simp only[];rw[uF B,C];simp only[];rw[uF a7]
    rw[hit]at t;exact⟨rfl,m,om,k-1,1,_,_,_,rfl,by simpa using z1,((((D.trans u2).trans F).trans x2).trans y3).trans z2, .inr ⟨rfl,t.symm⟩⟩
   .have hit:XS s i= .ok (⟨(a:Nat),(b:Nat)⟩,k):=by unfold XS;rw[y];simp only[];rw[uF B,C];simp only[];rw[uE om]
    rw[hit]at t;exact⟨_,_,_,_,VX (ZQ d) ha z,rfl,m,om,k,0,_,false,_,rfl,Z,((D.trans u2).trans F).trans x2, .inl ⟨rfl,d++ [⟨(a:Nat),(b:Nat)⟩],a2.symm,(Vo _ _ _).symm,j2.2.1,om,t⟩⟩
 refine⟨_,Za6 r [94],Zf (λf=> ?_) (λf=> ?_)⟩
 .have z:pk s i [94]=true:=by simpa using f
  have E:s[i]? =some 94:=by rw[Qw]at z;simpa using z
  rw[f];refine(Zgw r om).mono λv h1 G=> ?_;rcases G with ⟨c,_,hc,w,w1,F⟩|⟨_,N,_⟩|⟨u,_⟩
  .refine⟨_,w,go h1 (i+1) true w1 F (qb.1 E).1 ?_⟩;rw[<-W];unfold QN;simp only[E,vG,decide_true];cases setS (s.length+1) s (i+1) []<;>rfl
  .rw[E]at N;cases N
  .exact absurd rfl u
 .have z:pk s i [94]=false:=by simpa using f
  have E:s[i]? ≠some 94:=by rw[Qw]at z;simpa using z
  rw[f];refine go h i false r (.refl _ _) hi ?_;rw[<-W];unfold QN;simp only[E,vF,decide_false];cases setS (s.length+1) s i []<;>rfl
end Go.Y
