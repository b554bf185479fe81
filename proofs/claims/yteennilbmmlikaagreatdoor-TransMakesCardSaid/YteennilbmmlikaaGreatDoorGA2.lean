/- A part of the proof. -/
import Derived.Test.YteennilbmmlikaaGreatDoorYTryzP
import Derived.Test.YteennilbmmlikaaGreatDoorYLoop
import Derived.Test.YteennilbmmlikaaGreatDoorYTryhP
import Derived.Test.YteennilbmmlikaaGreatDoorGSortK
import Derived.Test.YteennilbmmlikaaGreatDoorYFrz
namespace Go.Y
open Go.Proofs
set_option maxRecDepth 1000000
set_option maxHeartbeats 0
theorem ZJ0(s0:List UInt8)(h:Heap)(K:KT):(Zc UY (UY.loc 54) 100 (pre (flat (Za Tryz.f54))) ⟨(.s s0::List.replicate 33 .undef),[],h⟩ (VQ [0,2,3,4,5,6] K))=(If (ltI 200 (↑s0.length:Int)) (K .ret 34 [.s s0,S0,I 200,I 2,Ud,Ud] h) (K .normal 34 [.s s0,S0,I 0,I 0, .p (some (h.nx,0)),S0] (h.push (YObj.arr [.s s0,I 0,.b false] true)))):=by kernel_rfl
theorem ZJ1(s0:List UInt8)(d:Nat)(a6:Option (Nat×Nat))(l6:Nat)(c6:Option Nat)(k6:Nat)(h:Heap)(K:KT):(Zc UY (UY.loc 54) 100 ((flat (Zx (post (flat (Za Tryz.f54)))))) ⟨mk 34 (([0,5,6]:List Nat).zip [.s s0,.p (some (d,0)),S a6 l6 c6 k6]),[],h⟩ (VQ [0,2,3,4,5,6] K))=(∃n,Zb h d 1 1=some [I n]∧If (ltI n (↑s0.length:Int)) (Con UY 105 [.p (some (d,0))] h fun(v:V) (h':Heap)=> ∃n n_1 cs l c,v=.agg [I n,.i .u8 n_1,J cs l c]∧ ∃a l_1 c_1 k h,Zf UY h' 56 56 (S a6 l6 c6 k6) (J [I n,.i .u8 n_1,J cs l c] 1 (some 1))=some (S a l_1 c_1 k,h)∧ ∃b,Zb h d 2 1=some [.b b]∧If b (∃n,Zb h d 1 1=some [I n]∧K .ret 34 [.s s0,S0,I n,I 1, .p (some (d,0)),S a l_1 c_1 k] h) (K .normal 34 [.s s0,Ud,Ud,Ud, .p (some (d,0)),S a l_1 c_1 k] h)) (K (.exit 0) 34 [.s s0,Ud,Ud,Ud, .p (some (d,0)),S a6 l6 c6 k6] h)):=by kernel_rfl
theorem ZJ2(a6:Option (Nat×Nat))(l6:Nat)(c6:Option Nat)(k6:Nat)(h:Heap)(K:KT):(Zc UY (UY.loc 54) 100 (((post (flat (Za Tryz.f54))).drop 1)) ⟨mk 34 (([6]:List Nat).zip [S a6 l6 c6 k6]),[],h⟩ (VQ [2,3,4] K))=(K .ret 34 [S a6 l6 c6 k6,I 0,I 0] h):=by kernel_rfl
theorem ZJ3(s0:List UInt8)(h:Heap)(K:KT):(Zc UY (UY.loc 24) 100 (pre (flat (Za Tryz.f24))) ⟨(.s s0::List.replicate 70 .undef),[],h⟩ (VQ [0,2,3,4,5,6] K))=(If (ltI 200 (↑s0.length:Int)) (K .ret 71 [.s s0,S0,I 200,I 2,Ud,Ud] h) (K .normal 71 [.s s0,S0,I 0,I 0,S0,I 0] h)):=by kernel_rfl
theorem ZJ4(s0:List UInt8)(d:Option (Nat×Nat))(e:Nat)(f:Option Nat)(g:Nat)(b:Int)(h:Heap)(K:KT):(Zc UY (UY.loc 24) 100 ((flat (Zx (post (flat (Za Tryz.f24)))))) ⟨mk 71 (([0,5,6]:List Nat).zip [.s s0,S d e f g,I b]),[],h⟩ (VQ [0,2,3,4,5,6] K))=(If (ltI b (↑s0.length:Int)) (∃c,(0<=b∧s0[b.toNat]? =some c)∧If ((↑c.toNat:Int)==42) (∃a l c k h_1,Zf UY h 56 56 (S d e f g) (J [I 2,.i .u8 0,S0] 1 (some 1))=some (S a l c k,h_1)∧K .normal 71 [.s s0,Ud,Ud,Ud,S a l c k,I (IntKind.i64.wrap (b+1))] h_1) (If ((↑c.toNat:Int)==63) (∃a l c k h_1,Zf UY h 56 56 (S d e f g) (J [I 1,.i .u8 0,S0] 1 (some 1))=some (S a l c k,h_1)∧K .normal 71 [.s s0,Ud,Ud,Ud,S a l c k,I (IntKind.i64.wrap (b+1))] h_1) (If ((↑c.toNat:Int)==91) (∃cs l c n n_1,(PCon UY 62 [.s s0,I (IntKind.i64.wrap (b+1))] fun(v:V)=>v=.tup [J cs l c,I n,I n_1])∧If (ltI n 0) (K .ret 71 [.s s0,S0,I n_1,I 1,S d e f g,I (IntKind.i64.wrap (b+1))] h) (∃a l_1 c_1 k h_1,Zf UY h 56 56 (S d e f g) (J [I 3,.i .u8 0,J cs l c] 1 (some 1))=some (S a l_1 c_1 k,h_1)∧K .normal 71 [.s s0,Ud,Ud,Ud,S a l_1 c_1 k,I n] h_1)) (If ((↑c.toNat:Int)==92) (If (leI (↑s0.length:Int) (IntKind.i64.wrap (b+1))) (K .ret 71 [.s s0,S0,I (IntKind.i64.wrap (b+1)),I 1,S d e f g,I (IntKind.i64.wrap (b+1))] h) (∃c,(0<=IntKind.i64.wrap (b+1)∧s0[(IntKind.i64.wrap (b+1)).toNat]? =some c)∧ ∃a l c_1 k h_1,Zf UY h 56 56 (S d e f g) (J [I 0,.i .u8 (↑c.toNat:Int),S0] 1 (some 1))=some (S a l c_1 k,h_1)∧K .normal 71 [.s s0,Ud,Ud,Ud,S a l c_1 k,I (IntKind.i64.wrap (IntKind.i64.wrap (b+1)+1))] h_1)) (∃a l c_1 k h_1,Zf UY h 56 56 (S d e f g) (J [I 0,.i .u8 (↑c.toNat:Int),S0] 1 (some 1))=some (S a l c_1 k,h_1)∧K .normal 71 [.s s0,Ud,Ud,Ud,S a l c_1 k,I (IntKind.i64.wrap (b+1))] h_1))))) (K (.exit 0) 71 [.s s0,Ud,Ud,Ud,S d e f g,I b] h)):=by kernel_rfl
theorem ZJ5(a:Option (Nat×Nat))(b:Nat)(c:Option Nat)(d:Nat)(h:Heap)(K:KT):(Zc UY (UY.loc 24) 100 (((post (flat (Za Tryz.f24))).drop 1)) ⟨mk 71 (([5]:List Nat).zip [S a b c d]),[],h⟩ (VQ [2,3,4] K))=(K .ret 71 [S a b c d,I 0,I 0] h):=by kernel_rfl
theorem ZJ6(a n0 h K):CP UY 50 (pre (flat (Za Tryz.f50))) (J a n0 none::Rp 15) h [0,3] K=(K .normal 16 [J a n0 none,I 0] h):=by kernel_rfl
theorem ZJ7(a n0 x3 h K):CP UY 50 (flat (Zx (post (flat (Za Tryz.f50))))) (MZ 16 [0,3] [J a n0 none,I x3]) h [0,2,3] K=(If (ltI x3 n0) ((0<=x3∧x3<n0)∧ ∃b c d e f,Zo 3 (List.drop (x3.toNat*3) a)=some [I b,.i .u8 c,J d e f]∧ ∃g,(PCon UY 101 [.agg [I b,.i .u8 c,J d e f]] fun(v:V)=>v=.b g)∧If (!g) (K .ret 16 [J a n0 none, .b false,I x3] h) (K .normal 16 [J a n0 none,Ud,I (IntKind.i64.wrap (x3+1))] h)) (K (.exit 0) 16 [J a n0 none,Ud,I x3] h)):=by kernel_rfl
theorem ZJ8(h K):CP UY 50 ((post (flat (Za Tryz.f50))).drop 1) (MZ 16 [] []) h [2] K=(K .ret 16 [.b true] h):=by kernel_rfl
theorem ZE9(a d e c h K):CP UY 101 (pre (flat (Za Tryz.f101))) (.agg [I a,.i .u8 d,J e c none]::Rp 53) h [1,2,3] K=(If (a==0) (K .ret 54 [.lb [I a, .i .u8 d,J e c none], .b ((↑c:Int)==0),Ud] h) (If (d !=0) (K .ret 54 [.lb [I a, .i .u8 d,J e c none], .b false,Ud] h) (If (ltI a 1) (K .ret 54 [.lb [I a, .i .u8 d,J e c none], .b false,Ud] h) (If (ltI 3 a) (K .ret 54 [.lb [I a, .i .u8 d,J e c none], .b false,Ud] h) (If (!(a==3)==ltI 0 c) (K .ret 54 [.lb [I a, .i .u8 d,J e c none], .b false,Ud] h) (K .normal 54 [.lb [I a, .i .u8 d,J e c none], .b false,I 0] h)))))):=by kernel_rfl
theorem ZFa(d e c a x3 h K):CP UY 101 (flat (Zx (post (flat (Za Tryz.f101))))) (MZ 54 [1,3] [.lb [I d,.i .u8 e,J c a none],I x3]) h [1,2,3] K=(If (ltI x3 a) ((0<=x3∧x3<a)∧ ∃f,Zo 1 (List.drop 0 (List.drop (x3.toNat*2) c))=some [.i .u8 f]∧(0<=x3∧x3<a)∧ ∃g,Zo 1 (List.drop 1 (List.drop (x3.toNat*2) c))=some [.i .u8 g]∧If (ltI g f) (K .ret 54 [.lb [I d, .i .u8 e,J c a none], .b false,I x3] h) (K .normal 54 [.lb [I d, .i .u8 e,J c a none],Ud,I (IntKind.i64.wrap (x3+1))] h)) (K (.exit 0) 54 [.lb [I d, .i .u8 e,J c a none],Ud,I x3] h)):=by kernel_rfl
theorem ZFb(h K):CP UY 101 ((post (flat (Za Tryz.f101))).drop 1) (MZ 54 [] []) h [2] K=(K .ret 54 [.b true] h):=by kernel_rfl
def ZFc(r:Except Nat (Glob×Nat))(h:Heap)(id:Nat)(s:List UInt8)(v:V)(h':Heap):Prop:=match r with
 | .error e=> ∃x:Glob,v= .agg (encG x)∧Rd h' id s e true∧FrO h id h'
 | .ok (x,j)=>v= .agg (encG x)∧Rd h' id s j false∧FrO h id h'

theorem Zaz{h:Heap}{k b:Int}{Q:V->Heap->Prop}(hq:Q (.agg (encG ⟨k,b,[]⟩)) h):AfterZ Q (.agg [I k, .i .u8 b, .sl none 0 (some 0) 0]) h:=
 ⟨[],_, .inl (.agg _ _ (.cons _ _ _ _ (.same _) (.cons _ _ _ _ (.same _) (.cons _ _ _ _ (.frz _ _ (.sln _ _ none (fun x hx=>by cases hx))) .nil)))),hq⟩

theorem Zsd{h:Heap}{id:Nat}{s:List UInt8}{i:Nat}(r:Rd h id s i false)(hs:s.length<2 ^ 28)(hi:i<s.length):
  Con UY 105 [.p (some (id,0))] h (ZFc (Xr s i) h id s):=by
 refine Zu UK (fn:=Tryz.f105) (ZB UK (loc:=UY.loc 105) 100 [2] ?_)
 rw[show(⟨[.p (some (id,0))]++List.replicate (Tryz.f105.ntmps- [V.p (some (id,0))].length) .undef,[],h⟩:St)=⟨.p (some (id,0))::List.replicate 24 .undef,[],h⟩ by rfl,ZE8]
 refine(Zcq r (by omega) (by omega)).mono fun v h1 ⟨hv,g1,g2⟩=>⟨_,hv,?_⟩
 have hsi:s[i]? =some s[i]:=by simp[hi]
 simp only[Zai,hsi]at g1 ⊢
 rw[show(42:Int)=(((42:UInt8).toNat:Nat):Int) by decide,show(63:Int)=(((63:UInt8).toNat:Nat):Int) by decide,show(91:Int)=(((91:UInt8).toNat:Nat):Int) by decide,show(92:Int)=(((92:UInt8).toNat:Nat):Int) by decide,Ja,Ja,Ja,Ja]
 refine Wi (fun c1=>finC (.inr rfl) rfl (Zaz ?_)) (fun c1=> ?_)
 ·simp only[Xr,hsi,c1,if_true];exact⟨rfl,g1,g2⟩
 refine Wi (fun c2=>finC (.inr rfl) rfl (Zaz ?_)) (fun c2=> ?_)
 ·unfold Xr;rw[hsi];simp only[];rw[if_neg c1,if_pos c2];exact⟨rfl,g1,g2⟩
 refine Wi (fun c3=> ?_) (fun c3=> ?_)
 ·refine(Zzx g1 hs (by omega)).mono fun v h2 hq=> ?_
  cases he:setS (s.length+1) s (i+1) [] with
  |error e=>
   have hp:Xr s i= .error e:=by unfold Xr;rw[hsi];simp only[];rw[if_neg c1,if_neg c2,if_pos c3,he]
   rw[he]at hq
   obtain⟨rfl,q1,q2⟩:=hq
   refine⟨_,_,_,rfl,finC (.inr rfl) rfl (.now ?_)⟩
   rw[hp]
   exact⟨⟨3,0,[]⟩,rfl,q1,g2.trans q2⟩
  |ok y=>
   obtain⟨l,j⟩:=y
   have hp:Xr s i= .ok (⟨3,0,l⟩,j):=by unfold Xr;rw[hsi];simp only[];rw[if_neg c1,if_neg c2,if_pos c3,he]
   rw[he]at hq
   obtain⟨rfl,q1,q2⟩:=hq
   refine⟨_,_,_,rfl,finC (.inr rfl) rfl (.now ?_)⟩
   rw[hp]
   exact⟨rfl,q1,g2.trans q2⟩
 refine Wi (fun c4=> ?_) (fun c4=>finC (.inr rfl) rfl (Zaz ?_))
 ·refine(Zcq g1 (by omega) (by omega)).mono fun v h2 ⟨hv,q1,q2⟩=>⟨_,hv,finC (.inr rfl) rfl (Zaz ?_)⟩
  cases hs2:s[i+1]? with
  |none=>
   have hp:Xr s i= .error (i+1):=by unfold Xr;rw[hsi];simp only[];rw[if_neg c1,if_neg c2,if_neg c3,if_pos c4,hs2]
   simp only[Zai,hs2]at q1 ⊢
   rw[hp]
   exact⟨_,rfl,q1,g2.trans q2⟩
  |some d=>
   have hp:Xr s i= .ok (⟨0,d.toNat,[]⟩,i+2):=by unfold Xr;rw[hsi];simp only[];rw[if_neg c1,if_neg c2,if_neg c3,if_pos c4,hs2]
   simp only[Zai,hs2]at q1 ⊢
   rw[hp]
   exact⟨rfl,q1,g2.trans q2⟩
 ·simp only[Xr,hsi,c1,c2,c3,c4,if_false];exact⟨rfl,g1,g2⟩

def Zfl(s:List UInt8):V:=
 if 200<s.length then .tup [lst encG [], .i .i64 200, .i .i64 2]else match Qu (s.length+1) s 0 [] with
  | .error e=> .tup [lst encG [], .i .i64 (e:Nat), .i .i64 1]
  | .ok l=> .tup [lst encG l, .i .i64 0, .i .i64 0]

def ZFd(s:List UInt8)(R:Except Nat (List Glob))(m:Nat)(vs:List V)(h:Heap):Prop:=
 ∃(id i:Nat) (out:List Glob) (a:Option (Nat×Nat)) (l:Nat) (c:Option Nat) (k:Nat),vs= [.s s, .p (some (id,0)), .sl a l c k]∧Lst encG 3 h a l c k out∧(∀j,a=some (j,0)->id<j)∧
  Rd h id s i false∧i<=s.length∧out.length<=i∧s.length-i<m∧Qu m s i out=R

theorem Zg7{h:Heap}{a}{l:Nat}{c}{kk:Nat}{out:List Glob}(x:Glob){new:List V}(hn:new.length=3)(hc:Zk new=true)(hcold:ZQ new=true)(hf:FrzL .empty new (encG x))(hl:Lst encG 3 h a l c kk out)(hb:out.length<2 ^ 29):
  ∃a' l' c' k' h',Zf UY h 56 56 (.sl a l c kk) (.ts new 1 (some 1))=some (.sl a' l' c' k',h')∧Lst encG 3 h' a' l' c' k' (out++ [x])∧Fr h a h'∧ ∃j,a'=some (j,0)∧h.nx<=j:=
 Lst.app1 (Y:=UY) (e:=59) (te:=⟨3,40, .struct [(0,3),(1,5),(2,57)],[I 0, .i .u8 0, .sl none 0 (some 0) 0]⟩) x (by kernel_rfl) (by kernel_rfl) rfl (by decide) hl hf hcold hn hc (by decide) hb

theorem Zje(s:List UInt8):PCon UY 54 [.s s] (· =Zfl s):=by
 refine ZE UK (fn:=Tryz.f54) rfl ?_
 refine Xm UK (n:=34) (loc:=UY.loc 54) 100 [0,2,3,4,5,6] (by kernel_rfl) ?_
 rw[show(⟨[.s s]++List.replicate (Tryz.f54.ntmps- [V.s s].length) .undef,[], .empty⟩:St)=⟨.s s::List.replicate 33 .undef,[], .empty⟩ by rfl,ZJ0]
 unfold Zfl
 refine XC (fun hlt=> ?_) (fun hge=> ?_)
 ·rw[if_pos (by omega)]
  exact fin3 (.inr rfl) rfl (QY encG _ _ _) (.i _ _) (.i _ _) rfl
 have hs:s.length<=200:=by omega
 rw[if_neg (by omega)]
 generalize hR:Qu (s.length+1) s 0 []=R
 refine⟨rfl,ZL [0,5,6] [0,2,3,4,5,6] (ZFd s R) (s.length+1) Zy
  ⟨_,0,[],none,0,some 0,0,rfl,Lst.nil _ _ _ _ _,by simp,⟨by simp[qk],by simp⟩,by omega,by simp,by omega,hR⟩ ?_⟩
 rintro m vs h ⟨id,i,out,a,l,c,k,rfl,hL,hnew,hr,hi,hol,hm,hg⟩
 refine ZT UK (loc:=UY.loc 54) 100 [0,2,3,4,5,6] ?_
 rw[ZJ1]
 obtain⟨m,rfl⟩: ∃m',m=m'+1:=⟨m-1,by omega⟩
 have hll:=hL.len
 refine⟨_,hr.c1,Zm (fun hlt=> ?_) (fun hge=> ?_)⟩
 ·refine(Zsd hr (by omega) hlt).mono fun v h2 hq=> ?_
  simp only[Qu,hlt,if_true]at hg
  have hkeep:FrO h id h2-> ∀j,a=some (j,0)->j<h.nx->h2.get j=h.get j:=fun f j hj hl=>f.2 j hl (fun e=>by have:=hnew j hj;omega)
  have hne: ∀o,a≠some (id,o):=by
   intro o ho
   have h0:=hL.off ho
   subst h0
   have:=hnew id ho
   omega
  cases he:Xr s i with
  |error e=>
   rw[he]at hq hg
   obtain⟨x,rfl,g1,g2⟩:=hq
   obtain⟨a',l',c',k',h3,q1,q2,q3,j,q4,q5⟩:=Zg7 x rfl rfl rfl (ZU _ rfl) (hL.fr g2.1 (hkeep g2)) (by omega)
   have g1':Rd h3 id s e true:=⟨by rw[q3.2 id g1.lt hne];exact g1.get,qv g1.lt q3.1⟩
   refine⟨_,_,_,_,_,rfl,a',l',c',k',h3,q1,true,g1'.c2,?_⟩
   refine⟨_,g1'.c1,?_⟩
   subst hg
   exact fin3 (.inr rfl) rfl (QY encG _ _ _) (.i _ _) (.i _ _) rfl
  |ok y=>
   obtain⟨x,j⟩:=y
   rw[he]at hq hg
   have hj:=Zdj he
   obtain⟨rfl,g1,g2⟩:=hq
   obtain⟨a',l',c',k',h3,q1,q2,q3,jj,q4,q5⟩:=Zg7 x rfl rfl rfl (ZU _ rfl) (hL.fr g2.1 (hkeep g2)) (by omega)
   have g1':Rd h3 id s j false:=⟨by rw[q3.2 id g1.lt hne];exact g1.get,qv g1.lt q3.1⟩
   refine⟨_,_,_,_,_,rfl,a',l',c',k',h3,q1,false,g1'.c2,rfl,m,by omega,id,j,out++ [x],a',l',c',k',rfl,q2,?_,g1',hj.2,by simp;omega,by omega,hg⟩
   intro j' hj';rw[q4]at hj';cases hj'
   have:=hr.lt
   have:=g2.1
   omega
 ·refine Zi [6] ?_
  refine ZB UK (loc:=UY.loc 54) 100 [2,3,4] ?_
  rw[show pick [0,2,3,4,5,6] [6] [V.s s,V.undef,V.undef,V.undef,V.p (some (id,0)),V.sl a l c k]= [V.sl a l c k] by rfl,ZJ2]
  simp only[Qu,Nat.not_lt.2 hge,if_false]at hg
  subst hg
  exact Zg0 (.inr rfl) rfl (hL.frz (by decide) WU) (.i _ _) (.i _ _) rfl
def Zse(s:List UInt8)(R:Except Nat (List Glob))(m:Nat)(vs:List V)(h:Heap):Prop:=
 ∃(i:Nat) (out:List Glob) (a:Option (Nat×Nat)) (l:Nat) (c:Option Nat) (k:Nat),vs= [.s s, .sl a l c k, .i .i64 (i:Nat)]∧Lst encG 3 h a l c k out∧
  i<=s.length∧out.length<=i∧s.length-i<m∧Qu m s i out=R

theorem Zu8(k b:Int):FrzL .empty [I k, .i .u8 b, .sl none 0 (some 0) 0] (encG ⟨k,b,[]⟩):=
 .cons _ _ _ _ (.i _ _) (.cons _ _ _ _ (.i _ _) (.cons _ _ _ _ (.sln _ _ none (fun x hx=>by cases hx)) .nil))

theorem Zfm(s:List UInt8):PCon UY 24 [.s s] (· =Zfl s):=by
 refine ZE UK (fn:=Tryz.f24) rfl ?_
 refine Xm UK (n:=71) (loc:=UY.loc 24) 100 [0,2,3,4,5,6] (by kernel_rfl) ?_
 rw[show(⟨[.s s]++List.replicate (Tryz.f24.ntmps- [V.s s].length) .undef,[], .empty⟩:St)=⟨.s s::List.replicate 70 .undef,[], .empty⟩ by rfl,ZJ3]
 unfold Zfl
 refine XC (fun hlt=> ?_) (fun hge=> ?_)
 ·rw[if_pos (by omega)]
  exact fin3 (.inr rfl) rfl (QY encG _ _ _) (.i _ _) (.i _ _) rfl
 have hs:s.length<=200:=by omega
 rw[if_neg (by omega)]
 generalize hR:Qu (s.length+1) s 0 []=R
 refine⟨rfl,ZL [0,5,6] [0,2,3,4,5,6] (Zse s R) (s.length+1) Zy
  ⟨0,[],none,0,some 0,0,rfl,Lst.nil _ _ _ _ _,by omega,by simp,by omega,hR⟩ ?_⟩
 rintro m vs h ⟨i,out,a,l,c,k,rfl,hL,hi,hol,hm,hg⟩
 refine ZT UK (loc:=UY.loc 24) 100 [0,2,3,4,5,6] ?_
 rw[ZJ4]
 obtain⟨m,rfl⟩: ∃m',m=m'+1:=⟨m-1,by omega⟩
 have hll:=hL.len
 refine Zm (fun hlt=> ?_) (fun hge=> ?_)
 ·have hsi:s[i]? =some s[i]:=by simp[hlt]
  simp only[Qu,hlt,if_true]at hg
  have more: ∀(x:Glob) (j:Nat) (new:List V),Xr s i= .ok (x,j)->new.length=3->Zk new=true->ZQ new=true->FrzL .empty new (encG x)-> ∀v6:Int,v6=(j:Nat)->
    ∃(a':Option (Nat×Nat)) (l':Nat) (c':Option Nat) (k':Nat) (h_1:Heap),Zf UY h 56 56 (.sl a l c k) (.ts new 1 (some 1))=some (.sl a' l' c' k',h_1)∧
     XH UY 71 [0,2,3,4,5,6] [0,5,6] (Zse s R) (m+1) (Xa (post (flat (Za Tryz.f24)))) ((post (flat (Za Tryz.f24))).drop 1)
      (FinS UY Tryz.f24 fun v h=> ∃r,Frz h v r∧r=match R with| .error e=> .tup [lst encG [],I e,I 1]| .ok l=> .tup [lst encG l,I 0,I 0])
      .normal 71 [.s s, .undef, .undef, .undef, .sl a' l' c' k',I v6] h_1:=by
   rintro x j new hp h1 h2 h3 h4 v6 rfl
   have hj:=Zdj hp
   obtain⟨a',l',c',k',h',q1,q2,_⟩:=Zg7 x h1 h2 h3 h4 hL (by omega)
   rw[hp]at hg
   exact⟨a',l',c',k',h',q1,rfl,m,by omega,j,out++ [x],a',l',c',k',rfl,q2,hj.2,by simp;omega,by omega,hg⟩
  refine⟨s[i],⟨by omega,by simp[hlt]⟩,?_⟩
  rw[show(42:Int)=(((42:UInt8).toNat:Nat):Int) by decide,show(63:Int)=(((63:UInt8).toNat:Nat):Int) by decide,show(91:Int)=(((91:UInt8).toNat:Nat):Int) by decide,show(92:Int)=(((92:UInt8).toNat:Nat):Int) by decide,Ja,Ja,Ja,Ja,Zh (by omega)]
  refine Wi (fun c1=> ?_) (fun c1=> ?_)
  ·exact more ⟨2,0,[]⟩ (i+1) _ (by unfold Xr;rw[hsi];simp only[];rw[if_pos c1]) rfl rfl rfl (Zu8 _ _) _ rfl
  refine Wi (fun c2=> ?_) (fun c2=> ?_)
  ·exact more ⟨1,0,[]⟩ (i+1) _ (by unfold Xr;rw[hsi];simp only[];rw[if_neg c1,if_pos c2]) rfl rfl rfl (Zu8 _ _) _ rfl
  refine Wi (fun c3=> ?_) (fun c3=> ?_)
  ·have hc:=Zi3 s (i+1) (by omega) (by omega)
   cases he:setS (s.length+1) s (i+1) [] with
   |error e=>
    have hp:Xr s i= .error e:=by unfold Xr;rw[hsi];simp only[];rw[if_neg c1,if_neg c2,if_pos c3,he]
    rw[he]at hc
    rw[hp]at hg
    refine⟨_,_,_,_,_,hc,XC (fun _=> ?_) (fun h=>by omega)⟩
    subst hg
    exact fin3 (.inr rfl) rfl (QY encG _ _ _) (.i _ _) (.i _ _) rfl
   |ok y=>
    obtain⟨l1,j⟩:=y
    have hp:Xr s i= .ok (⟨3,0,l1⟩,j):=by unfold Xr;rw[hsi];simp only[];rw[if_neg c1,if_neg c2,if_pos c3,he]
    rw[he]at hc
    exact⟨_,_,_,_,_,hc,XC (fun h=>by omega) (fun _=>more ⟨3,0,l1⟩ j _ hp rfl rfl rfl (ZU _ rfl) _ rfl)⟩
  refine Wi (fun c4=> ?_) (fun c4=> ?_)
  ·refine Wx (fun hle=> ?_) (fun hl2=> ?_)
   ·have hp:Xr s i= .error (i+1):=by unfold Xr;rw[hsi];simp only[];rw[if_neg c1,if_neg c2,if_neg c3,if_pos c4,qq (by omega)]
    rw[hp]at hg
    subst hg
    exact fin3 (.inr rfl) rfl (QY encG _ _ _) (.i _ _) (.i _ _) rfl
   ·have hl:i+1<s.length:=by omega
    refine⟨s[i+1],⟨by omega,by rw[show(((i+1:Nat):Int)).toNat=i+1 by omega];simp[hl]⟩,?_⟩
    rw[Zh (by omega)]
    exact more ⟨0,s[i+1].toNat,[]⟩ (i+2) _ (by unfold Xr;rw[hsi];simp only[];rw[if_neg c1,if_neg c2,if_neg c3,if_pos c4];simp[hl]) rfl rfl rfl (Zu8 _ _) _ rfl
  ·exact more ⟨0,s[i].toNat,[]⟩ (i+1) _ (by unfold Xr;rw[hsi];simp only[];rw[if_neg c1,if_neg c2,if_neg c3,if_neg c4]) rfl rfl rfl (Zu8 _ _) _ rfl
 ·refine Zi [5] ?_
  refine ZB UK (loc:=UY.loc 24) 100 [2,3,4] ?_
  rw[show pick [0,2,3,4,5,6] [5] [V.s s,V.undef,V.undef,V.undef,V.sl a l c k,I i]= [V.sl a l c k] by rfl,ZJ5]
  simp only[Qu,Nat.not_lt.2 hge,if_false]at hg
  subst hg
  exact Zg0 (.inr rfl) rfl (hL.frz (by decide) WU) (.i _ _) (.i _ _) rfl
end Go.Y
namespace Go.Y
set_option maxRecDepth 1000000
set_option maxHeartbeats 0
def ZJy(g:Glob)(c:Int):Bool:=if g.k=0 then g.b==c else g.k==1||g.sp.any fun x=>leI x.lo c&&leI c x.hi

def M:List Glob->List UInt8->Bool
 | [],[]=>true
 | [],_::_=>false
 |g::l,[]=>g.k==2&&M l []
 |g::l,c::r=>if g.k=2 then M l (c::r)||M (g::l) r else ZJy g c.toNat&&M l r
termination_by l s=>(l.length,s.length)
def tab(l:List Glob)(s:List UInt8)(i k:Nat):Bool:=M (l.take i) (s.take k)

def oneS(g:Glob):Bool:=
 if g.k=0 then g.sp.isEmpty else if g.k=1∨g.k=2 then g.b==0&&g.sp.isEmpty else if g.k=3 then g.b==0&& !g.sp.isEmpty&& !g.sp.any (fun x=>ltI x.hi x.lo)else false
def mayS(l:List Glob):Bool:=l.all oneS
end Go.Y
namespace Go.Y
open Go.Proofs
set_option maxRecDepth 1000000
set_option maxHeartbeats 0
theorem ZJ9(a n0 h K):CP UY 48 (flat (Za Tryz.f48)) (J a n0 none::Rp 5) h [2] K=(Con UY 97 [J a n0 none,V.fn (Fn.func (98:Nat)) [] []] h fun(v:V) (h':Heap)=> ∃b,v=.b b∧K .ret 6 [.b !b] h'):=by kernel_rfl
theorem ZKa(a n0 h K):CP UY 97 (flat (Za Tryz.f97)) (J a n0 none::V.fn (.func 98) [] []::Rp 7) h [4] K=(Con UY 130 [J a n0 none,V.fn (Fn.func 98) [] []] h fun(v:V) (h':Heap)=> ∃c,v=I c∧K .ret 9 [.b (leI 0 c)] h'):=by kernel_rfl
theorem ZFe(a n0 h K):CP UY 130 (pre (flat (Za Tryz.f130))) (J a n0 none::V.fn (.func 98) [] []::Rp 17) h [0,1,7,8] K=(K .normal 19 [J a n0 none, .fn (Fn.func 98) [] [],I (n0:Int),I 0] h):=by kernel_rfl
theorem ZFf(a n0 x8 h K):CP UY 130 (flat (Zx (post (flat (Za Tryz.f130))))) (MZ 19 [0,1,7,8] [J a n0 none,V.fn (Fn.func 98) [] [],I (n0:Int),I x8]) h [0,1,4,7,8] K=(If (ltI x8 n0) ((0<=x8∧x8<n0)∧ ∃b c d e f,Zo 3 (List.drop (x8.toNat*3) a)=some [I b,.i .u8 c,J d e f]∧ ∃g,(PCon UY 98 [.agg [I b,.i .u8 c,J d e f]] fun(v:V)=>v=.b g)∧If g (K .ret 19 [J a n0 none, .fn (Fn.func 98) [] [],I x8,I (n0:Int),I x8] h) (K .normal 19 [J a n0 none, .fn (Fn.func 98) [] [],Ud,I (n0:Int),I (IntKind.i64.wrap (x8+(1:Int)))] h)) (K (.exit 0) 19 [J a n0 none, .fn (Fn.func 98) [] [],Ud,I (n0:Int),I x8] h)):=by kernel_rfl
theorem ZFg(h K):CP UY 130 ((post (flat (Za Tryz.f130))).drop 1) (MZ 19 [] []) h [4] K=(K .ret 19 [I (-1)] h):=by kernel_rfl
theorem ZKb(a c d e h K):CP UY 98 (flat (Za Tryz.f98)) (.agg [I a,.i .u8 c,J d e none]::Rp 5) h [2] K=(∃b,(PCon UY 99 [.agg [I a,.i .u8 c,J d e none]] fun v=>v=.b b)∧K .ret 6 [.b !b] h):=by kernel_rfl
theorem ZKc(c d e a h K):CP UY 99 (flat (Za Tryz.f99)) (.agg [I c,.i .u8 d,J e a none]::Rp 39) h [2] K=(If (c==(0:Int)) (K .ret 40 [.b ((↑a:Int)==(0:Int))] h) ((fun P0=>If (c==(1:Int)) P0 (If (c==(2:Int)) P0 (If (c==(3:Int)) (If (d==(0:Int)) (If (ltI 0 a) (Con UY 131 [J e a none,V.fn (Fn.func (132:Nat)) [] []] h fun(v:V) (h':Heap)=> ∃b,v=.b b∧K .ret 40 [.b !b] h') (K .ret 40 [.b false] h)) (K .ret 40 [.b false] h)) (K .ret 40 [.b false] h)))) (If (d==(0:Int)) (K .ret 40 [.b ((↑a:Int)==(0:Int))] h) (K .ret 40 [.b false] h)))):=by kernel_rfl
theorem ZFh(a c h K):CP UY 132 (flat (Za Tryz.f132)) (.agg [.i .u8 a,.i .u8 c]::Rp 7) h [2] K=(K .ret 8 [.b (ltI c a)] h):=by kernel_rfl
theorem Zzy(a n0 h K):CP UY 131 (flat (Za Tryz.f131)) (J a n0 none::V.fn (.func 132) [] []::Rp 7) h [4] K=(Con UY 167 [J a n0 none,V.fn (Fn.func 132) [] []] h fun(v:V) (h':Heap)=> ∃c,v=I c∧K .ret 9 [.b (leI 0 c)] h'):=by kernel_rfl
theorem Zzz(a n0 h K):CP UY 167 (pre (flat (Za Tryz.f167))) (J a n0 none::V.fn (.func 132) [] []::Rp 17) h [0,1,7,8] K=(K .normal 19 [J a n0 none, .fn (Fn.func 132) [] [],I (n0:Int),I 0] h):=by kernel_rfl
theorem Zz0(a n0 x8 h K):CP UY 167 (flat (Zx (post (flat (Za Tryz.f167))))) (MZ 19 [0,1,7,8] [J a n0 none,V.fn (Fn.func 132) [] [],I (n0:Int),I x8]) h [0,1,4,7,8] K=(If (ltI x8 n0) ((0<=x8∧x8<n0)∧ ∃b c,Zo 2 (List.drop (x8.toNat*2) a)=some [.i .u8 b,.i .u8 c]∧ ∃d,(PCon UY 132 [.agg [.i .u8 b,.i .u8 c]] fun v=>v=.b d)∧If d (K .ret 19 [J a n0 none, .fn (Fn.func 132) [] [],I x8,I (n0:Int),I x8] h) (K .normal 19 [J a n0 none, .fn (Fn.func 132) [] [],Ud,I (n0:Int),I (IntKind.i64.wrap (x8+1))] h)) (K (.exit 0) 19 [J a n0 none, .fn (Fn.func 132) [] [],Ud,I (n0:Int),I x8] h)):=by kernel_rfl
theorem Zz1(h K):CP UY 167 ((post (flat (Za Tryz.f167))).drop 1) (MZ 19 [] []) h [4] K=(K .ret 19 [I (-1)] h):=by kernel_rfl
theorem Zu9(x:Span):PCon UY 132 [.agg (encS x)] (· = .b (ltI x.hi x.lo)):=by
 refine ZE UK (fn:=Tryz.f132) rfl (ZB UK (loc:=UY.loc 132) 100 [2] ?_)
 refine Eq.mpr (ZFh x.lo x.hi _ _) ?_
 exact Zv (.inr rfl) rfl (.b _) rfl

theorem Zva(l:List Span)(p:Span->Bool)(h:Heap)(hl:l.length<2 ^ 30)(hp: ∀x∈l,PCon UY 132 [.agg (encS x)] (· = .b (p x))):
  Con UY 167 [lst encS l, .fn (.func 132) [] []] h fun v h'=> ∃n:Int,v= I n∧leI 0 n=l.any p∧h'=h:=by
 refine Zu UK (fn:=Tryz.f167) ?_
 refine Xm UK (n:=19) (loc:=UY.loc 167) 100 [0,1,7,8] (by kernel_rfl) ?_
 refine Eq.mpr (Zzz (row encS l) l.length h _) ?_
 refine⟨rfl,ZL [0,1,7,8] [0,1,4,7,8] (fun m vs h'=> ∃i:Nat,vs= [lst encS l, .fn (.func 132) [] [],I l.length,I (i:Nat)]∧i<=l.length∧(l.take i).any p=false∧m=l.length-i∧h'=h) l.length Zy ⟨0,rfl,by omega,rfl,by omega,rfl⟩ ?_⟩
 rintro m vs h' ⟨i,rfl,hi,hno,rfl,rfl⟩
 refine ZT UK (loc:=UY.loc 167) 100 [0,1,4,7,8] ?_
 refine Eq.mpr (Zz0 (row encS l) l.length (i:Nat) h' _) ?_
 refine Zm (fun hlt=> ?_) (fun hge=> ?_)
 ·have hget:Zo 2 (List.drop ((i:Int).toNat*2) (row encS l))=some (encS l[i]):=by rw[qdq];exact Xi (f:=encS) (k:=2) (fun _=>rfl) hlt
  refine⟨Zz hlt,_,_,hget,p l[i],hp l[i] (qe hlt),Zg (fun hc=> ?_) (fun hc=> ?_)⟩
  ·refine Xv (.inr rfl) rfl (.now ⟨(i:Nat),rfl,?_,rfl⟩)
   have:l.any p=true:=List.any_eq_true.2 ⟨l[i],qe hlt,hc⟩
   rw[this];simp[leI]
  ·refine⟨rfl,l.length-(i+1),by omega,i+1,?_,by omega,?_,rfl,rfl⟩
   ·rw[Zh (by omega)];rfl
   ·rw[qa hlt,List.any_append,hno];simp[hc]
 ·refine Zi [] ?_
  refine ZB UK (loc:=UY.loc 167) 100 [4] ?_
  refine Eq.mpr (Zz1 h' _) ?_
  rw[qt hge]at hno
  exact finC (.inr rfl) rfl (.now ⟨-1,rfl,by rw[hno];rfl,rfl⟩)

theorem Zk8(l:List Span)(p:Span->Bool)(h:Heap)(hl:l.length<2 ^ 30)(hp: ∀x∈l,PCon UY 132 [.agg (encS x)] (· = .b (p x))):
  Con UY 131 [lst encS l, .fn (.func 132) [] []] h fun v h'=>v= .b (l.any p)∧h'=h:=by
 refine Zu UK (fn:=Tryz.f131) (ZB UK (loc:=UY.loc 131) 100 [4] ?_)
 refine Eq.mpr (Zzy (row encS l) l.length h _) ?_
 refine(Zva l p h hl hp).mono fun v h' ⟨n,e1,e2,e3⟩=>⟨n,e1,?_⟩
 subst e3
 rw[e2]
 exact finC (.inr rfl) rfl (.now ⟨rfl,rfl⟩)

theorem Zvb(g:Glob)(hs:g.sp.length<2 ^ 30):PCon UY 99 [.agg (encG g)] (· = .b (oneS g)):=by
 refine ZE UK (fn:=Tryz.f99) rfl (ZB UK (loc:=UY.loc 99) 100 [2] ?_)
 refine Eq.mpr (ZKc g.k g.b (row encS g.sp) g.sp.length _ _) ?_
 have f: ∀b:Bool,b=oneS g->Fin UY Tryz.f99 [2] (fun v h=> ∃r,Frz h v r∧r= .b (oneS g)) .ret 40 [.b b] .empty:=fun b hb=>Zv (.inr rfl) rfl (.b _) (by rw[hb])
 have he:(((g.sp.length:Nat):Int)==0)=g.sp.isEmpty:=by cases g.sp<;>simp<;>omega
 rw[he]
 refine Zg (fun h0=>f _ ?_) (fun h0=> ?_)
 ·have h0:g.k=0:=by simpa using h0
  simp[oneS,h0]
 have h0:g.k≠0:=by simpa using h0
 refine Zg (fun h1=> ?_) (fun h1=> ?_)
 ·have h1:g.k=1:=by simpa using h1
  exact Zg (fun hb=>f _ (by simp[oneS,h1,hb])) (fun hb=>f _ (by simp[oneS,h1,hb]))
 have h1:g.k≠1:=by simpa using h1
 refine Zg (fun h2=> ?_) (fun h2=> ?_)
 ·have h2:g.k=2:=by simpa using h2
  exact Zg (fun hb=>f _ (by simp[oneS,h2,hb])) (fun hb=>f _ (by simp[oneS,h2,hb]))
 have h2:g.k≠2:=by simpa using h2
 refine Zg (fun h3=> ?_) (fun h3=>f _ ?_)
 ·have h3:g.k=3:=by simpa using h3
  refine Zg (fun hb=> ?_) (fun hb=>f _ (by simp[oneS,h3,hb]))
  refine Ze7 (fun hp=> ?_) (fun hz=>f _ ?_)
  ·refine(Zk8 g.sp (fun x=>ltI x.hi x.lo) _ hs fun x _=>Zu9 x).mono fun v h' ⟨e1,e2⟩=>⟨_,e1,?_⟩
   subst e2
   refine f _ ?_
   have:g.sp.isEmpty=false:=by cases hsp:g.sp with
    |nil=>rw[hsp]at hp;simp at hp
    |cons _ _=>rfl
   simp[oneS,h3,hb,this]
  ·have:g.sp= []:=qg hz
   simp[oneS,h3,this]
 ·have h3:g.k≠3:=by simpa using h3
  simp[oneS,h0,h1,h2,h3]

theorem Zvc(g:Glob)(hs:g.sp.length<2 ^ 30):PCon UY 98 [.agg (encG g)] (· = .b (!oneS g)):=by
 refine ZE UK (fn:=Tryz.f98) rfl (ZB UK (loc:=UY.loc 98) 100 [2] ?_)
 refine Eq.mpr (ZKb g.k g.b (row encS g.sp) g.sp.length _ _) ?_
 exact⟨_,Zvb g hs,Zv (.inr rfl) rfl (.b _) rfl⟩

theorem Zvd(l:List Glob)(p:Glob->Bool)(h:Heap)(hl:l.length<2 ^ 30)(hp: ∀x∈l,PCon UY 98 [.agg (encG x)] (· = .b (p x))):
  Con UY 130 [lst encG l, .fn (.func 98) [] []] h fun v h'=> ∃n:Int,v= I n∧leI 0 n=l.any p∧h'=h:=by
 refine Zu UK (fn:=Tryz.f130) ?_
 refine Xm UK (n:=19) (loc:=UY.loc 130) 100 [0,1,7,8] (by kernel_rfl) ?_
 refine Eq.mpr (ZFe (row encG l) l.length h _) ?_
 refine⟨rfl,ZL [0,1,7,8] [0,1,4,7,8] (fun m vs h'=> ∃i:Nat,vs= [lst encG l, .fn (.func 98) [] [],I l.length,I (i:Nat)]∧i<=l.length∧(l.take i).any p=false∧m=l.length-i∧h'=h) l.length Zy ⟨0,rfl,by omega,rfl,by omega,rfl⟩ ?_⟩
 rintro m vs h' ⟨i,rfl,hi,hno,rfl,rfl⟩
 refine ZT UK (loc:=UY.loc 130) 100 [0,1,4,7,8] ?_
 refine Eq.mpr (ZFf (row encG l) l.length (i:Nat) h' _) ?_
 refine Zm (fun hlt=> ?_) (fun hge=> ?_)
 ·have hget:Zo 3 (List.drop ((i:Int).toNat*3) (row encG l))=some (encG l[i]):=by rw[qdq];exact Xi (f:=encG) (k:=3) (fun _=>rfl) hlt
  refine⟨Zz hlt,_,_,_,_,_,hget,p l[i],hp l[i] (qe hlt),Zg (fun hc=> ?_) (fun hc=> ?_)⟩
  ·refine Xv (.inr rfl) rfl (.now ⟨(i:Nat),rfl,?_,rfl⟩)
   have:l.any p=true:=List.any_eq_true.2 ⟨l[i],qe hlt,hc⟩
   rw[this];simp[leI]
  ·refine⟨rfl,l.length-(i+1),by omega,i+1,?_,by omega,?_,rfl,rfl⟩
   ·rw[Zh (by omega)];rfl
   ·rw[qa hlt,List.any_append,hno];simp[hc]
 ·refine Zi [] ?_
  refine ZB UK (loc:=UY.loc 130) 100 [4] ?_
  refine Eq.mpr (ZFg h' _) ?_
  rw[qt hge]at hno
  exact finC (.inr rfl) rfl (.now ⟨-1,rfl,by rw[hno];rfl,rfl⟩)

theorem Zk9(l:List Glob)(p:Glob->Bool)(h:Heap)(hl:l.length<2 ^ 30)(hp: ∀x∈l,PCon UY 98 [.agg (encG x)] (· = .b (p x))):
  Con UY 97 [lst encG l, .fn (.func 98) [] []] h fun v h'=>v= .b (l.any p)∧h'=h:=by
 refine Zu UK (fn:=Tryz.f97) (ZB UK (loc:=UY.loc 97) 100 [4] ?_)
 refine Eq.mpr (ZKa (row encG l) l.length h _) ?_
 refine(Zvd l p h hl hp).mono fun v h' ⟨n,e1,e2,e3⟩=>⟨n,e1,?_⟩
 subst e3
 rw[e2]
 exact finC (.inr rfl) rfl (.now ⟨rfl,rfl⟩)

def okG(l:List Glob):Prop:=l.length<2 ^ 28∧ ∀x∈l,x.sp.length<2 ^ 28

theorem Zve(l:List Glob)(hs:okG l):PCon UY 48 [lst encG l] (· = .b (mayS l)):=by
 refine ZE UK (fn:=Tryz.f48) rfl (ZB UK (loc:=UY.loc 48) 100 [2] ?_)
 refine Eq.mpr (ZJ9 (row encG l) l.length _ _) ?_
 refine(Zk9 l (fun g=> !oneS g) _ (by have:=hs.1;omega) fun x hx=>Zvc x (by have:=hs.2 x hx;omega)).mono fun v h' ⟨e1,e2⟩=>⟨_,e1,?_⟩
 subst e2
 refine Zv (.inr rfl) rfl (.b _) ?_
 rw[mayS,List.not_any_eq_all_not]
 simp

theorem Zvf(g:Glob)(hs:g.sp.length<2 ^ 30):PCon UY 101 [.agg (encG g)] (· = .b (oneS g)):=by
 refine ZE UK (fn:=Tryz.f101) rfl ?_
 refine Xm UK (n:=54) (loc:=UY.loc 101) 100 [1,2,3] (by kernel_rfl) ?_
 refine Eq.mpr (ZE9 g.k g.b (row encS g.sp) g.sp.length _ _) ?_
 have f: ∀(b:Bool) (v1 v3:V) (h:Heap),b=oneS g->AtV [1,2,3] (FinS UY Tryz.f101 fun v h=> ∃r,Frz h v r∧r= .b (oneS g)) .ret 54 [v1, .b b,v3] h:=fun b v1 v3 h hb=>Xv (.inr rfl) rfl ⟨_, .b _,by rw[hb]⟩
 have he:(((g.sp.length:Nat):Int)==0)=g.sp.isEmpty:=by cases g.sp<;>simp<;>omega
 refine Zg (fun h0=>f _ _ _ _ ?_) (fun h0=> ?_)
 ·have h0:g.k=0:=by simpa using h0
  rw[he];simp[oneS,h0]
 have h0:g.k≠0:=by simpa using h0
 refine Zg (fun hb=>f _ _ _ _ ?_) (fun hb=> ?_)
 ·have hb:g.b≠0:=by simpa using hb
  simp[oneS,h0,hb]
 have hb:g.b=0:=by simpa using hb
 refine XC (fun hk=>f _ _ _ _ ?_) (fun hk=> ?_)
 ·have n1:g.k≠1:=by omega
  have n2:g.k≠2:=by omega
  have n3:g.k≠3:=by omega
  simp[oneS,h0,n1,n2,n3]
 refine XC (fun hk3=>f _ _ _ _ ?_) (fun hk3=> ?_)
 ·have n1:g.k≠1:=by omega
  have n2:g.k≠2:=by omega
  have n3:g.k≠3:=by omega
  simp[oneS,h0,n1,n2,n3]
 have hlen:ltI 0 ((g.sp.length:Nat):Int)= !g.sp.isEmpty:=by cases g.sp<;>simp[ltI]<;>omega
 rw[hlen]
 have h12:g.k≠3->(g.k=1∨g.k=2):=by omega
 refine Zg (fun hc=>f _ _ _ _ ?_) (fun hc=> ?_)
 ·by_cases h3:g.k=3
  ·have:g.sp.isEmpty=true:=by rw[h3]at hc;cases h:g.sp.isEmpty<;>rw[h]at hc<;>simp_all
   simp[oneS,h3,this]
  ·have:g.sp.isEmpty=false:=by
    have h3':(g.k==3)=false:=by simpa using h3
    rw[h3']at hc;cases h:g.sp.isEmpty<;>rw[h]at hc<;>simp_all
   simp[oneS,h0,h12 h3,this]
 refine⟨rfl,ZL [1,3] [1,2,3] (fun m vs _=> ∃i:Nat,vs= [.lb (encG g),I (i:Nat)]∧i<=g.sp.length∧(g.sp.take i).any (fun x=>ltI x.hi x.lo)=false∧m=g.sp.length-i) g.sp.length Zy ⟨0,rfl,by omega,rfl,by omega⟩ ?_⟩
 rintro m vs h' ⟨i,rfl,hi,hno,rfl⟩
 refine ZT UK (loc:=UY.loc 101) 100 [1,2,3] ?_
 refine Eq.mpr (ZFa g.k g.b (row encS g.sp) g.sp.length (i:Nat) h' _) ?_
 have hspe:g.k≠3->g.sp= []:=by
  intro h3
  have h3':(g.k==3)=false:=by simpa using h3
  rw[h3']at hc
  cases h:g.sp.isEmpty
  ·rw[h]at hc;simp at hc
  ·exact List.isEmpty_iff.1 h
 refine Zm (fun hlt=> ?_) (fun hge=> ?_)
 ·have rc:=Zag Zah g.sp hlt
  rw[qdq,rc]
  have h3:g.k=3:=by
   by_cases h3:g.k=3
   ·exact h3
   ·rw[hspe h3]at hlt;simp at hlt
  have hne:g.sp.isEmpty=false:=by
   cases hsp:g.sp with
   |nil=>rw[hsp]at hlt;simp at hlt
   |cons _ _=>rfl
  refine⟨Zz hlt,_,rfl,Zz hlt,_,rfl,Zg (fun hc=>f _ _ _ _ ?_) (fun hc=> ?_)⟩
  ·have:g.sp.any (fun x=>ltI x.hi x.lo)=true:=List.any_eq_true.2 ⟨_,qe hlt,hc⟩
   simp[oneS,h3,hb,hne,this]
  ·refine⟨rfl,g.sp.length-(i+1),by omega,i+1,?_,by omega,?_,rfl⟩
   ·rw[Zh (by omega)];rfl
   ·rw[qa hlt,List.any_append,hno];simp[hc]
 ·refine Zi [] ?_
  refine ZB UK (loc:=UY.loc 101) 100 [2] ?_
  refine Eq.mpr (ZFb h' _) ?_
  rw[qt hge]at hno
  refine Zv (.inr rfl) rfl (.b _) ?_
  by_cases h3:g.k=3
  ·have hne:g.sp.isEmpty=false:=by
    rw[h3]at hc
    cases h:g.sp.isEmpty<;>rw[h]at hc<;>simp_all
   simp[oneS,h3,hb,hne,hno]
  ·simp[oneS,h0,h12 h3,hb,hspe h3]

theorem Zvg(l:List Glob)(hs:okG l):PCon UY 50 [lst encG l] (· = .b (mayS l)):=by
 refine ZE UK (fn:=Tryz.f50) rfl ?_
 refine Xm UK (n:=16) (loc:=UY.loc 50) 100 [0,3] (by kernel_rfl) ?_
 refine Eq.mpr (ZJ6 (row encG l) l.length _ _) ?_
 have hl:=hs.1
 refine⟨rfl,ZL [0,3] [0,2,3] (fun m vs _=> ∃i:Nat,vs= [lst encG l,I (i:Nat)]∧i<=l.length∧(l.take i).all oneS=true∧m=l.length-i) l.length Zy ⟨0,rfl,by omega,rfl,by omega⟩ ?_⟩
 rintro m vs h' ⟨i,rfl,hi,hno,rfl⟩
 refine ZT UK (loc:=UY.loc 50) 100 [0,2,3] ?_
 refine Eq.mpr (ZJ7 (row encG l) l.length (i:Nat) h' _) ?_
 refine Zm (fun hlt=> ?_) (fun hge=> ?_)
 ·rw[qdq]
  refine⟨Zz hlt,_,_,_,_,_,Xi WU hlt,_,Zvf l[i] (by have:=hs.2 _ (qe hlt);omega),Zg (fun hc=> ?_) (fun hc=> ?_)⟩
  ·refine Xv (.inr rfl) rfl ⟨_, .b _,?_⟩
   have:mayS l=false:=by
    rw[mayS,List.all_eq_false]
    exact⟨_,qe hlt,by simpa using hc⟩
   rw[this]
  ·refine⟨rfl,l.length-(i+1),by omega,i+1,?_,by omega,?_,rfl⟩
   ·rw[Zh (by omega)];rfl
   ·rw[qa hlt,List.all_append,hno];simpa using hc
 ·refine Zi [] ?_
  refine ZB UK (loc:=UY.loc 50) 100 [2] ?_
  refine Eq.mpr (ZJ8 h' _) ?_
  rw[qt hge]at hno
  exact Zv (.inr rfl) rfl (.b _) (by rw[mayS,hno])
end Go.Y
