/- A part of the proof. -/
import Derived.Test.YteennilbmmlikaaGreatDoorGN0
import Derived.Test.YteennilbmmlikaaGreatDoorYFrz
import Derived.Test.YteennilbmmlikaaGreatDoorYAny3
import Derived.Test.YteennilbmmlikaaGreatDoorYLoop
namespace Go.Y
open Go.Proofs
set_option maxRecDepth 1000000
set_option maxHeartbeats 0
abbrev encP(p:UInt8×UInt8):List V:= [.i .u8 (p.1.toNat:Nat), .i .u8 (p.2.toNat:Nat)]
theorem Zb6(p:UInt8×UInt8):(encP p).length=2:=rfl
theorem ZJu{h}{a}{l:Nat}{c}{k:Nat}{d:List (UInt8×UInt8)}(x:UInt8×UInt8)(r:Lst encP 2 h a l c k d)(t:d.length<2 ^ 29):
  ∃f m o n g,Zk UY h 57 57 (.sl a l c k) (.ts [.i .u8 (x.1.toNat:Nat), .i .u8 (x.2.toNat:Nat)] 1 (some 1))=some (.sl f m o n,g)/\Lst encP 2 g f m o n (d++ [x])/\Fr h a g/\ ∃j,f=some (j,0)/\h.nx<=j:=
 Lst.app1 (Y:=UY) (e:=155) (te:=⟨2,2, .struct [(0,5),(1,5)],[.i .u8 0, .i .u8 0]⟩) x kr kr rfl dc r (.cons _ _ _ _ (.i _ _) (.cons _ _ _ _ (.i _ _) .nil)) rfl rfl rfl dc t
theorem u8w(n:Nat):IntKind.u8.wrap (n:Int)=((UInt8.ofNat n).toNat:Nat):=by
 have c:(2:Int) ^ IntKind.u8.bits=256:=dc;have a:(UInt8.ofNat n).toNat=n % 256:=sm;rw[a];unfold IntKind.wrap;simp only[c,IntKind.signed,Bool.false_and];simp only[uI,vF];omega
def runE(p:Nat->Bool):Nat->Nat->Nat
 |0,c=>c
 |f+1,c=>if p c=true then runE p f (c+1)else c
def goF(p:Nat->Bool):Nat->Nat->List (UInt8×UInt8)->List (UInt8×UInt8)
 |0,_,a=>a
 |f+1,c,a=>if c<256 then goF p f (runE p (256-c) c+1) (if c<runE p (256-c) c then a++ [(UInt8.ofNat c,UInt8.ofNat (runE p (256-c) c-1))]else a)else a
def Qv(p:Nat->Bool):List (UInt8×UInt8):=goF p 257 0 []
theorem Zvy(p:Nat->Bool)(f:Nat){c:Nat}(d:256<=c)(a:List (UInt8×UInt8)):goF p f c a=a:=by
 cases f with
 |zero=>rfl
 |succ f=>rw[goF,uE om]
theorem Zzv{p:Nat->Bool}{c:Nat}(d:c<256)(hp:p c=true):runE p (256-c) c=runE p (256-(c+1)) (c+1):=by
 obtain⟨f,a⟩: ∃f,256-c=f+1:=⟨256-c-1,om⟩;rw[a,runE,uF hp,show 256-(c+1)=f from om]
theorem Zvz{p:Nat->Bool}{c:Nat}(hp:c<256->p c=false):runE p (256-c) c=c:=by
 by_cases a:c<256
 .obtain⟨f,d⟩: ∃f,256-c=f+1:=⟨256-c-1,om⟩;rw[d,runE,uE (by rw[hp a];simp)]
 .rw[show 256-c=0 from om,runE]
def IoS(x:Set4)(m:Nat)(e:List V)(h:Heap):Prop:=
 ∃(i:Nat) (q:Option (Nat×Nat)) (n:Nat) (d:Option Nat) (c:Nat) (a:List (UInt8×UInt8)) (f:Nat),e= [.lb (setC x), .sl none 0 (some 0) 0, .sl q n d c, .i .i64 (i:Nat)]/\m=257-i/\i<=257/\Lst encP 2 h q n d c a/\a.length<=i/\257<=f+i/\goF (hasN x) f i a=Qv (hasN x)
theorem Zsf(x):PCon UY 175 [.agg (setC x)] (· =lst encP (Qv (hasN x))):=by
 refine ZG UK (fn:=Tryz.f175) rfl ?_;refine Xg UK (n:=33) (loc:=UY.loc 175) 100 [1,2,3,4] kr ?_;refine Eq.mpr (ZJp x.1 x.2.1 x.2.2.1 x.2.2.2 .empty _) ?_;refine⟨rfl,ZN [1,2,3,4] [1,2,3,4] (IoS x) 257 ZA ⟨0,none,0,some 0,0,[],257,rfl,rfl,om,Lst.nil _ _ _ _ _,sm,om,rfl⟩ ?_⟩;rintro m H h ⟨i,q,n,k,j,B,f,rfl,rfl,P,y,K,O,a⟩;refine Xg UK (n:=33) (loc:=UY.loc 175) 100 [1,2,3,4] kr ?_;refine Eq.mpr (ZJq x.1 x.2.1 x.2.2.1 x.2.2.2 q n k j (i:Nat) h _) ?_;refine Zq (b:=256) (λz=> ?_) (λA=> ?_)
 .refine⟨rfl,QZ (n:=33) [1,2,3,4] kr ?_⟩;refine Xg UK (n:=33) (loc:=UY.loc 175) 100 [1,2,3,4,5] kr ?_;refine Eq.mpr (ZJr x.1 x.2.1 x.2.2.1 x.2.2.2 q n k j (i:Nat) h _) ?_;refine⟨rfl,ZN [1,2,3,4,5] [1,2,3,4,5] (λm H o=> ∃c:Nat,H= [.lb (setC x), .sl none 0 (some 0) 0, .sl q n k j,I (c:Nat),I i]/\m=256-c/\o=h/\i<=c/\c<=256/\runE (hasN x) (256-i) i=runE (hasN x) (256-c) c) (256-i) ZA ⟨i,rfl,rfl,rfl,qnq _,om,rfl⟩ ?_⟩;rintro m H o ⟨c,rfl,rfl,rfl,L,N,hr⟩;refine ZR UK (loc:=UY.loc 175) 100 [1,2,3,4,5] ?_;refine Eq.mpr (ZJs x.1 x.2.1 x.2.2.1 x.2.2.2 q n k j (c:Nat) (i:Nat) o _) ?_;refine Zq (b:=256) (λd=>⟨_,ZEo x c d,Zf (λG=> ?_) (λG=> ?_)⟩) (λA=> ?_)
  .exact⟨rfl,256-(c+1),om,c+1,by rw[Ze om];rfl,rfl,rfl,om,om,by rw[hr,Zzv d G]⟩
  .have l:c<256->hasN x c=false:=λ_=>by simpa using G
   refine Zj [1,2,3,4,5] ?_;refine ZR UK (loc:=UY.loc 175) 100 [1,2,3,4] ?_;refine Eq.mpr (ZCd x.1 x.2.1 x.2.2.1 x.2.2.2 q n k j (c:Nat) (i:Nat) o _) ?_;rw[Zvz l]at hr;obtain⟨g,rfl⟩: ∃g,f=g+1:=⟨f-1,om⟩;rw[goF,uF z,hr]at a;refine Zq (λw=> ?_) (λw=> ?_)
   .rw[uF w]at a;have D:wW (((c:Nat):Int)-1)=((c-1:Nat):Int):=by rw[ZI om om];omega
    rw[D,u8w,u8w];obtain⟨v,r,u,t,C,F,E,-,-⟩:=ZJu (UInt8.ofNat i,UInt8.ofNat (c-1)) y om;refine⟨v,r,u,t,C,F,rfl,[1,2,3,4],rfl,?_⟩;refine ZR UK (loc:=UY.loc 175) 100 [1,2,3,4] ?_;refine Eq.mpr (Zqc x.1 x.2.1 x.2.2.1 x.2.2.2 (c:Nat) v r u t C _) ?_;exact⟨rfl,257-(c+1),om,c+1,v,r,u,t,_,g,by rw[Ze om];rfl,rfl,om,E,by simp;omega,om,a⟩
   .rw[uE om]at a;refine⟨rfl,[1,2,3,4],rfl,?_⟩;refine ZR UK (loc:=UY.loc 175) 100 [1,2,3,4] ?_;refine Eq.mpr (Zqc x.1 x.2.1 x.2.2.1 x.2.2.2 (c:Nat) q n k j o _) ?_;exact⟨rfl,257-(c+1),om,c+1,q,n,k,j,B,g,by rw[Ze om];rfl,rfl,om,y,om,om,a⟩
  .have l:c<256->hasN x c=false:=λe=>om;refine Zj [1,2,3,4,5] ?_;refine ZR UK (loc:=UY.loc 175) 100 [1,2,3,4] ?_;refine Eq.mpr (ZCd x.1 x.2.1 x.2.2.1 x.2.2.2 q n k j (c:Nat) (i:Nat) o _) ?_;rw[Zvz l]at hr;obtain⟨g,rfl⟩: ∃g,f=g+1:=⟨f-1,om⟩;rw[goF,uF z,hr]at a;refine Zq (λw=> ?_) (λw=> ?_)
   .rw[uF w]at a;have D:wW (((c:Nat):Int)-1)=((c-1:Nat):Int):=by rw[ZI om om];omega
    rw[D,u8w,u8w];obtain⟨v,r,u,t,C,F,E,-,-⟩:=ZJu (UInt8.ofNat i,UInt8.ofNat (c-1)) y om;refine⟨v,r,u,t,C,F,rfl,[1,2,3,4],rfl,?_⟩;refine ZR UK (loc:=UY.loc 175) 100 [1,2,3,4] ?_;refine Eq.mpr (Zqc x.1 x.2.1 x.2.2.1 x.2.2.2 (c:Nat) v r u t C _) ?_;exact⟨rfl,257-(c+1),om,c+1,v,r,u,t,_,g,by rw[Ze om];rfl,rfl,om,E,by simp;omega,om,a⟩
   .rw[uE om]at a;refine⟨rfl,[1,2,3,4],rfl,?_⟩;refine ZR UK (loc:=UY.loc 175) 100 [1,2,3,4] ?_;refine Eq.mpr (Zqc x.1 x.2.1 x.2.2.1 x.2.2.2 (c:Nat) q n k j o _) ?_;exact⟨rfl,257-(c+1),om,c+1,q,n,k,j,B,g,by rw[Ze om];rfl,rfl,om,y,om,om,a⟩
 .refine ZU rfl (Zj [3] ?_);refine ZE UK (loc:=UY.loc 175) 100 [2] ?_;refine Eq.mpr (ZJt ..) ?_;rw[Zvy _ _ A]at a;subst a;exact ZB rr rfl (y.frz dc Zb6) rfl
def XC(x:Nat):List UInt8:= [UInt8.ofNat (48+x)]
theorem ZEq:PCon UY 201 [I 0] (· = .s (XC 0)):=by
 have a: ∀(h:Heap) (K:KT),(Zc UY (UY.loc 201) 100 (flat (Za Tryz.f201)) ⟨I 0::List.replicate 14 .undef,[],h⟩ (VQ [2] K))=((((0:Int)<=1/\(1:Int)<=36)/\(((0:Int)<=0/\(0:Int)<=1)/\K Out.ret 15 [V.s (XC 0)] h))):=λh K=>kr;exact Zw UK (fn:=Tryz.f201) rfl (a .empty) rfl ⟨⟨dc,dc⟩,⟨dc,dc⟩,ZB rr rfl (.s _) rfl⟩
theorem ZEr:PCon UY 198 [I 0,I 10] (· = .s (XC 0)):=by
 have a: ∀(h:Heap) (K:KT),(Zc UY (UY.loc 198) 100 (flat (Za Tryz.f198)) ⟨I 0::I 10::List.replicate 52 .undef,[],h⟩ (VQ [4] K))=(∃s:List UInt8,(PCon UY (201:Nat) [V.i IntKind.i64 0] fun(v:V)=>v=V.s s)/\K Out.ret 54 [V.s s] h):=λh K=>kr;exact Zw UK (fn:=Tryz.f198) rfl (a .empty) rfl ⟨_,ZEq,ZB rr rfl (.s _) rfl⟩
theorem ZEs:PCon UY 201 [I 1] (· = .s (XC 1)):=by
 have a: ∀(h:Heap) (K:KT),(Zc UY (UY.loc 201) 100 (flat (Za Tryz.f201)) ⟨I 1::List.replicate 14 .undef,[],h⟩ (VQ [2] K))=((((0:Int)<=2/\(2:Int)<=36)/\(((0:Int)<=1/\(1:Int)<=2)/\K Out.ret 15 [V.s (XC 1)] h))):=λh K=>kr;exact Zw UK (fn:=Tryz.f201) rfl (a .empty) rfl ⟨⟨dc,dc⟩,⟨dc,dc⟩,ZB rr rfl (.s _) rfl⟩
theorem ZEt:PCon UY 198 [I 1,I 10] (· = .s (XC 1)):=by
 have a: ∀(h:Heap) (K:KT),(Zc UY (UY.loc 198) 100 (flat (Za Tryz.f198)) ⟨I 1::I 10::List.replicate 52 .undef,[],h⟩ (VQ [4] K))=(∃s:List UInt8,(PCon UY (201:Nat) [V.i IntKind.i64 1] fun(v:V)=>v=V.s s)/\K Out.ret 54 [V.s s] h):=λh K=>kr;exact Zw UK (fn:=Tryz.f198) rfl (a .empty) rfl ⟨_,ZEs,ZB rr rfl (.s _) rfl⟩
theorem ZEu:PCon UY 201 [I 2] (· = .s (XC 2)):=by
 have a: ∀(h:Heap) (K:KT),(Zc UY (UY.loc 201) 100 (flat (Za Tryz.f201)) ⟨I 2::List.replicate 14 .undef,[],h⟩ (VQ [2] K))=((((0:Int)<=3/\(3:Int)<=36)/\(((0:Int)<=2/\(2:Int)<=3)/\K Out.ret 15 [V.s (XC 2)] h))):=λh K=>kr;exact Zw UK (fn:=Tryz.f201) rfl (a .empty) rfl ⟨⟨dc,dc⟩,⟨dc,dc⟩,ZB rr rfl (.s _) rfl⟩
theorem ZEv:PCon UY 198 [I 2,I 10] (· = .s (XC 2)):=by
 have a: ∀(h:Heap) (K:KT),(Zc UY (UY.loc 198) 100 (flat (Za Tryz.f198)) ⟨I 2::I 10::List.replicate 52 .undef,[],h⟩ (VQ [4] K))=(∃s:List UInt8,(PCon UY (201:Nat) [V.i IntKind.i64 2] fun(v:V)=>v=V.s s)/\K Out.ret 54 [V.s s] h):=λh K=>kr;exact Zw UK (fn:=Tryz.f198) rfl (a .empty) rfl ⟨_,ZEu,ZB rr rfl (.s _) rfl⟩
theorem ZEw:PCon UY 201 [I 3] (· = .s (XC 3)):=by
 have a: ∀(h:Heap) (K:KT),(Zc UY (UY.loc 201) 100 (flat (Za Tryz.f201)) ⟨I 3::List.replicate 14 .undef,[],h⟩ (VQ [2] K))=((((0:Int)<=4/\(4:Int)<=36)/\(((0:Int)<=3/\(3:Int)<=4)/\K Out.ret 15 [V.s (XC 3)] h))):=λh K=>kr;exact Zw UK (fn:=Tryz.f201) rfl (a .empty) rfl ⟨⟨dc,dc⟩,⟨dc,dc⟩,ZB rr rfl (.s _) rfl⟩
theorem ZEx:PCon UY 198 [I 3,I 10] (· = .s (XC 3)):=by
 have a: ∀(h:Heap) (K:KT),(Zc UY (UY.loc 198) 100 (flat (Za Tryz.f198)) ⟨I 3::I 10::List.replicate 52 .undef,[],h⟩ (VQ [4] K))=(∃s:List UInt8,(PCon UY (201:Nat) [V.i IntKind.i64 3] fun(v:V)=>v=V.s s)/\K Out.ret 54 [V.s s] h):=λh K=>kr;exact Zw UK (fn:=Tryz.f198) rfl (a .empty) rfl ⟨_,ZEw,ZB rr rfl (.s _) rfl⟩
theorem ZEy:PCon UY 201 [I 4] (· = .s (XC 4)):=by
 have a: ∀(h:Heap) (K:KT),(Zc UY (UY.loc 201) 100 (flat (Za Tryz.f201)) ⟨I 4::List.replicate 14 .undef,[],h⟩ (VQ [2] K))=((((0:Int)<=5/\(5:Int)<=36)/\(((0:Int)<=4/\(4:Int)<=5)/\K Out.ret 15 [V.s (XC 4)] h))):=λh K=>kr;exact Zw UK (fn:=Tryz.f201) rfl (a .empty) rfl ⟨⟨dc,dc⟩,⟨dc,dc⟩,ZB rr rfl (.s _) rfl⟩
theorem ZEz:PCon UY 198 [I 4,I 10] (· = .s (XC 4)):=by
 have a: ∀(h:Heap) (K:KT),(Zc UY (UY.loc 198) 100 (flat (Za Tryz.f198)) ⟨I 4::I 10::List.replicate 52 .undef,[],h⟩ (VQ [4] K))=(∃s:List UInt8,(PCon UY (201:Nat) [V.i IntKind.i64 4] fun(v:V)=>v=V.s s)/\K Out.ret 54 [V.s s] h):=λh K=>kr;exact Zw UK (fn:=Tryz.f198) rfl (a .empty) rfl ⟨_,ZEy,ZB rr rfl (.s _) rfl⟩
theorem ZE0:PCon UY 201 [I 5] (· = .s (XC 5)):=by
 have a: ∀(h:Heap) (K:KT),(Zc UY (UY.loc 201) 100 (flat (Za Tryz.f201)) ⟨I 5::List.replicate 14 .undef,[],h⟩ (VQ [2] K))=((((0:Int)<=6/\(6:Int)<=36)/\(((0:Int)<=5/\(5:Int)<=6)/\K Out.ret 15 [V.s (XC 5)] h))):=λh K=>kr;exact Zw UK (fn:=Tryz.f201) rfl (a .empty) rfl ⟨⟨dc,dc⟩,⟨dc,dc⟩,ZB rr rfl (.s _) rfl⟩
theorem ZE1:PCon UY 198 [I 5,I 10] (· = .s (XC 5)):=by
 have a: ∀(h:Heap) (K:KT),(Zc UY (UY.loc 198) 100 (flat (Za Tryz.f198)) ⟨I 5::I 10::List.replicate 52 .undef,[],h⟩ (VQ [4] K))=(∃s:List UInt8,(PCon UY (201:Nat) [V.i IntKind.i64 5] fun(v:V)=>v=V.s s)/\K Out.ret 54 [V.s s] h):=λh K=>kr;exact Zw UK (fn:=Tryz.f198) rfl (a .empty) rfl ⟨_,ZE0,ZB rr rfl (.s _) rfl⟩
theorem ZE2:PCon UY 201 [I 6] (· = .s (XC 6)):=by
 have a: ∀(h:Heap) (K:KT),(Zc UY (UY.loc 201) 100 (flat (Za Tryz.f201)) ⟨I 6::List.replicate 14 .undef,[],h⟩ (VQ [2] K))=((((0:Int)<=7/\(7:Int)<=36)/\(((0:Int)<=6/\(6:Int)<=7)/\K Out.ret 15 [V.s (XC 6)] h))):=λh K=>kr;exact Zw UK (fn:=Tryz.f201) rfl (a .empty) rfl ⟨⟨dc,dc⟩,⟨dc,dc⟩,ZB rr rfl (.s _) rfl⟩
theorem ZE3:PCon UY 198 [I 6,I 10] (· = .s (XC 6)):=by
 have a: ∀(h:Heap) (K:KT),(Zc UY (UY.loc 198) 100 (flat (Za Tryz.f198)) ⟨I 6::I 10::List.replicate 52 .undef,[],h⟩ (VQ [4] K))=(∃s:List UInt8,(PCon UY (201:Nat) [V.i IntKind.i64 6] fun(v:V)=>v=V.s s)/\K Out.ret 54 [V.s s] h):=λh K=>kr;exact Zw UK (fn:=Tryz.f198) rfl (a .empty) rfl ⟨_,ZE2,ZB rr rfl (.s _) rfl⟩
theorem ZE4:PCon UY 201 [I 7] (· = .s (XC 7)):=by
 have a: ∀(h:Heap) (K:KT),(Zc UY (UY.loc 201) 100 (flat (Za Tryz.f201)) ⟨I 7::List.replicate 14 .undef,[],h⟩ (VQ [2] K))=((((0:Int)<=8/\(8:Int)<=36)/\(((0:Int)<=7/\(7:Int)<=8)/\K Out.ret 15 [V.s (XC 7)] h))):=λh K=>kr;exact Zw UK (fn:=Tryz.f201) rfl (a .empty) rfl ⟨⟨dc,dc⟩,⟨dc,dc⟩,ZB rr rfl (.s _) rfl⟩
theorem ZE5:PCon UY 198 [I 7,I 10] (· = .s (XC 7)):=by
 have a: ∀(h:Heap) (K:KT),(Zc UY (UY.loc 198) 100 (flat (Za Tryz.f198)) ⟨I 7::I 10::List.replicate 52 .undef,[],h⟩ (VQ [4] K))=(∃s:List UInt8,(PCon UY (201:Nat) [V.i IntKind.i64 7] fun(v:V)=>v=V.s s)/\K Out.ret 54 [V.s s] h):=λh K=>kr;exact Zw UK (fn:=Tryz.f198) rfl (a .empty) rfl ⟨_,ZE4,ZB rr rfl (.s _) rfl⟩
theorem ZE6:PCon UY 201 [I 8] (· = .s (XC 8)):=by
 have a: ∀(h:Heap) (K:KT),(Zc UY (UY.loc 201) 100 (flat (Za Tryz.f201)) ⟨I 8::List.replicate 14 .undef,[],h⟩ (VQ [2] K))=((((0:Int)<=9/\(9:Int)<=36)/\(((0:Int)<=8/\(8:Int)<=9)/\K Out.ret 15 [V.s (XC 8)] h))):=λh K=>kr;exact Zw UK (fn:=Tryz.f201) rfl (a .empty) rfl ⟨⟨dc,dc⟩,⟨dc,dc⟩,ZB rr rfl (.s _) rfl⟩
theorem ZE7:PCon UY 198 [I 8,I 10] (· = .s (XC 8)):=by
 have a: ∀(h:Heap) (K:KT),(Zc UY (UY.loc 198) 100 (flat (Za Tryz.f198)) ⟨I 8::I 10::List.replicate 52 .undef,[],h⟩ (VQ [4] K))=(∃s:List UInt8,(PCon UY (201:Nat) [V.i IntKind.i64 8] fun(v:V)=>v=V.s s)/\K Out.ret 54 [V.s s] h):=λh K=>kr;exact Zw UK (fn:=Tryz.f198) rfl (a .empty) rfl ⟨_,ZE6,ZB rr rfl (.s _) rfl⟩
theorem ZJv(x:Int)(h)(K:KT):(Zc UY (UY.loc 178) 100 (flat (Za Tryz.f178)) ⟨I x::List.replicate 4 .undef,[],h⟩ (VQ [2] K))=(∃s:List UInt8,(PCon UY (191:Nat) [V.i IntKind.i64 x] fun(v:V)=>v=V.s s)/\K Out.ret 5 [V.s s] h):=kr
theorem ZJw(x:Int)(h)(K:KT):(Zc UY (UY.loc 191) 100 (flat (Za Tryz.f191)) ⟨I x::List.replicate 4 .undef,[],h⟩ (VQ [2] K))=(∃s:List UInt8,(PCon UY (198:Nat) [V.i IntKind.i64 x,V.i IntKind.i64 10] fun(v:V)=>v=V.s s)/\K Out.ret 5 [V.s s] h):=kr
theorem Zqd(x:Nat)(c:x<=8):PCon UY 178 [I x] (· = .s (XC x)):=by
 have a:PCon UY 198 [I x,I 10] (· = .s (XC x)):=by
  match x,c with
  |0,_=>exact ZEr
  |1,_=>exact ZEt
  |2,_=>exact ZEv
  |3,_=>exact ZEx
  |4,_=>exact ZEz
  |5,_=>exact ZE1
  |6,_=>exact ZE3
  |7,_=>exact ZE5
  |8,_=>exact ZE7
 refine Zw UK (fn:=Tryz.f178) rfl (λK=>ZJv (x:Nat) .empty K) rfl ⟨_,?_,ZB rr rfl (.s _) rfl⟩;exact Zw UK (fn:=Tryz.f191) rfl (λK=>ZJw (x:Nat) .empty K) rfl ⟨_,a,ZB rr rfl (.s _) rfl⟩
abbrev WK(c:UInt8):V:= .i .u8 (c.toNat:Nat)
def te8:TI:=⟨1,1, .int .u8,[.i .u8 0]⟩
structure Bd(h:Heap)(id:Nat)(bs:List UInt8):Prop where
 ex: ∃(a s:Option (Nat×Nat)) (n:Nat) (c:Option Nat) (k:Nat),h.get id=some (.arr [.p a, .sl s n c k] true)∧(a=none∨a=some (id,0))∧IsL h 1 s n c k (bs.map WK)∧
  (∀j o,s=some (j,o)->h.tagOf j=some 5∧j≠id)∧(n=0->s=none)
 tag:h.tagOf id=some 182
 lt:id<h.nx
theorem QE(h:Heap)(i:Nat)(t:Option TypeId)(j:Nat):(h.tagIf i t).tagOf j=match t with|some x=>if i=j then some x else h.tagOf j|none=>h.tagOf j:=by
 cases t<;>rfl
theorem Zb7(h:Heap)(i:Nat)(o:Option YObj)(j:Nat):(h.set i o).tagOf j=h.tagOf j:=rfl
theorem ZE8{h:Heap}{G:TypeId}{x:V}{m:Nat}{new cells:List V}{a:Option (Nat×Nat)}{l:Nat}{c:Option Nat}{K:Nat}(f:XI UY ⟨[],[],h⟩ te8 G x=some (m,new))(N:m≠0)(Z:new.length=m)(F:Zp new=true)
  (H:IsL h 1 a l c K cells) (r: ∀j o,a=some (j,o)->h.tagOf j=some 5) (X:l+m<=2 ^ 30):
  ∃k,Zk UY h 138 G (.sl a l c K) x=some (.sl (some (h.nx,0)) (l+m) none 1,k)/\k.get h.nx=some (.arr (cells++new) true)/\k.nx=h.nx+1/\k.tagOf h.nx=some 5/\
   (∀i,i<h.nx->(∀o,a≠some (i,o))->k.get i=h.get i)/\ ∀i,i<h.nx->k.tagOf i=h.tagOf i:=by
 have L:UY.kd 138=some (.slice 5):=kr;have n:UY.ty 5=some te8:=kr;have z:UY.tag 5=some 5:=kr;have C:most=1099511627776:=dc;rcases H.2 with ⟨rfl,rfl,rfl⟩|⟨d,rfl,rfl,rfl,W,t⟩
 .refine⟨h.pushT (some 5) (.arr new true),?_,sm,sm,?_,λi B _=>by rw[qj,uE om],λi B=> ?_⟩
  .have P:m<=most:=om;have D:te8.size=1:=rfl;have y:te8.bytes=1:=rfl;simp[Zk,Xe,L,n,f,F,N,D,y,P,z]
  .show((h.push (.arr new true)).tagIf h.nx (some 5)).tagOf h.nx=some 5;rw[QE];simp
  .show((h.push (.arr new true)).tagIf h.nx (some 5)).tagOf i=h.tagOf i;rw[QE];simp only;rw[uE om];rfl
 .have u:=H.1;have E:=r d 0 rfl;refine⟨(h.set d none).pushT (some 5) (.arr (cells++new) true),?_,sm,sm,?_,λi B O=> ?_,λi B=> ?_⟩
  .have w: ¬((l+m)*1>most\/l+m>most):=om;have g: ¬(0+(l+m)*1<=cells.length):=om;have A:Zr (l*1) (cells.drop 0)=some cells:=by rw[ql];exact ZD u
   have D:te8.size=1:=rfl;have y:te8.bytes=1:=rfl;have v:(if(0:Nat)=0/\h.tagOf d=some 5 then some 5 else none)=(some 5:Option TypeId):=by simp[E]
   simp only[Zk,Xe,L,n,f,D,y,vF,N,ne_eq,not_true_eq_false,w,t,g,Bool.true_or,vG,A,v];rw[uE (by simp[F])];simp only[E,and_self,vG]
  .show(((h.set d none).push _).tagIf (h.set d none).nx (some 5)).tagOf h.nx=some 5;rw[QE];simp
  .have g:i≠d:=λe=>O 0 (by rw[e]);rw[qj,uE (by simp;omega),qc,uE g]
  .show(((h.set d none).push _).tagIf (h.set d none).nx (some 5)).tagOf i=h.tagOf i;rw[QE];simp only;rw[uE (by simp;omega)];rfl
theorem ZCe{h}{d:Nat}{bs}(b:Bd h d bs):Con UY 162 [.p (some (d,0))] h λv z=>v= .tup []/\Bd z d bs:=by
 obtain⟨a,s,n,c,k,l,r,B,t,hz⟩:=b.ex;refine Zv UK (fn:=Tryz.f162) (ZE UK (loc:=UY.loc 162) 100 [] ?_);refine Eq.mpr (ZCb d h _) ?_;have u:Zb h d 0 1=some [.p a]:=by simp[Zb,l,Zr]
 have g:(UY.ty 182).isSome=true:=kr;refine⟨a,u,g,Zf (λy=> ?_) (λy=> ?_)⟩
 .have x: ∃(f:Nat) (w:List V) (wr:Bool) (o:TI),some (d,0)=some (f,0)/\h.get f=some (YObj.arr w wr)/\h.tagOf f=some 182/\some (⟨2,32,Kd.struct [(0,180),(1,138)],[.p none, .sl none 0 (some 0) 0]⟩:TI)=some o/\(o.size=0->False)/\o.size<=w.length:=
   ⟨d,_,_,_,rfl,l,b.tag,rfl,sm,sm⟩
  refine⟨x,x,h.set d (some (.arr [.p (some (d,0)), .sl s n c k] true)),by simp[Zi,l,splice],finC (.inl rfl) rfl (.now ⟨rfl,⟨⟨some (d,0),s,n,c,k,sm, .inr rfl,?_,t,hz⟩,b.tag,b.lt⟩⟩)⟩;exact B.fr (qnq _) λj A _=>by rw[qc,uE (λe=>(t j 0 A).2 e)]
 .have m:a=some (d,0):=by
   rcases r with rfl|r
   .simp at y
   .exact r
  subst m;exact⟨_,u,g,⟨(d,0),rfl,rfl,by simp[l]⟩,finC (.inl rfl) rfl (.now ⟨rfl,b⟩)⟩
theorem Bd.put{h f:Heap}{d:Nat}{bs}{new:List UInt8}{a s}{n:Nat}{c}{k:Nat}(b:Bd h d bs)(x:h.get d=some (.arr [.p a, .sl s n c k] true))(t:a=none\/a=some (d,0))
  (u:IsL h 1 s n c k (bs.map WK)) (r: ∀j o,s=some (j,o)->h.tagOf j=some 5/\j≠d) (g:new≠ [])
  (y:f.get h.nx=some (.arr (bs.map WK++new.map WK) true)) (l:f.nx=h.nx+1) (w:f.tagOf h.nx=some 5) (A: ∀i,i<h.nx->(∀o,s≠some (i,o))->f.get i=h.get i) (v: ∀i,i<h.nx->f.tagOf i=h.tagOf i):
  ∃l,Zi f d 1 [.sl (some (h.nx,0)) (n+new.length) none 1]=some l/\Bd l d (bs++new):=by
 have m:f.get d=some (.arr [.p a, .sl s n c k] true):=by rw[A d b.lt (λo e=>(r d o e).2 rfl)];exact x
 have z:=b.lt;refine⟨f.set d (some (.arr [.p a, .sl (some (h.nx,0)) (n+new.length) none 1] true)),by simp[Zi,m,splice],⟨⟨a,some (h.nx,0),n+new.length,none,1,sm,t,⟨?_, .inr ⟨h.nx,rfl,rfl,rfl,?_,?_⟩⟩,?_,?_⟩,?_,?_⟩⟩
 .have:=u.1;simp at this ⊢;omega
 .simp[l]
 .rw[qc,uE om,y,uV]
 .rintro j o e;cases e;exact⟨by rw[Zb7];exact w,om⟩
 .intro B;have:new.length=0:=om;exact absurd (qg this) g
 .rw[Zb7,v d b.lt];exact b.tag
 .rw[Heap.nx_set,l];omega
theorem Zv0{h}{f:Nat}{bs:List UInt8}(b:Bd h f bs)(c:UInt8)(O:bs.length<2 ^ 29):Con UY 126 [.p (some (f,0)), .i .u8 (c.toNat:Nat)] h λv t=>v= .nilifc/\Bd t f (bs++ [c]):=by
 refine Zv UK (fn:=Tryz.f126) (ZE UK (loc:=UY.loc 126) 100 [4] ?_);refine Eq.mpr (ZCc f (c.toNat:Nat) h _) ?_;refine(ZCe b).mono λv D ⟨C,r⟩=>⟨C,?_⟩;obtain⟨a,s,n,G,k,m,F,g,l,hz⟩:=r.ex;have E:=g.1;simp at E;have d:XI UY ⟨[],[],D⟩ te8 138 (.ts [WK c] 1 (some 1))=some (1,[WK c]):=by
  have B:UY.kd 138=some (.slice 5):=kr;simp[XI,B,QT,XQ,te8,Zr]
 obtain⟨N,A,x,H,z,K,u⟩:=ZE8 (cells:=bs.map WK) d om rfl rfl g (λj o e=>(l j o e).1) om;obtain⟨w,y,L⟩:=r.put (new:= [c]) m F g l sm x H z K u;exact⟨s,n,G,k,by simp[Zb,m,Zr],_,_,_,_,N,A,w,y,finC rr rfl (.now ⟨rfl,L⟩)⟩
theorem Zqe{h}{g:Nat}{bs:List UInt8}(b:Bd h g bs)(t:List UInt8)(W:bs.length+t.length<2 ^ 29):Con UY 146 [.p (some (g,0)), .s t] h λv K=>v= .tup [I (t.length:Nat), .nilifc]/\Bd K g (bs++t):=by
 refine Zv UK (fn:=Tryz.f146) (ZE UK (loc:=UY.loc 146) 100 [4,5] ?_);refine Eq.mpr (ZJm g t h _) ?_;refine(ZCe b).mono λv l ⟨C,A⟩=>⟨C,?_⟩;obtain⟨a,s,n,f,k,D,H,x,z,hz⟩:=A.ex;have hn:=x.1;simp at hn;have d:XI UY ⟨[],[],l⟩ te8 9 (.s t)=some (t.length,t.map WK):=by
  have B:UY.kd 9=some .str:=kr;simp[XI,B,QT,te8]
 have m:Zp (t.map WK)=true:=by
  clear d W
  induction t with
  |nil=>rfl
  |cons c t ih=>simp only[qz,Zp,ih,Bool.and_true];rfl
 have w:Zb l g 1 1=some [.sl s n f k]:=by simp[Zb,D,Zr]
 by_cases F:t= []
 .subst F;have B:UY.kd 138=some (.slice 5):=kr;have r:UY.ty 5=some te8:=kr;have C:te8.size=1:=rfl;have u:Zk UY l 138 9 (.sl s n f k) (.s [])=some (.sl s n (if s=none then some 0 else f) (if s=none then 1 else k),l):=by
   rcases x.2 with ⟨rfl,rfl,_⟩|⟨G,rfl,rfl,rfl,_,_⟩
   .simp[Zk,Xe,B,r,d,C,Zp]
   .simp[Zk,Xe,B,r,d,C,Zp]
  refine⟨s,n,f,k,w,_,_,_,_,l,u,l.set g (some (.arr [.p a, .sl s n (if s=none then some 0 else f) (if s=none then 1 else k)] true)),by simp[Zi,D,splice],finC rr rfl (.now ⟨rfl,⟨⟨a,s,n,_,_,by simp;exact⟨rfl,rfl⟩,H,?_,z,hz⟩,A.tag,A.lt⟩⟩)⟩;rw[qi];have y:IsL (l.set g (some (.arr [.p a, .sl s n (if s=none then some 0 else f) (if s=none then 1 else k)] true))) 1 s n f k (bs.map WK):=x.fr (qnq _) λj hj _=>by rw[qc,uE (λe=>(z j 0 hj).2 e)]
  refine⟨y.1,?_⟩;rcases y.2 with ⟨rfl,O,E⟩|⟨G,rfl,E⟩
  .exact .inl ⟨rfl,O,E⟩
  .exact .inr ⟨G,rfl,E⟩
 .obtain⟨h2,P,N,X,q4,Z,L⟩:=ZE8 (cells:=bs.map WK) d (by simpa using F) sm m x (λj o e=>(z j o e).1) om;obtain⟨h3,p1,p2⟩:=A.put (new:=t) D H x z F N X q4 Z L;exact⟨s,n,f,k,w,_,_,_,_,h2,P,h3,p1,finC rr rfl (.now ⟨rfl,p2⟩)⟩
theorem WL: ∀bs:List UInt8,QA (bs.map WK)=some bs
 | []=>rfl
 |c::bs=>by
  rw[qz,QA,WL bs];simp
theorem Zzw{h}{f:Nat}{bs:List UInt8}(b:Bd h f bs)(A:bs.length<2 ^ 30):Con UY 116 [.p (some (f,0))] h λv _=>v= .s bs:=by
 obtain⟨a,s,n,c,k,r,B,m,o,hz⟩:=b.ex;have w:=m.1;simp at w;have d:Zb h f 1 1=some [.sl s n c k]:=by simp[Zb,r,Zr]
 refine Zv UK (fn:=Tryz.f116) (ZE UK (loc:=UY.loc 116) 100 [2] ?_);refine Eq.mpr (ZCa f h _) ?_;have j:most=1099511627776:=dc;rcases m.2 with ⟨rfl,rfl,x⟩|⟨l,rfl,rfl,rfl,z,t⟩
 .have:bs= []:=by simpa using x
  subst this;refine⟨_,_,_,_,d,λ_=>rfl,_,_,_,_,d,[],h,by simp[strH],finC rr rfl (.now rfl)⟩
 .have g:n≠0:=λe=>by have:=hz e;cases this
  refine⟨_,_,_,_,d,λe=>absurd e g,_,_,_,_,d,bs,h.set l (some (.arr (bs.map WK) false)),?_,finC rr rfl (.now rfl)⟩;have u:UY.kd 5=some (.int .u8):=kr;have hp:Zep UY 224 5=true:=kr;have y:=(o l 0 rfl).1;simp only[strH,t,y,u];rw[uE om,uF ⟨hp,by simp;omega,by simp;omega⟩,WL]
  rfl
theorem ZJx{id k s0 s1 s2 s3 kc e lo hi gn h}(K):CP UY 114 (pre (flat (Za Tryz.f114))) (.p (some (id,0))::.agg (R9 k s0 s1 s2 s3 kc e none lo hi gn)::Rp 61) h [0,2,3,28,29,30] K=(If (k==(1:Int)) (∃a,(PCon UY 147 [.agg [U s0,U s1,U s2,U s3]] λv=>v=.s a)/\Con UY 146 [.p (some (id,0)),.s a] h fun(v:V) (f:Heap)=> ∃b,v=.tup [I b,V.nilifc]/\K .normal 63 [.p (some (id,0)),Ud, .lb (R9 k s0 s1 s2 s3 kc e none lo hi gn),J kc e none,I (e:Int),I 0] f\/ ∃c d,v=.tup [I b,V.ifc c d]/\K .normal 63 [.p (some (id,0)),Ud, .lb (R9 k s0 s1 s2 s3 kc e none lo hi gn),J kc e none,I (e:Int),I 0] f) (If (k==(2:Int)) (Con UY 126 [.p (some (id,0)),.i .u8 94] h fun(v:V) (f:Heap)=>v=V.nilifc/\K .normal 63 [.p (some (id,0)),Ud, .lb (R9 k s0 s1 s2 s3 kc e none lo hi gn),J kc e none,I (e:Int),I 0] f\/ ∃a b,v=V.ifc a b/\K .normal 63 [.p (some (id,0)),Ud, .lb (R9 k s0 s1 s2 s3 kc e none lo hi gn),J kc e none,I (e:Int),I 0] f) (If (k==(3:Int)) (Con UY 126 [.p (some (id,0)),.i .u8 36] h fun(v:V) (f:Heap)=>v=V.nilifc/\K .normal 63 [.p (some (id,0)),Ud, .lb (R9 k s0 s1 s2 s3 kc e none lo hi gn),J kc e none,I (e:Int),I 0] f\/ ∃a b,v=V.ifc a b/\K .normal 63 [.p (some (id,0)),Ud, .lb (R9 k s0 s1 s2 s3 kc e none lo hi gn),J kc e none,I (e:Int),I 0] f) (If (k==(7:Int)) (Con UY 126 [.p (some (id,0)),.i .u8 40] h fun(v:V) (f:Heap)=>v=V.nilifc/\K .normal 63 [.p (some (id,0)),Ud, .lb (R9 k s0 s1 s2 s3 kc e none lo hi gn),J kc e none,I (e:Int),I 0] f\/ ∃a b,v=V.ifc a b/\K .normal 63 [.p (some (id,0)),Ud, .lb (R9 k s0 s1 s2 s3 kc e none lo hi gn),J kc e none,I (e:Int),I 0] f) (K .normal 63 [.p (some (id,0)),Ud, .lb (R9 k s0 s1 s2 s3 kc e none lo hi gn),J kc e none,I (e:Int),I 0] h))))):=kr
theorem ZJy{id k s0 s1 s2 s3 kc t lo hi gn a h}(K):CP UY 114 (flat (Zx (post (flat (Za Tryz.f114))))) (MZ 63 [0,2,3,28,29,30] [.p (some (id,0)),V.undef,.lb (R9 k s0 s1 s2 s3 kc t none lo hi gn),J kc t none,I (t:Int),I a]) h [0,2,3,28,29,30] K=(If (ltI a t) ((0<=a/\a<t)/\ ∃b c d e f g j l m n o,Zr 9 (List.drop (a.toNat*9) kc)=some (R9 b c d e f g j l m n o)/\If (ltI 0 a) (If (k==(5:Int)) (Con UY 126 [.p (some (id,0)),.i .u8 124] h fun(v:V) (u:Heap)=>(v=V.nilifc/\Con UY 114 [.p (some (id,0)),.agg (R9 b c d e f g j l m n o)] u fun(v:V) (u:Heap)=>v=.tup []/\K .normal 63 [.p (some (id,0)),Ud, .lb (R9 k s0 s1 s2 s3 kc t none lo hi gn),J kc t none,I (t:Int),I (wW (a+(1:Int)))] u)\/ ∃q r,v=V.ifc q r/\Con UY 114 [.p (some (id,0)),.agg (R9 b c d e f g j l m n o)] u fun(v:V) (u:Heap)=>v=.tup []/\K .normal 63 [.p (some (id,0)),Ud, .lb (R9 k s0 s1 s2 s3 kc t none lo hi gn),J kc t none,I (t:Int),I (wW (a+(1:Int)))] u) (Con UY 114 [.p (some (id,0)),.agg (R9 b c d e f g j l m n o)] h fun(v:V) (u:Heap)=>v=.tup []/\K .normal 63 [.p (some (id,0)),Ud, .lb (R9 k s0 s1 s2 s3 kc t none lo hi gn),J kc t none,I (t:Int),I (wW (a+(1:Int)))] u)) (Con UY 114 [.p (some (id,0)),.agg (R9 b c d e f g j l m n o)] h fun(v:V) (u:Heap)=>v=.tup []/\K .normal 63 [.p (some (id,0)),Ud, .lb (R9 k s0 s1 s2 s3 kc t none lo hi gn),J kc t none,I (t:Int),I (wW (a+(1:Int)))] u)) (K (.exit 1) 63 [.p (some (id,0)),Ud, .lb (R9 k s0 s1 s2 s3 kc t none lo hi gn),J kc t none,I (t:Int),I a] h)):=kr
theorem ZJz{id k s0 s1 s2 s3 kc kn lo hi gn h}(K):CP UY 114 ((post (flat (Za Tryz.f114))).drop 1) (MZ 63 [0,3] [.p (some (id,0)),.lb (R9 k s0 s1 s2 s3 kc kn none lo hi gn)]) h [] K=(If (k==(6:Int)) (∃a,(PCon UY 148 [I lo,I hi] λv=>v=.s a)/\Con UY 146 [.p (some (id,0)),.s a] h fun(v:V) (e:Heap)=> ∃b,v=.tup [I b,V.nilifc]/\K .normal 63 [] e\/ ∃c d,v=.tup [I b,V.ifc c d]/\K .normal 63 [] e) (If (k==(7:Int)) (Con UY 126 [.p (some (id,0)),.i .u8 41] h fun(v:V) (e:Heap)=>v=V.nilifc/\K .normal 63 [] e\/ ∃a b,v=V.ifc a b/\K .normal 63 [] e) (K .normal 63 [] h))):=kr
theorem ZJ0{x y h}(K):CP UY 148 (flat (Za Tryz.f148)) (I x::I y::Rp 47) h [4] K=((λc=>If (x==(0:Int)) (If (y==(-1:Int)) (K .ret 49 [.s #[(42:UInt8)].toList] h) (If (x==(1:Int)) (If (y==(-1:Int)) (K .ret 49 [.s #[(43:UInt8)].toList] h) (If (x==(0:Int)) (If (y==(1:Int)) (K .ret 49 [.s #[(63:UInt8)].toList] h) c) c)) (If (x==(0:Int)) (If (y==(1:Int)) (K .ret 49 [.s #[(63:UInt8)].toList] h) c) c))) (If (x==(1:Int)) (If (y==(-1:Int)) (K .ret 49 [.s #[(43:UInt8)].toList] h) (If (x==(0:Int)) (If (y==(1:Int)) (K .ret 49 [.s #[(63:UInt8)].toList] h) c) c)) (If (x==(0:Int)) (If (y==(1:Int)) (K .ret 49 [.s #[(63:UInt8)].toList] h) c) c))) (If (x==y) (∃a,(PCon UY 178 [I x] λv=>v=.s a)/\ #[(123:UInt8)].toList.length+a.length<=1152921504606846976/\(#[(123:UInt8)].toList++a).length+ #[(125:UInt8)].toList.length<=1152921504606846976/\K .ret 49 [.s (#[(123:UInt8)].toList++a++ #[(125:UInt8)].toList)] h) (If (y==(-1:Int)) (∃a,(PCon UY 178 [I x] λv=>v=.s a)/\ #[(123:UInt8)].toList.length+a.length<=1152921504606846976/\(#[(123:UInt8)].toList++a).length+ #[(44:UInt8),(125:UInt8)].toList.length<=1152921504606846976/\K .ret 49 [.s (#[(123:UInt8)].toList++a++ #[(44:UInt8),(125:UInt8)].toList)] h) (∃a,(PCon UY 178 [I x] λv=>v=.s a)/\ #[(123:UInt8)].toList.length+a.length<=1152921504606846976/\(#[(123:UInt8)].toList++a).length+ #[(44:UInt8)].toList.length<=1152921504606846976/\ ∃b,(PCon UY 178 [I y] λv=>v=.s b)/\(#[(123:UInt8)].toList++a++ #[(44:UInt8)].toList).length+b.length<=1152921504606846976/\(#[(123:UInt8)].toList++a++ #[(44:UInt8)].toList++b).length+ #[(125:UInt8)].toList.length<=1152921504606846976/\K .ret 49 [.s (#[(123:UInt8)].toList++a++ #[(44:UInt8)].toList++b++ #[(125:UInt8)].toList)] h)))):=kr
theorem ZJ1{s0 s1 s2 s3 h}(K):CP UY 147 (pre (flat (Za Tryz.f147))) (.agg [U s0,U s1,U s2,U s3]::Rp 62) h [2,4,38,39,40] K=(∃a b c,(PCon UY 175 [.agg [U s0,U s1,U s2,U s3]] λv=>v=J a b c)/\If ((↑b:Int)==(0:Int)) (K .ret 63 [.s #[(91:UInt8),(94:UInt8),(0:UInt8),(45:UInt8),(255:UInt8),(93:UInt8)].toList,Ud,Ud,Ud,Ud] h) (∃d e f g,(PCon UY 176 [.agg [U 0,U 0,U 0,U 0]] fun(v:V)=>v=.agg [U d,U e,U f,U g])/\If (s0==d&&(s1==e&&(s2==f&&(s3==g&&true)))) (K .ret 63 [.s #[(46:UInt8)].toList,Ud,Ud,Ud,Ud] h) ((λk=>If ((↑b:Int)==(1:Int)) (((0:Int)<=(0:Int)/\(0:Int)<(b:Int))/\ ∃j,Zr 1 a=some [.i .u8 j]/\((0:Int)<=(0:Int)/\(0:Int)<(b:Int))/\ ∃l,Zr 1 (List.drop 1 (List.drop (Int.toNat (0:Int)*(2:Nat)) a))=some [.i .u8 l]/\If (j==l) (((0:Int)<=(0:Int)/\(0:Int)<(b:Int))/\ ∃m,Zr 1 a=some [.i .u8 m]/\ ∃n,(PCon UY 177 [.i .u8 m,.s #[(92:UInt8),(124:UInt8),(40:UInt8),(41:UInt8),(42:UInt8),(43:UInt8),(63:UInt8),(123:UInt8),(46:UInt8),(91:UInt8),(94:UInt8),(36:UInt8)].toList] λv=>v=.s n)/\K .ret 63 [.s n,Ud,Ud,Ud,Ud] h) k) k) (K .normal 63 [.s #[].toList, .s #[(91:UInt8)].toList,J a b c,I (b:Int),I 0] h)))):=kr
theorem ZJ2{s4 e b c d a h}(K):CP UY 147 (flat (Zx (post (flat (Za Tryz.f147))))) (MZ 63 [4,38,39,40] [.s s4,J b c e,I d,I a]) h [4,38,39,40] K=(If (ltI a d) ((0<=a/\a<c)/\ ∃f g,Zr 2 (List.drop (a.toNat*2) b)=some [.i .u8 f,.i .u8 g]/\ ∃j,(PCon UY 177 [.i .u8 f,.s #[(93:UInt8),(45:UInt8),(92:UInt8),(94:UInt8)].toList] fun(v:V)=>v=.s j)/\s4.length+j.length<=1152921504606846976/\If (g !=f) (∃l,(PCon UY 177 [.i .u8 g,.s #[(93:UInt8),(45:UInt8),(92:UInt8),(94:UInt8)].toList] λv=>v=.s l)/\ #[(45:UInt8)].toList.length+l.length<=1152921504606846976/\(s4++j).length+(#[(45:UInt8)].toList++l).length<=1152921504606846976/\K .normal 63 [.s (s4++j++(#[(45:UInt8)].toList++l)),J b c e,I d,I (wW (a+(1:Int)))] h) (K .normal 63 [.s (s4++j),J b c e,I d,I (wW (a+(1:Int)))] h)) (K (.exit 1) 63 [.s s4,J b c e,I d,I a] h)):=kr
theorem ZJ3{a h}(K):CP UY 147 ((post (flat (Za Tryz.f147))).drop 1) (MZ 63 [4] [.s a]) h [2] K=(a.length+ #[(93:UInt8)].toList.length<=1152921504606846976/\K .ret 63 [.s (a++ #[(93:UInt8)].toList)] h):=kr
end Go.Y
