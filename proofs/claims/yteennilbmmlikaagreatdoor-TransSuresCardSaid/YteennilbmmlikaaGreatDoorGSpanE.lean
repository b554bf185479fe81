/- A part of the proof. -/
import Derived.Test.YteennilbmmlikaaGreatDoorGN0
import Derived.Test.YteennilbmmlikaaGreatDoorYLoop
import Derived.Test.YteennilbmmlikaaGreatDoorGRule
import Derived.Test.YteennilbmmlikaaGreatDoorYAny3
namespace Go.Y
open Go.Proofs
set_option maxRecDepth 1000000
set_option maxHeartbeats 0
abbrev encP(p:UInt8×UInt8):List V:= [.i .u8 (p.1.toNat:Nat), .i .u8 (p.2.toNat:Nat)]
theorem Zcd(p:UInt8×UInt8):(encP p).length=2:=rfl
theorem ZK2{h}{a}{l:Nat}{c}{m:Nat}{b:List (UInt8×UInt8)}(x:UInt8×UInt8)(p:Lst encP 2 h a l c m b)(o:b.length<2 ^ 29):
  ∃d n g k f,Zk UY h 57 57 (.sl a l c m) (.ts [.i .u8 (x.1.toNat:Nat), .i .u8 (x.2.toNat:Nat)] 1 (some 1))=some (.sl d n g k,f)/\Lst encP 2 f d n g k (b++ [x])/\Fr h a f/\ ∃j,d=some (j,0)/\h.nx<=j:=
 Lst.app1 (Y:=UY) (e:=155) (te:=⟨2,2, .struct [(0,5),(1,5)],[.i .u8 0, .i .u8 0]⟩) x kr kr rfl dc p (.cons _ _ _ _ (.i _ _) (.cons _ _ _ _ (.i _ _) .nil)) rfl rfl rfl dc o
theorem u8w(n:Nat):IntKind.u8.wrap (n:Int)=((UInt8.ofNat n).toNat:Nat):=by
 have a:(2:Int) ^ IntKind.u8.bits=256:=dc;have b:(UInt8.ofNat n).toNat=n % 256:=sm;rw[b];unfold IntKind.wrap;simp only[a,IntKind.signed,Bool.false_and];simp only[uI,vF];omega
def runE(p:Nat->Bool):Nat->Nat->Nat
 |0,c=>c
 |f+1,c=>if p c=true then runE p f (c+1)else c
def goF(p:Nat->Bool):Nat->Nat->List (UInt8×UInt8)->List (UInt8×UInt8)
 |0,_,a=>a
 |f+1,c,a=>if c<256 then goF p f (runE p (256-c) c+1) (if c<runE p (256-c) c then a++ [(UInt8.ofNat c,UInt8.ofNat (runE p (256-c) c-1))]else a)else a
def Wr(p:Nat->Bool):List (UInt8×UInt8):=goF p 257 0 []
theorem Zw0(p)(f:Nat){c:Nat}(b:256<=c)(a:List (UInt8×UInt8)):goF p f c a=a:=by
 cases f with
 |zero=>rfl
 |succ f=>rw[goF,uE om]
theorem ZA4{p}{c:Nat}(d:c<256)(b:p c=true):runE p (256-c) c=runE p (256-(c+1)) (c+1):=by obtain⟨f,a⟩: ∃f,256-c=f+1:=⟨256-c-1,om⟩;rw[a,runE,uF b,show 256-(c+1)=f from om]
theorem Zw1{p:Nat->Bool}{c:Nat}(d:c<256->p c=false):runE p (256-c) c=c:=by
 by_cases a:c<256;obtain⟨f,b⟩: ∃f,256-c=f+1:=⟨256-c-1,om⟩;rw[b,runE,uE (by rw[d a];simp)];rw[show 256-c=0 from om,runE]
def IoS(x:Set4)(m:Nat)(d:List V)(h:Heap):Prop:=
 ∃(i:Nat) (q:Option (Nat×Nat)) (n:Nat) (b:Option Nat) (c:Nat) (a:List (UInt8×UInt8)) (f:Nat),d= [.lb (setC x), .sl none 0 (some 0) 0, .sl q n b c, .i .i64 (i:Nat)]/\m=257-i/\i<=257/\Lst encP 2 h q n b c a/\a.length<=i/\257<=f+i/\goF (hasN x) f i a=Wr (hasN x)
theorem Zte(x):PCon UY 175 [.agg (setC x)] (· =lst encP (Wr (hasN x))):=by
 refine ZF UK (fn:=Tryz.f175) rfl ?_;refine Xm UK (n:=33) (loc:=UY.loc 175) 100 [1,2,3,4] kr ?_;refine Eq.mpr (ZKx x.1 x.2.1 x.2.2.1 x.2.2.2 .empty _) ?_;refine⟨rfl,ZM [1,2,3,4] [1,2,3,4] (IoS x) 257 ZA ⟨0,none,0,some 0,0,[],257,rfl,rfl,om,Lst.nil _ _ _ _ _,sm,om,rfl⟩ ?_⟩;rintro m G h ⟨i,q,n,j,k,B,f,rfl,rfl,O,v,H,N,a⟩;refine Xm UK (n:=33) (loc:=UY.loc 175) 100 [1,2,3,4] kr ?_;refine Eq.mpr (ZKy x.1 x.2.1 x.2.2.1 x.2.2.2 q n j k (i:Nat) h _) ?_;refine Zq (b:=256) (λz=> ?_) (λw=> ?_)
 .refine⟨rfl,QX (n:=33) [1,2,3,4] kr ?_⟩;refine Xm UK (n:=33) (loc:=UY.loc 175) 100 [1,2,3,4,5] kr ?_;refine Eq.mpr (ZKz x.1 x.2.1 x.2.2.1 x.2.2.2 q n j k (i:Nat) h _) ?_;refine⟨rfl,ZM [1,2,3,4,5] [1,2,3,4,5] (λm G p=> ∃c:Nat,G= [.lb (setC x), .sl none 0 (some 0) 0, .sl q n j k,I (c:Nat),I i]/\m=256-c/\p=h/\i<=c/\c<=256/\runE (hasN x) (256-i) i=runE (hasN x) (256-c) c) (256-i) ZA ⟨i,rfl,rfl,rfl,qnq _,om,rfl⟩ ?_⟩;rintro m G p ⟨c,rfl,rfl,rfl,K,L,A⟩;refine ZW UK (loc:=UY.loc 175) 100 [1,2,3,4,5] ?_;refine Eq.mpr (ZK0 x.1 x.2.1 x.2.2.1 x.2.2.2 q n j k (c:Nat) (i:Nat) p _) ?_;refine Zq (b:=256) (λd=>⟨_,ZFs x c d,Zf (λC=> ?_) (λC=> ?_)⟩) (λw=> ?_);exact⟨rfl,256-(c+1),om,c+1,by rw[Ze om];rfl,rfl,rfl,om,om,by rw[A,ZA4 d C]⟩
  .have r:c<256->hasN x c=false:=λ_=>su C;refine Zj [1,2,3,4,5] ?_;refine ZW UK (loc:=UY.loc 175) 100 [1,2,3,4] ?_;refine Eq.mpr (ZDl x.1 x.2.1 x.2.2.1 x.2.2.2 q n j k (c:Nat) (i:Nat) p _) ?_;rw[Zw1 r]at A;obtain⟨g,rfl⟩: ∃g,f=g+1:=⟨f-1,om⟩;rw[goF,uF z,A]at a;refine Zq (λy=> ?_) (λy=> ?_)
   .rw[uF y]at a;have D:wW (((c:Nat):Int)-1)=((c-1:Nat):Int):=by rw[ZI om om];omega
    rw[D,u8w,u8w];obtain⟨l,t,o,s,u,E,F,-,-⟩:=ZK2 (UInt8.ofNat i,UInt8.ofNat (c-1)) v om;refine⟨l,t,o,s,u,E,rfl,[1,2,3,4],rfl,?_⟩;refine ZW UK (loc:=UY.loc 175) 100 [1,2,3,4] ?_;refine Eq.mpr (Zq2 x.1 x.2.1 x.2.2.1 x.2.2.2 (c:Nat) l t o s u _) ?_;exact⟨rfl,257-(c+1),om,c+1,l,t,o,s,_,g,by rw[Ze om];rfl,rfl,om,F,by simp;omega,om,a⟩
   .rw[uE om]at a;refine⟨rfl,[1,2,3,4],rfl,?_⟩;refine ZW UK (loc:=UY.loc 175) 100 [1,2,3,4] ?_;refine Eq.mpr (Zq2 x.1 x.2.1 x.2.2.1 x.2.2.2 (c:Nat) q n j k p _) ?_;exact⟨rfl,257-(c+1),om,c+1,q,n,j,k,B,g,by rw[Ze om];rfl,rfl,om,v,om,om,a⟩
  .have r:c<256->hasN x c=false:=λe=>om;refine Zj [1,2,3,4,5] ?_;refine ZW UK (loc:=UY.loc 175) 100 [1,2,3,4] ?_;refine Eq.mpr (ZDl x.1 x.2.1 x.2.2.1 x.2.2.2 q n j k (c:Nat) (i:Nat) p _) ?_;rw[Zw1 r]at A;obtain⟨g,rfl⟩: ∃g,f=g+1:=⟨f-1,om⟩;rw[goF,uF z,A]at a;refine Zq (λy=> ?_) (λy=> ?_)
   .rw[uF y]at a;have D:wW (((c:Nat):Int)-1)=((c-1:Nat):Int):=by rw[ZI om om];omega
    rw[D,u8w,u8w];obtain⟨l,t,o,s,u,E,F,-,-⟩:=ZK2 (UInt8.ofNat i,UInt8.ofNat (c-1)) v om;refine⟨l,t,o,s,u,E,rfl,[1,2,3,4],rfl,?_⟩;refine ZW UK (loc:=UY.loc 175) 100 [1,2,3,4] ?_;refine Eq.mpr (Zq2 x.1 x.2.1 x.2.2.1 x.2.2.2 (c:Nat) l t o s u _) ?_;exact⟨rfl,257-(c+1),om,c+1,l,t,o,s,_,g,by rw[Ze om];rfl,rfl,om,F,by simp;omega,om,a⟩
   .rw[uE om]at a;refine⟨rfl,[1,2,3,4],rfl,?_⟩;refine ZW UK (loc:=UY.loc 175) 100 [1,2,3,4] ?_;refine Eq.mpr (Zq2 x.1 x.2.1 x.2.2.1 x.2.2.2 (c:Nat) q n j k p _) ?_;exact⟨rfl,257-(c+1),om,c+1,q,n,j,k,B,g,by rw[Ze om];rfl,rfl,om,v,om,om,a⟩
 .refine ZR rfl (Zj [3] ?_);refine ZG UK (loc:=UY.loc 175) 100 [2] ?_;refine Eq.mpr (ZK1 ..) ?_;rw[Zw0 _ _ w]at a;subst a;exact ZB rr rfl (v.frz dc Zcd) rfl
def XD(x:Nat):List UInt8:= [UInt8.ofNat (48+x)]
theorem ZFu:PCon UY 201 [I 0] (· = .s (XD 0)):=by have a: ∀(h:Heap) (K:KT),(Zc UY (UY.loc 201) 100 B_201 ⟨I 0::List.replicate 14 .undef,[],h⟩ (VQ [2] K))=((((0:Int)<=1/\(1:Int)<=36)/\(((0:Int)<=0/\(0:Int)<=1)/\K Out.ret 15 [V.s (XD 0)] h))):=λh K=>kr;exact Zv UK (fn:=Tryz.f201) rfl (a .empty) rfl ⟨⟨dc,dc⟩,⟨dc,dc⟩,ZB rr rfl (.s _) rfl⟩
theorem ZFv:PCon UY 198 [I 0,I 10] (· = .s (XD 0)):=by have a: ∀(h:Heap) (K:KT),(Zc UY (UY.loc 198) 100 B_198 ⟨I 0::I 10::List.replicate 52 .undef,[],h⟩ (VQ [4] K))=(∃s:List UInt8,(PCon UY (201:Nat) [V.i IntKind.i64 0] fun(v:V)=>v=V.s s)/\K Out.ret 54 [V.s s] h):=λh K=>kr;exact Zv UK (fn:=Tryz.f198) rfl (a .empty) rfl ⟨_,ZFu,ZB rr rfl (.s _) rfl⟩
theorem ZFw:PCon UY 201 [I 1] (· = .s (XD 1)):=by have a: ∀(h:Heap) (K:KT),(Zc UY (UY.loc 201) 100 B_201 ⟨I 1::List.replicate 14 .undef,[],h⟩ (VQ [2] K))=((((0:Int)<=2/\(2:Int)<=36)/\(((0:Int)<=1/\(1:Int)<=2)/\K Out.ret 15 [V.s (XD 1)] h))):=λh K=>kr;exact Zv UK (fn:=Tryz.f201) rfl (a .empty) rfl ⟨⟨dc,dc⟩,⟨dc,dc⟩,ZB rr rfl (.s _) rfl⟩
theorem ZFx:PCon UY 198 [I 1,I 10] (· = .s (XD 1)):=by have a: ∀(h:Heap) (K:KT),(Zc UY (UY.loc 198) 100 B_198 ⟨I 1::I 10::List.replicate 52 .undef,[],h⟩ (VQ [4] K))=(∃s:List UInt8,(PCon UY (201:Nat) [V.i IntKind.i64 1] fun(v:V)=>v=V.s s)/\K Out.ret 54 [V.s s] h):=λh K=>kr;exact Zv UK (fn:=Tryz.f198) rfl (a .empty) rfl ⟨_,ZFw,ZB rr rfl (.s _) rfl⟩
theorem ZFy:PCon UY 201 [I 2] (· = .s (XD 2)):=by have a: ∀(h:Heap) (K:KT),(Zc UY (UY.loc 201) 100 B_201 ⟨I 2::List.replicate 14 .undef,[],h⟩ (VQ [2] K))=((((0:Int)<=3/\(3:Int)<=36)/\(((0:Int)<=2/\(2:Int)<=3)/\K Out.ret 15 [V.s (XD 2)] h))):=λh K=>kr;exact Zv UK (fn:=Tryz.f201) rfl (a .empty) rfl ⟨⟨dc,dc⟩,⟨dc,dc⟩,ZB rr rfl (.s _) rfl⟩
theorem ZFz:PCon UY 198 [I 2,I 10] (· = .s (XD 2)):=by have a: ∀(h:Heap) (K:KT),(Zc UY (UY.loc 198) 100 B_198 ⟨I 2::I 10::List.replicate 52 .undef,[],h⟩ (VQ [4] K))=(∃s:List UInt8,(PCon UY (201:Nat) [V.i IntKind.i64 2] fun(v:V)=>v=V.s s)/\K Out.ret 54 [V.s s] h):=λh K=>kr;exact Zv UK (fn:=Tryz.f198) rfl (a .empty) rfl ⟨_,ZFy,ZB rr rfl (.s _) rfl⟩
theorem ZF0:PCon UY 201 [I 3] (· = .s (XD 3)):=by have a: ∀(h:Heap) (K:KT),(Zc UY (UY.loc 201) 100 B_201 ⟨I 3::List.replicate 14 .undef,[],h⟩ (VQ [2] K))=((((0:Int)<=4/\(4:Int)<=36)/\(((0:Int)<=3/\(3:Int)<=4)/\K Out.ret 15 [V.s (XD 3)] h))):=λh K=>kr;exact Zv UK (fn:=Tryz.f201) rfl (a .empty) rfl ⟨⟨dc,dc⟩,⟨dc,dc⟩,ZB rr rfl (.s _) rfl⟩
theorem ZF1:PCon UY 198 [I 3,I 10] (· = .s (XD 3)):=by have a: ∀(h:Heap) (K:KT),(Zc UY (UY.loc 198) 100 B_198 ⟨I 3::I 10::List.replicate 52 .undef,[],h⟩ (VQ [4] K))=(∃s:List UInt8,(PCon UY (201:Nat) [V.i IntKind.i64 3] fun(v:V)=>v=V.s s)/\K Out.ret 54 [V.s s] h):=λh K=>kr;exact Zv UK (fn:=Tryz.f198) rfl (a .empty) rfl ⟨_,ZF0,ZB rr rfl (.s _) rfl⟩
theorem ZF2:PCon UY 201 [I 4] (· = .s (XD 4)):=by have a: ∀(h:Heap) (K:KT),(Zc UY (UY.loc 201) 100 B_201 ⟨I 4::List.replicate 14 .undef,[],h⟩ (VQ [2] K))=((((0:Int)<=5/\(5:Int)<=36)/\(((0:Int)<=4/\(4:Int)<=5)/\K Out.ret 15 [V.s (XD 4)] h))):=λh K=>kr;exact Zv UK (fn:=Tryz.f201) rfl (a .empty) rfl ⟨⟨dc,dc⟩,⟨dc,dc⟩,ZB rr rfl (.s _) rfl⟩
theorem ZF3:PCon UY 198 [I 4,I 10] (· = .s (XD 4)):=by have a: ∀(h:Heap) (K:KT),(Zc UY (UY.loc 198) 100 B_198 ⟨I 4::I 10::List.replicate 52 .undef,[],h⟩ (VQ [4] K))=(∃s:List UInt8,(PCon UY (201:Nat) [V.i IntKind.i64 4] fun(v:V)=>v=V.s s)/\K Out.ret 54 [V.s s] h):=λh K=>kr;exact Zv UK (fn:=Tryz.f198) rfl (a .empty) rfl ⟨_,ZF2,ZB rr rfl (.s _) rfl⟩
theorem ZF4:PCon UY 201 [I 5] (· = .s (XD 5)):=by have a: ∀(h:Heap) (K:KT),(Zc UY (UY.loc 201) 100 B_201 ⟨I 5::List.replicate 14 .undef,[],h⟩ (VQ [2] K))=((((0:Int)<=6/\(6:Int)<=36)/\(((0:Int)<=5/\(5:Int)<=6)/\K Out.ret 15 [V.s (XD 5)] h))):=λh K=>kr;exact Zv UK (fn:=Tryz.f201) rfl (a .empty) rfl ⟨⟨dc,dc⟩,⟨dc,dc⟩,ZB rr rfl (.s _) rfl⟩
theorem ZF5:PCon UY 198 [I 5,I 10] (· = .s (XD 5)):=by have a: ∀(h:Heap) (K:KT),(Zc UY (UY.loc 198) 100 B_198 ⟨I 5::I 10::List.replicate 52 .undef,[],h⟩ (VQ [4] K))=(∃s:List UInt8,(PCon UY (201:Nat) [V.i IntKind.i64 5] fun(v:V)=>v=V.s s)/\K Out.ret 54 [V.s s] h):=λh K=>kr;exact Zv UK (fn:=Tryz.f198) rfl (a .empty) rfl ⟨_,ZF4,ZB rr rfl (.s _) rfl⟩
theorem ZF6:PCon UY 201 [I 6] (· = .s (XD 6)):=by have a: ∀(h:Heap) (K:KT),(Zc UY (UY.loc 201) 100 B_201 ⟨I 6::List.replicate 14 .undef,[],h⟩ (VQ [2] K))=((((0:Int)<=7/\(7:Int)<=36)/\(((0:Int)<=6/\(6:Int)<=7)/\K Out.ret 15 [V.s (XD 6)] h))):=λh K=>kr;exact Zv UK (fn:=Tryz.f201) rfl (a .empty) rfl ⟨⟨dc,dc⟩,⟨dc,dc⟩,ZB rr rfl (.s _) rfl⟩
theorem ZF7:PCon UY 198 [I 6,I 10] (· = .s (XD 6)):=by have a: ∀(h:Heap) (K:KT),(Zc UY (UY.loc 198) 100 B_198 ⟨I 6::I 10::List.replicate 52 .undef,[],h⟩ (VQ [4] K))=(∃s:List UInt8,(PCon UY (201:Nat) [V.i IntKind.i64 6] fun(v:V)=>v=V.s s)/\K Out.ret 54 [V.s s] h):=λh K=>kr;exact Zv UK (fn:=Tryz.f198) rfl (a .empty) rfl ⟨_,ZF6,ZB rr rfl (.s _) rfl⟩
theorem ZF8:PCon UY 201 [I 7] (· = .s (XD 7)):=by have a: ∀(h:Heap) (K:KT),(Zc UY (UY.loc 201) 100 B_201 ⟨I 7::List.replicate 14 .undef,[],h⟩ (VQ [2] K))=((((0:Int)<=8/\(8:Int)<=36)/\(((0:Int)<=7/\(7:Int)<=8)/\K Out.ret 15 [V.s (XD 7)] h))):=λh K=>kr;exact Zv UK (fn:=Tryz.f201) rfl (a .empty) rfl ⟨⟨dc,dc⟩,⟨dc,dc⟩,ZB rr rfl (.s _) rfl⟩
theorem ZF9:PCon UY 198 [I 7,I 10] (· = .s (XD 7)):=by have a: ∀(h:Heap) (K:KT),(Zc UY (UY.loc 198) 100 B_198 ⟨I 7::I 10::List.replicate 52 .undef,[],h⟩ (VQ [4] K))=(∃s:List UInt8,(PCon UY (201:Nat) [V.i IntKind.i64 7] fun(v:V)=>v=V.s s)/\K Out.ret 54 [V.s s] h):=λh K=>kr;exact Zv UK (fn:=Tryz.f198) rfl (a .empty) rfl ⟨_,ZF8,ZB rr rfl (.s _) rfl⟩
theorem ZGa:PCon UY 201 [I 8] (· = .s (XD 8)):=by have a: ∀(h:Heap) (K:KT),(Zc UY (UY.loc 201) 100 B_201 ⟨I 8::List.replicate 14 .undef,[],h⟩ (VQ [2] K))=((((0:Int)<=9/\(9:Int)<=36)/\(((0:Int)<=8/\(8:Int)<=9)/\K Out.ret 15 [V.s (XD 8)] h))):=λh K=>kr;exact Zv UK (fn:=Tryz.f201) rfl (a .empty) rfl ⟨⟨dc,dc⟩,⟨dc,dc⟩,ZB rr rfl (.s _) rfl⟩
theorem ZGb:PCon UY 198 [I 8,I 10] (· = .s (XD 8)):=by have a: ∀(h:Heap) (K:KT),(Zc UY (UY.loc 198) 100 B_198 ⟨I 8::I 10::List.replicate 52 .undef,[],h⟩ (VQ [4] K))=(∃s:List UInt8,(PCon UY (201:Nat) [V.i IntKind.i64 8] fun(v:V)=>v=V.s s)/\K Out.ret 54 [V.s s] h):=λh K=>kr;exact Zv UK (fn:=Tryz.f198) rfl (a .empty) rfl ⟨_,ZGa,ZB rr rfl (.s _) rfl⟩
theorem ZK3(x:Int)(h)(K:KT):(Zc UY (UY.loc 178) 100 (flat (Za Tryz.f178)) ⟨I x::List.replicate 4 .undef,[],h⟩ (VQ [2] K))=(∃s:List UInt8,(PCon UY (191:Nat) [V.i IntKind.i64 x] fun(v:V)=>v=V.s s)/\K Out.ret 5 [V.s s] h):=kr
theorem ZK4(x:Int)(h)(K:KT):(Zc UY (UY.loc 191) 100 (flat (Za Tryz.f191)) ⟨I x::List.replicate 4 .undef,[],h⟩ (VQ [2] K))=(∃s:List UInt8,(PCon UY (198:Nat) [V.i IntKind.i64 x,V.i IntKind.i64 10] fun(v:V)=>v=V.s s)/\K Out.ret 5 [V.s s] h):=kr
theorem Zq3(x:Nat)(b:x<=8):PCon UY 178 [I x] (· = .s (XD x)):=by
 have a:PCon UY 198 [I x,I 10] (· = .s (XD x)):=by
  match x,b with
  |0,_=>exact ZFv
  |1,_=>exact ZFx
  |2,_=>exact ZFz
  |3,_=>exact ZF1
  |4,_=>exact ZF3
  |5,_=>exact ZF5
  |6,_=>exact ZF7
  |7,_=>exact ZF9
  |8,_=>exact ZGb
 refine Zv UK (fn:=Tryz.f178) rfl (λK=>ZK3 (x:Nat) .empty K) rfl ⟨_,?_,ZB rr rfl (.s _) rfl⟩;exact Zv UK (fn:=Tryz.f191) rfl (λK=>ZK4 (x:Nat) .empty K) rfl ⟨_,a,ZB rr rfl (.s _) rfl⟩
abbrev WO(c:UInt8):V:= .i .u8 (c.toNat:Nat)
def te8:TI:=⟨1,1, .int .u8,[.i .u8 0]⟩
structure Bd(h:Heap)(id:Nat)(bs:List UInt8):Prop where
 ex: ∃(a s:Option (Nat×Nat)) (n:Nat) (c:Option Nat) (k:Nat),h.get id=some (.arr [.p a, .sl s n c k] true)∧(a=none∨a=some (id,0))∧IsL h 1 s n c k (bs.map WO)∧
  (∀j o,s=some (j,o)->h.tagOf j=some 5∧j≠id)∧(n=0->s=none)
 tag:h.tagOf id=some 182
 lt:id<h.nx
theorem QD(h:Heap)(i:Nat)(t:Option TypeId)(j:Nat):(h.tagIf i t).tagOf j=match t with|some x=>if i=j then some x else h.tagOf j|none=>h.tagOf j:=by cases t<;>rfl
theorem Zce(h:Heap)(i:Nat)(o:Option YObj)(j:Nat):(h.set i o).tagOf j=h.tagOf j:=rfl
theorem ZGc{h:Heap}{G}{x:V}{m:Nat}{new cells:List V}{a:Option (Nat×Nat)}{l:Nat}{c:Option Nat}{F:Nat}(b:XJ UY ⟨[],[],h⟩ te8 G x=some (m,new))(D:m≠0)(O:new.length=m)(A:Zp new=true)
  (C:IsL h 1 a l c F cells) (p: ∀j o,a=some (j,o)->h.tagOf j=some 5) (N:l+m<=2 ^ 30):
  ∃g,Zk UY h 138 G (.sl a l c F) x=some (.sl (some (h.nx,0)) (l+m) none 1,g)/\g.get h.nx=some (.arr (cells++new) true)/\g.nx=h.nx+1/\g.tagOf h.nx=some 5/\
   (∀i,i<h.nx->(∀o,a≠some (i,o))->g.get i=h.get i)/\ ∀i,i<h.nx->g.tagOf i=h.tagOf i:=by
 have B:UY.kd 138=some (.slice 5):=kr;have q:UY.ty 5=some te8:=kr;have w:UY.tag 5=some 5:=kr;have v:most=1099511627776:=dc;rcases C.2 with ⟨rfl,rfl,rfl⟩|⟨d,rfl,rfl,rfl,L,k⟩;refine⟨h.pushT (some 5) (.arr new true),?_,sm,sm,?_,λi u _=>by rw[qj,uE om],λi u=> ?_⟩;have H:m<=most:=om;have r:te8.size=1:=rfl;have s:te8.bytes=1:=rfl;simp[Zk,Xd,B,q,b,A,D,r,s,H,w];show((h.push (.arr new true)).tagIf h.nx (some 5)).tagOf h.nx=some 5;rw[QD];simp;show((h.push (.arr new true)).tagIf h.nx (some 5)).tagOf i=h.tagOf i;rw[QD];simp only;rw[uE om];rfl
 .have n:=C.1;have E:=p d 0 rfl;refine⟨(h.set d none).pushT (some 5) (.arr (cells++new) true),?_,sm,sm,?_,λi u K=> ?_,λi u=> ?_⟩
  .have t: ¬((l+m)*1>most\/l+m>most):=om;have f: ¬(0+(l+m)*1<=cells.length):=om;have z:Zs (l*1) (cells.drop 0)=some cells:=by rw[ql];exact ZC n
   have r:te8.size=1:=rfl;have s:te8.bytes=1:=rfl;have y:(if(0:Nat)=0/\h.tagOf d=some 5 then some 5 else none)=(some 5:Option TypeId):=by simp[E]
   simp only[Zk,Xd,B,q,b,r,s,vF,D,ne_eq,not_true_eq_false,t,k,f,Bool.true_or,vG,z,y];rw[uE (by simp[A])];simp only[E,and_self,vG]
  .show(((h.set d none).push _).tagIf (h.set d none).nx (some 5)).tagOf h.nx=some 5;rw[QD];simp
  .have f:i≠d:=λe=>K 0 (by rw[e]);rw[qj,uE (by simp;omega),qc,uE f]
  .show(((h.set d none).push _).tagIf (h.set d none).nx (some 5)).tagOf i=h.tagOf i;rw[QD];simp only;rw[uE (by simp;omega)];rfl
theorem ZDm{h}{d:Nat}{q}(b:Bd h d q):Con UY 162 [p_P d] h λv y=>v= .tup []/\Bd y d q:=by
 obtain⟨a,s,n,c,k,i,l,z,x,hz⟩:=b.ex;refine Zx UK (fn:=Tryz.f162) (ZG UK (loc:=UY.loc 162) 100 [] ?_);refine Eq.mpr (ZDj d h _) ?_;have u:Zb h d 0 1=some [.p a]:=by simp[Zb,i,Zs]
 have g:(UY.ty 182).isSome=true:=kr;refine⟨a,u,g,Zf (λw=> ?_) (λw=> ?_)⟩
 .have t: ∃(f:Nat) (r:List V) (wr:Bool) (o:TI),some (d,0)=some (f,0)/\h.get f=some (YObj.arr r wr)/\h.tagOf f=some 182/\some (⟨2,32,Kd.struct [(0,180),(1,138)],[.p none, .sl none 0 (some 0) 0]⟩:TI)=some o/\(o.size=0->False)/\o.size<=r.length:=
   ⟨d,_,_,_,rfl,i,b.tag,rfl,sm,sm⟩
  refine⟨t,t,h.set d (some (.arr [p_P d, .sl s n c k] true)),by simp[Zi,i,splice],finC (.inl rfl) rfl (.now ⟨rfl,⟨⟨some (d,0),s,n,c,k,sm, .inr rfl,?_,x,hz⟩,b.tag,b.lt⟩⟩)⟩;exact z.fr (qnq _) λj A _=>by rw[qc,uE (λe=>(x j 0 A).2 e)]
 .have m:a=some (d,0):=by
   rcases l with rfl|l;simp at w;exact l
  subst m;exact⟨_,u,g,⟨(d,0),rfl,rfl,by simp[i]⟩,finC (.inl rfl) rfl (.now ⟨rfl,b⟩)⟩
theorem Bd.put{h f:Heap}{d:Nat}{m}{new:List UInt8}{a s}{n:Nat}{c}{k:Nat}(b:Bd h d m)(y:h.get d=some (.arr [.p a, .sl s n c k] true))(x:a=none\/a=some (d,0))
  (w:IsL h 1 s n c k (m.map WO)) (A: ∀j o,s=some (j,o)->h.tagOf j=some 5/\j≠d) (l:new≠ [])
  (r:f.get h.nx=some (.arr (m.map WO++new.map WO) true)) (g:f.nx=h.nx+1) (t:f.tagOf h.nx=some 5) (u: ∀i,i<h.nx->(∀o,s≠some (i,o))->f.get i=h.get i) (v: ∀i,i<h.nx->f.tagOf i=h.tagOf i):
  ∃g,Zi f d 1 [.sl (some (h.nx,0)) (n+new.length) none 1]=some g/\Bd g d (m++new):=by
 have q:f.get d=some (.arr [.p a, .sl s n c k] true):=by rw[u d b.lt (λo e=>(A d o e).2 rfl)];exact y
 have z:=b.lt;refine⟨f.set d (some (.arr [.p a, .sl (some (h.nx,0)) (n+new.length) none 1] true)),by simp[Zi,q,splice],⟨⟨a,some (h.nx,0),n+new.length,none,1,sm,x,⟨?_, .inr ⟨h.nx,rfl,rfl,rfl,?_,?_⟩⟩,?_,?_⟩,?_,?_⟩⟩;have:=w.1;simp at this ⊢;omega;simp[g];rw[qc,uE om,r,uV];rintro j o e;cases e;exact⟨by rw[Zce];exact t,om⟩;intro B;have:new.length=0:=om;exact absurd (qg this) l;rw[Zce,v d b.lt];exact b.tag;rw[Heap.nx_set,g];omega
theorem Zw2{h}{g:Nat}{f:List UInt8}(b:Bd h g f)(c:UInt8)(N:f.length<2 ^ 29):Con UY 126 [p_P g, .i .u8 (c.toNat:Nat)] h λv u=>v= .nilifc/\Bd u g (f++ [c]):=by
 refine Zx UK (fn:=Tryz.f126) (ZG UK (loc:=UY.loc 126) 100 [4] ?_);refine Eq.mpr (ZDk g (c.toNat:Nat) h _) ?_;refine(ZDm b).mono λv w ⟨t,m⟩=>⟨t,?_⟩;obtain⟨a,s,n,r,k,p,z,l,q,hz⟩:=m.ex;have B:=l.1;simp at B;have d:XJ UY ⟨[],[],w⟩ te8 138 (.ts [WO c] 1 (some 1))=some (1,[WO c]):=by
  have A:UY.kd 138=some (.slice 5):=kr;simp[XJ,A,QS,XS,te8,Zs]
 obtain⟨x,E,F,G,H,K,L⟩:=ZGc (cells:=f.map WO) d om rfl rfl l (λj o e=>(q j o e).1) om;obtain⟨y,C,D⟩:=m.put (new:= [c]) p z l q sm F G H K L;exact⟨s,n,r,k,by simp[Zb,p,Zs],_,_,_,_,x,E,y,C,finC rr rfl (.now ⟨rfl,D⟩)⟩
theorem Zq4{h}{i:Nat}{l:List UInt8}(b:Bd h i l)(t:List UInt8)(P:l.length+t.length<2 ^ 29):Con UY 146 [p_P i, .s t] h λv K=>v= .tup [I (t.length:Nat), .nilifc]/\Bd K i (l++t):=by
 refine Zx UK (fn:=Tryz.f146) (ZG UK (loc:=UY.loc 146) 100 [4,5] ?_);refine Eq.mpr (ZKu i t h _) ?_;refine(ZDm b).mono λv g ⟨z,y⟩=>⟨z,?_⟩;obtain⟨a,s,n,f,k,E,F,m,B,hz⟩:=y.ex;have W:=m.1;simp at W;have d:XJ UY ⟨[],[],g⟩ te8 9 (.s t)=some (t.length,t.map WO):=by
  have A:UY.kd 9=some .str:=kr;simp[XJ,A,QS,te8]
 have q:Zp (t.map WO)=true:=by
  clear d P
  induction t with
  |nil=>rfl
  |cons c t X=>simp only[qz,Zp,X,Bool.and_true];rfl
 have u:Zb g i 1 1=some [.sl s n f k]:=by simp[Zb,E,Zs]
 by_cases D:t= []
 .subst D;have A:UY.kd 138=some (.slice 5):=kr;have x:UY.ty 5=some te8:=kr;have z:te8.size=1:=rfl;have r:Zk UY g 138 9 (.sl s n f k) (.s [])=some (.sl s n (if s=none then some 0 else f) (if s=none then 1 else k),g):=by
   rcases m.2 with ⟨rfl,rfl,_⟩|⟨G,rfl,rfl,rfl,_,_⟩;simp[Zk,Xd,A,x,d,z,Zp];simp[Zk,Xd,A,x,d,z,Zp]
  refine⟨s,n,f,k,u,_,_,_,_,g,r,g.set i (some (.arr [.p a, .sl s n (if s=none then some 0 else f) (if s=none then 1 else k)] true)),by simp[Zi,E,splice],finC rr rfl (.now ⟨rfl,⟨⟨a,s,n,_,_,by simp;exact⟨rfl,rfl⟩,F,?_,B,hz⟩,y.tag,y.lt⟩⟩)⟩;rw[qi];have w:IsL (g.set i (some (.arr [.p a, .sl s n (if s=none then some 0 else f) (if s=none then 1 else k)] true))) 1 s n f k (l.map WO):=m.fr (qnq _) λj O _=>by rw[qc,uE (λe=>(B j 0 O).2 e)]
  refine⟨w.1,?_⟩;rcases w.2 with ⟨rfl,H,C⟩|⟨G,rfl,C⟩;exact .inl ⟨rfl,H,C⟩;exact .inr ⟨G,rfl,C⟩
 .obtain⟨L,q1,q2,q3,q4,q5,q6⟩:=ZGc (cells:=l.map WO) d (su D) sm q m (λj o e=>(B j o e).1) om;obtain⟨N,Y,Z⟩:=y.put (new:=t) E F m B D q2 q3 q4 q5 q6;exact⟨s,n,f,k,u,_,_,_,_,L,q1,N,Y,finC rr rfl (.now ⟨rfl,Z⟩)⟩
theorem WP: ∀a:List UInt8,Qz (a.map WO)=some a
 | []=>rfl
 |c::a=>by
  rw[qz,Qz,WP a];simp
theorem ZA5{h}{g:Nat}{d:List UInt8}(b:Bd h g d)(A:d.length<2 ^ 30):Con UY 116 [p_P g] h λv _=>v= .s d:=by
 obtain⟨a,s,n,c,k,r,z,l,x,hz⟩:=b.ex;have u:=l.1;simp at u;have f:Zb h g 1 1=some [.sl s n c k]:=by simp[Zb,r,Zs]
 refine Zx UK (fn:=Tryz.f116) (ZG UK (loc:=UY.loc 116) 100 [2] ?_);refine Eq.mpr (ZDi g h _) ?_;have i:most=1099511627776:=dc;rcases l.2 with ⟨rfl,rfl,p⟩|⟨m,rfl,rfl,rfl,y,o⟩;have:d= []:=su p;subst this;refine⟨_,_,_,_,f,λ_=>rfl,_,_,_,_,f,[],h,by simp[strH],finC rr rfl (.now rfl)⟩
 .have j:n≠0:=λe=>by have:=hz e;cases this
  refine⟨_,_,_,_,f,λe=>absurd e j,_,_,_,_,f,d,h.set m (some (.arr (d.map WO) false)),?_,finC rr rfl (.now rfl)⟩;have t:UY.kd 5=some (.int .u8):=kr;have w:Ze3 UY 224 5=true:=kr;have q:=(x m 0 rfl).1;simp only[strH,o,q,t];rw[uE om,uF ⟨w,by simp;omega,by simp;omega⟩,WP]
  rfl
theorem ZK5{f k s0 s1 s2 s3 kc e lo hi gn h}(K):CP UY 114 (pre B_114) (p_P f::.agg (R9 k s0 s1 s2 s3 kc e none lo hi gn)::Rp 61) h [0,2,3,28,29,30] K=(If (k==(1:Int)) (∃a,(PCon UY 147 [.agg [U s0,U s1,U s2,U s3]] λv=>v=.s a)/\Con UY 146 [p_P f,.s a] h fun(v:V) (g:Heap)=> ∃b,v=.tup [I b,V.nilifc]/\K .normal 63 [p_P f,Ud, .lb (R9 k s0 s1 s2 s3 kc e none lo hi gn),J kc e none,I (e:Int),I 0] g\/ ∃c d,v=.tup [I b,V.ifc c d]/\K .normal 63 [p_P f,Ud, .lb (R9 k s0 s1 s2 s3 kc e none lo hi gn),J kc e none,I (e:Int),I 0] g) (If (k==(2:Int)) (Con UY 126 [p_P f,.i .u8 94] h fun(v:V) (g:Heap)=>v=V.nilifc/\K .normal 63 [p_P f,Ud, .lb (R9 k s0 s1 s2 s3 kc e none lo hi gn),J kc e none,I (e:Int),I 0] g\/ ∃a b,v=V.ifc a b/\K .normal 63 [p_P f,Ud, .lb (R9 k s0 s1 s2 s3 kc e none lo hi gn),J kc e none,I (e:Int),I 0] g) (If (k==(3:Int)) (Con UY 126 [p_P f,.i .u8 36] h fun(v:V) (g:Heap)=>v=V.nilifc/\K .normal 63 [p_P f,Ud, .lb (R9 k s0 s1 s2 s3 kc e none lo hi gn),J kc e none,I (e:Int),I 0] g\/ ∃a b,v=V.ifc a b/\K .normal 63 [p_P f,Ud, .lb (R9 k s0 s1 s2 s3 kc e none lo hi gn),J kc e none,I (e:Int),I 0] g) (If (k==(7:Int)) (Con UY 126 [p_P f,.i .u8 40] h fun(v:V) (g:Heap)=>v=V.nilifc/\K .normal 63 [p_P f,Ud, .lb (R9 k s0 s1 s2 s3 kc e none lo hi gn),J kc e none,I (e:Int),I 0] g\/ ∃a b,v=V.ifc a b/\K .normal 63 [p_P f,Ud, .lb (R9 k s0 s1 s2 s3 kc e none lo hi gn),J kc e none,I (e:Int),I 0] g) (K .normal 63 [p_P f,Ud, .lb (R9 k s0 s1 s2 s3 kc e none lo hi gn),J kc e none,I (e:Int),I 0] h))))):=kr
theorem ZK6{id k s0 s1 s2 s3 kc p lo hi gn a h}(K):CP UY 114 (lp_ B_114) (MZ 63 [0,2,3,28,29,30] [p_P id,V.undef,.lb (R9 k s0 s1 s2 s3 kc p none lo hi gn),J kc p none,I (p:Int),I a]) h [0,2,3,28,29,30] K=(If (ltI a p) ((0<=a/\a<p)/\ ∃b c d e f g j l m n o,Zs 9 (List.drop (a.toNat*9) kc)=some (R9 b c d e f g j l m n o)/\If (ltI 0 a) (If (k==(5:Int)) (Con UY 126 [p_P id,.i .u8 124] h fun(v:V) (s:Heap)=>(v=V.nilifc/\Con UY 114 [p_P id,.agg (R9 b c d e f g j l m n o)] s fun(v:V) (s:Heap)=>v=.tup []/\K .normal 63 [p_P id,Ud, .lb (R9 k s0 s1 s2 s3 kc p none lo hi gn),J kc p none,I (p:Int),I (wW (a+(1:Int)))] s)\/ ∃q r,v=V.ifc q r/\Con UY 114 [p_P id,.agg (R9 b c d e f g j l m n o)] s fun(v:V) (s:Heap)=>v=.tup []/\K .normal 63 [p_P id,Ud, .lb (R9 k s0 s1 s2 s3 kc p none lo hi gn),J kc p none,I (p:Int),I (wW (a+(1:Int)))] s) (Con UY 114 [p_P id,.agg (R9 b c d e f g j l m n o)] h fun(v:V) (s:Heap)=>v=.tup []/\K .normal 63 [p_P id,Ud, .lb (R9 k s0 s1 s2 s3 kc p none lo hi gn),J kc p none,I (p:Int),I (wW (a+(1:Int)))] s)) (Con UY 114 [p_P id,.agg (R9 b c d e f g j l m n o)] h fun(v:V) (s:Heap)=>v=.tup []/\K .normal 63 [p_P id,Ud, .lb (R9 k s0 s1 s2 s3 kc p none lo hi gn),J kc p none,I (p:Int),I (wW (a+(1:Int)))] s)) (K (.exit 1) 63 [p_P id,Ud, .lb (R9 k s0 s1 s2 s3 kc p none lo hi gn),J kc p none,I (p:Int),I a] h)):=kr
theorem ZK7{id k s0 s1 s2 s3 kc kn lo hi gn h}(K):CP UY 114 ((post B_114).drop 1) (MZ 63 [0,3] [p_P id,.lb (R9 k s0 s1 s2 s3 kc kn none lo hi gn)]) h [] K=(If (k==(6:Int)) (∃a,(PCon UY 148 [I lo,I hi] λv=>v=.s a)/\Con UY 146 [p_P id,.s a] h fun(v:V) (e:Heap)=> ∃b,v=.tup [I b,V.nilifc]/\K .normal 63 [] e\/ ∃c d,v=.tup [I b,V.ifc c d]/\K .normal 63 [] e) (If (k==(7:Int)) (Con UY 126 [p_P id,.i .u8 41] h fun(v:V) (e:Heap)=>v=V.nilifc/\K .normal 63 [] e\/ ∃a b,v=V.ifc a b/\K .normal 63 [] e) (K .normal 63 [] h))):=kr
theorem ZK8{x y h}(K):CP UY 148 (flat (Za Tryz.f148)) (I x::I y::Rp 47) h [4] K=((λc=>If (x==(0:Int)) (If (y==(-1:Int)) (K .ret 49 [.s #[(42:UInt8)].toList] h) (If (x==(1:Int)) (If (y==(-1:Int)) (K .ret 49 [.s #[(43:UInt8)].toList] h) (If (x==(0:Int)) (If (y==(1:Int)) (K .ret 49 [.s #[(63:UInt8)].toList] h) c) c)) (If (x==(0:Int)) (If (y==(1:Int)) (K .ret 49 [.s #[(63:UInt8)].toList] h) c) c))) (If (x==(1:Int)) (If (y==(-1:Int)) (K .ret 49 [.s #[(43:UInt8)].toList] h) (If (x==(0:Int)) (If (y==(1:Int)) (K .ret 49 [.s #[(63:UInt8)].toList] h) c) c)) (If (x==(0:Int)) (If (y==(1:Int)) (K .ret 49 [.s #[(63:UInt8)].toList] h) c) c))) (If (x==y) (∃a,(PCon UY 178 [I x] λv=>v=.s a)/\ #[(123:UInt8)].toList.length+a.length<=1152921504606846976/\(#[(123:UInt8)].toList++a).length+ #[(125:UInt8)].toList.length<=1152921504606846976/\K .ret 49 [.s (#[(123:UInt8)].toList++a++ #[(125:UInt8)].toList)] h) (If (y==(-1:Int)) (∃a,(PCon UY 178 [I x] λv=>v=.s a)/\ #[(123:UInt8)].toList.length+a.length<=1152921504606846976/\(#[(123:UInt8)].toList++a).length+ #[(44:UInt8),(125:UInt8)].toList.length<=1152921504606846976/\K .ret 49 [.s (#[(123:UInt8)].toList++a++ #[(44:UInt8),(125:UInt8)].toList)] h) (∃a,(PCon UY 178 [I x] λv=>v=.s a)/\ #[(123:UInt8)].toList.length+a.length<=1152921504606846976/\(#[(123:UInt8)].toList++a).length+ #[(44:UInt8)].toList.length<=1152921504606846976/\ ∃b,(PCon UY 178 [I y] λv=>v=.s b)/\(#[(123:UInt8)].toList++a++ #[(44:UInt8)].toList).length+b.length<=1152921504606846976/\(#[(123:UInt8)].toList++a++ #[(44:UInt8)].toList++b).length+ #[(125:UInt8)].toList.length<=1152921504606846976/\K .ret 49 [.s (#[(123:UInt8)].toList++a++ #[(44:UInt8)].toList++b++ #[(125:UInt8)].toList)] h)))):=kr
theorem ZK9{s0 s1 s2 s3 h}(K):CP UY 147 (pre B_147) (.agg [U s0,U s1,U s2,U s3]::Rp 62) h [2,4,38,39,40] K=(∃a b c,(PCon UY 175 [.agg [U s0,U s1,U s2,U s3]] λv=>v=J a b c)/\If ((↑b:Int)==(0:Int)) (K .ret 63 [.s #[(91:UInt8),(94:UInt8),(0:UInt8),(45:UInt8),(255:UInt8),(93:UInt8)].toList,Ud,Ud,Ud,Ud] h) (∃d e f g,(PCon UY 176 [.agg [U 0,U 0,U 0,U 0]] fun(v:V)=>v=.agg [U d,U e,U f,U g])/\If (s0==d&&(s1==e&&(s2==f&&(s3==g&&true)))) (K .ret 63 [.s #[(46:UInt8)].toList,Ud,Ud,Ud,Ud] h) ((λk=>If ((↑b:Int)==(1:Int)) (((0:Int)<=(0:Int)/\(0:Int)<(b:Int))/\ ∃j,Zs 1 a=some [.i .u8 j]/\((0:Int)<=(0:Int)/\(0:Int)<(b:Int))/\ ∃l,Zs 1 (List.drop 1 (List.drop (Int.toNat (0:Int)*(2:Nat)) a))=some [.i .u8 l]/\If (j==l) (((0:Int)<=(0:Int)/\(0:Int)<(b:Int))/\ ∃m,Zs 1 a=some [.i .u8 m]/\ ∃n,(PCon UY 177 [.i .u8 m,.s #[(92:UInt8),(124:UInt8),(40:UInt8),(41:UInt8),(42:UInt8),(43:UInt8),(63:UInt8),(123:UInt8),(46:UInt8),(91:UInt8),(94:UInt8),(36:UInt8)].toList] λv=>v=.s n)/\K .ret 63 [.s n,Ud,Ud,Ud,Ud] h) k) k) (K .normal 63 [.s #[].toList, .s #[(91:UInt8)].toList,J a b c,I (b:Int),I 0] h)))):=kr
theorem ZLa{s4 e b c d a h}(K):CP UY 147 (lp_ B_147) (MZ 63 [4,38,39,40] [.s s4,J b c e,I d,I a]) h [4,38,39,40] K=(If (ltI a d) ((0<=a/\a<c)/\ ∃f g,Zs 2 (List.drop (a.toNat*2) b)=some [.i .u8 f,.i .u8 g]/\ ∃j,(PCon UY 177 [.i .u8 f,.s #[(93:UInt8),(45:UInt8),(92:UInt8),(94:UInt8)].toList] fun(v:V)=>v=.s j)/\s4.length+j.length<=1152921504606846976/\If (g !=f) (∃l,(PCon UY 177 [.i .u8 g,.s #[(93:UInt8),(45:UInt8),(92:UInt8),(94:UInt8)].toList] λv=>v=.s l)/\ #[(45:UInt8)].toList.length+l.length<=1152921504606846976/\(s4++j).length+(#[(45:UInt8)].toList++l).length<=1152921504606846976/\K .normal 63 [.s (s4++j++(#[(45:UInt8)].toList++l)),J b c e,I d,I (wW (a+(1:Int)))] h) (K .normal 63 [.s (s4++j),J b c e,I d,I (wW (a+(1:Int)))] h)) (K (.exit 1) 63 [.s s4,J b c e,I d,I a] h)):=kr
theorem ZLb{a h}(K):CP UY 147 ((post B_147).drop 1) (MZ 63 [4] [.s a]) h [2] K=(a.length+ #[(93:UInt8)].toList.length<=1152921504606846976/\K .ret 63 [.s (a++ #[(93:UInt8)].toList)] h):=kr
end Go.Y
