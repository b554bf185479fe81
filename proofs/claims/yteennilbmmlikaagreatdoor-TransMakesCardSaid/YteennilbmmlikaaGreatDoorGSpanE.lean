/- A part of the proof. -/
import Derived.Test.YteennilbmmlikaaGreatDoorGN5
import Derived.Test.YteennilbmmlikaaGreatDoorYFrz
import Derived.Test.YteennilbmmlikaaGreatDoorYTryzP
import Derived.Test.YteennilbmmlikaaGreatDoorYLoop
namespace Go.Y
open Go.Proofs
set_option maxRecDepth 1000000
set_option maxHeartbeats 0
abbrev encP(p:UInt8×UInt8):List V:= [.i .u8 (p.1.toNat:Nat), .i .u8 (p.2.toNat:Nat)]
theorem Zaw(p:UInt8×UInt8):(encP p).length=2:=rfl
theorem ZDz{h:Heap}{a}{l:Nat}{c}{kk:Nat}{out:List (UInt8×UInt8)}(x:UInt8×UInt8)(hl:Lst encP 2 h a l c kk out)(hb:out.length<2 ^ 29):
  ∃a' l' c' k' h',Zf UY h 57 57 (.sl a l c kk) (.ts [.i .u8 (x.1.toNat:Nat), .i .u8 (x.2.toNat:Nat)] 1 (some 1))=some (.sl a' l' c' k',h')∧Lst encP 2 h' a' l' c' k' (out++ [x])∧Fr h a h'∧ ∃j,a'=some (j,0)∧h.nx<=j:=
 Lst.app1 (Y:=UY) (e:=155) (te:=⟨2,2, .struct [(0,5),(1,5)],[.i .u8 0, .i .u8 0]⟩) x (by kernel_rfl) (by kernel_rfl) rfl (by decide) hl (.cons _ _ _ _ (.i _ _) (.cons _ _ _ _ (.i _ _) .nil)) rfl rfl rfl (by decide) hb
theorem u8w(n:Nat):IntKind.u8.wrap (n:Int)=((UInt8.ofNat n).toNat:Nat):=by
 have e2:(2:Int) ^ IntKind.u8.bits=256:=by decide
 have e3:(UInt8.ofNat n).toNat=n % 256:=by simp
 rw[e3]
 unfold IntKind.wrap
 simp only[e2,IntKind.signed,Bool.false_and]
 simp only[Bool.false_eq_true,if_false]
 omega

def runE(p:Nat->Bool):Nat->Nat->Nat
 |0,c=>c
 |f+1,c=>if p c=true then runE p f (c+1)else c
def goF(p:Nat->Bool):Nat->Nat->List (UInt8×UInt8)->List (UInt8×UInt8)
 |0,_,out=>out
 |f+1,c,out=>if c<256 then goF p f (runE p (256-c) c+1) (if c<runE p (256-c) c then out++ [(UInt8.ofNat c,UInt8.ofNat (runE p (256-c) c-1))]else out)else out
def JK(p:Nat->Bool):List (UInt8×UInt8):=goF p 257 0 []
theorem Zrw(p:Nat->Bool)(f:Nat){c:Nat}(hc:256<=c)(out:List (UInt8×UInt8)):goF p f c out=out:=by
 cases f with
 |zero=>rfl
 |succ f=>rw[goF,if_neg (by omega)]
theorem Zuz{p:Nat->Bool}{c:Nat}(hc:c<256)(hp:p c=true):runE p (256-c) c=runE p (256-(c+1)) (c+1):=by
 obtain⟨f,hf⟩: ∃f,256-c=f+1:=⟨256-c-1,by omega⟩
 rw[hf,runE,if_pos hp,show 256-(c+1)=f by omega]
theorem Zrx{p:Nat->Bool}{c:Nat}(hp:c<256->p c=false):runE p (256-c) c=c:=by
 by_cases hc:c<256
 ·obtain⟨f,hf⟩: ∃f,256-c=f+1:=⟨256-c-1,by omega⟩
  rw[hf,runE,if_neg (by rw[hp hc];simp)]
 ·rw[show 256-c=0 by omega,runE]

def IoS(x:Set4)(m:Nat)(vs:List V)(h:Heap):Prop:=
 ∃(i:Nat) (q:Option (Nat×Nat)) (n:Nat) (cp:Option Nat) (kk:Nat) (out:List (UInt8×UInt8)) (f:Nat),vs= [.lb (setC x), .sl none 0 (some 0) 0, .sl q n cp kk, .i .i64 (i:Nat)]∧m=257-i∧i<=257∧Lst encP 2 h q n cp kk out∧out.length<=i∧257<=f+i∧goF (hasN x) f i out=JK (hasN x)

theorem Zop(x:Set4):PCon UY 175 [.agg (setC x)] (· =lst encP (JK (hasN x))):=by
 refine ZE UK (fn:=Tryz.f175) rfl ?_
 refine Xm UK (n:=33) (loc:=UY.loc 175) 100 [1,2,3,4] (by kernel_rfl) ?_
 refine Eq.mpr (ZDu x.1 x.2.1 x.2.2.1 x.2.2.2 .empty _) ?_
 refine⟨rfl,ZL [1,2,3,4] [1,2,3,4] (IoS x) 257 Zy ⟨0,none,0,some 0,0,[],257,rfl,rfl,by omega,Lst.nil _ _ _ _ _,by simp,by omega,rfl⟩ ?_⟩
 rintro m vs h ⟨i,q,n,cp,kk,out,f,rfl,rfl,hi,hL,hlen,hf,hG⟩
 refine Xm UK (n:=33) (loc:=UY.loc 175) 100 [1,2,3,4] (by kernel_rfl) ?_
 refine Eq.mpr (ZDv x.1 x.2.1 x.2.2.1 x.2.2.2 q n cp kk (i:Nat) h _) ?_
 refine Zm (b:=256) (fun hlt=> ?_) (fun hge=> ?_)
 ·refine⟨rfl,Wj (n:=33) [1,2,3,4] (by kernel_rfl) ?_⟩
  refine Xm UK (n:=33) (loc:=UY.loc 175) 100 [1,2,3,4,5] (by kernel_rfl) ?_
  refine Eq.mpr (ZDw x.1 x.2.1 x.2.2.1 x.2.2.2 q n cp kk (i:Nat) h _) ?_
  refine⟨rfl,ZL [1,2,3,4,5] [1,2,3,4,5] (fun m vs h'=> ∃c:Nat,vs= [.lb (setC x), .sl none 0 (some 0) 0, .sl q n cp kk,I (c:Nat),I i]∧m=256-c∧h'=h∧i<=c∧c<=256∧runE (hasN x) (256-i) i=runE (hasN x) (256-c) c) (256-i) Zy ⟨i,rfl,rfl,rfl,qnq _,by omega,rfl⟩ ?_⟩
  rintro m vs h' ⟨c,rfl,rfl,rfl,hic,hc,hr⟩
  refine ZT UK (loc:=UY.loc 175) 100 [1,2,3,4,5] ?_
  refine Eq.mpr (ZDx x.1 x.2.1 x.2.2.1 x.2.2.2 q n cp kk (c:Nat) (i:Nat) h' _) ?_
  refine Zm (b:=256) (fun hc256=>⟨_,Zy8 x c hc256,Zg (fun hb=> ?_) (fun hb=> ?_)⟩) (fun hge=> ?_)
  ·exact⟨rfl,256-(c+1),by omega,c+1,by rw[Zh (by omega)];rfl,rfl,rfl,by omega,by omega,by rw[hr,Zuz hc256 hb]⟩
  ·have hno:c<256->hasN x c=false:=fun _=>by simpa using hb
   refine Zi [1,2,3,4,5] ?_
   refine ZT UK (loc:=UY.loc 175) 100 [1,2,3,4] ?_
   refine Eq.mpr (Zw3 x.1 x.2.1 x.2.2.1 x.2.2.2 q n cp kk (c:Nat) (i:Nat) h' _) ?_
   rw[Zrx hno]at hr
   obtain⟨g,rfl⟩: ∃g,f=g+1:=⟨f-1,by omega⟩
   rw[goF,if_pos hlt,hr]at hG
   refine Zm (fun hl=> ?_) (fun hl=> ?_)
   ·rw[if_pos hl]at hG
    have hw:IntKind.i64.wrap (((c:Nat):Int)-1)=((c-1:Nat):Int):=by rw[ZG (by omega) (by omega)];omega
    rw[hw,u8w,u8w]
    obtain⟨a',l',c',k',h2,q1,q2,-,-⟩:=ZDz (UInt8.ofNat i,UInt8.ofNat (c-1)) hL (by omega)
    refine⟨a',l',c',k',h2,q1,rfl,[1,2,3,4],rfl,?_⟩
    refine ZT UK (loc:=UY.loc 175) 100 [1,2,3,4] ?_
    refine Eq.mpr (Zmy x.1 x.2.1 x.2.2.1 x.2.2.2 (c:Nat) a' l' c' k' h2 _) ?_
    exact⟨rfl,257-(c+1),by omega,c+1,a',l',c',k',_,g,by rw[Zh (by omega)];rfl,rfl,by omega,q2,by simp;omega,by omega,hG⟩
   ·rw[if_neg (by omega)]at hG
    refine⟨rfl,[1,2,3,4],rfl,?_⟩
    refine ZT UK (loc:=UY.loc 175) 100 [1,2,3,4] ?_
    refine Eq.mpr (Zmy x.1 x.2.1 x.2.2.1 x.2.2.2 (c:Nat) q n cp kk h' _) ?_
    exact⟨rfl,257-(c+1),by omega,c+1,q,n,cp,kk,out,g,by rw[Zh (by omega)];rfl,rfl,by omega,hL,by omega,by omega,hG⟩
  ·have hno:c<256->hasN x c=false:=fun e=>by omega
   refine Zi [1,2,3,4,5] ?_
   refine ZT UK (loc:=UY.loc 175) 100 [1,2,3,4] ?_
   refine Eq.mpr (Zw3 x.1 x.2.1 x.2.2.1 x.2.2.2 q n cp kk (c:Nat) (i:Nat) h' _) ?_
   rw[Zrx hno]at hr
   obtain⟨g,rfl⟩: ∃g,f=g+1:=⟨f-1,by omega⟩
   rw[goF,if_pos hlt,hr]at hG
   refine Zm (fun hl=> ?_) (fun hl=> ?_)
   ·rw[if_pos hl]at hG
    have hw:IntKind.i64.wrap (((c:Nat):Int)-1)=((c-1:Nat):Int):=by rw[ZG (by omega) (by omega)];omega
    rw[hw,u8w,u8w]
    obtain⟨a',l',c',k',h2,q1,q2,-,-⟩:=ZDz (UInt8.ofNat i,UInt8.ofNat (c-1)) hL (by omega)
    refine⟨a',l',c',k',h2,q1,rfl,[1,2,3,4],rfl,?_⟩
    refine ZT UK (loc:=UY.loc 175) 100 [1,2,3,4] ?_
    refine Eq.mpr (Zmy x.1 x.2.1 x.2.2.1 x.2.2.2 (c:Nat) a' l' c' k' h2 _) ?_
    exact⟨rfl,257-(c+1),by omega,c+1,a',l',c',k',_,g,by rw[Zh (by omega)];rfl,rfl,by omega,q2,by simp;omega,by omega,hG⟩
   ·rw[if_neg (by omega)]at hG
    refine⟨rfl,[1,2,3,4],rfl,?_⟩
    refine ZT UK (loc:=UY.loc 175) 100 [1,2,3,4] ?_
    refine Eq.mpr (Zmy x.1 x.2.1 x.2.2.1 x.2.2.2 (c:Nat) q n cp kk h' _) ?_
    exact⟨rfl,257-(c+1),by omega,c+1,q,n,cp,kk,out,g,by rw[Zh (by omega)];rfl,rfl,by omega,hL,by omega,by omega,hG⟩
 ·refine Qe rfl (Zi [3] ?_)
  refine ZB UK (loc:=UY.loc 175) 100 [2] ?_
  refine Eq.mpr (ZDy ..) ?_
  rw[Zrw _ _ hge]at hG
  subst hG
  exact Zv (.inr rfl) rfl (hL.frz (by decide) Zaw) rfl
def Xt(x:Nat):List UInt8:= [UInt8.ofNat (48+x)]
theorem Zza:PCon UY 201 [I 0] (· = .s (Xt 0)):=by
 have tr: ∀(h:Heap) (K:KT),(Zc UY (UY.loc 201) 100 (flat (Za Tryz.f201)) ⟨I 0::List.replicate 14 .undef,[],h⟩ (VQ [2] K))=((((0:Int)<=1∧(1:Int)<=36)∧(((0:Int)<=0∧(0:Int)<=1)∧K Out.ret 15 [V.s (Xt 0)] h))):=fun h K=>by kernel_rfl
 exact Zt UK (fn:=Tryz.f201) rfl (tr .empty) rfl ⟨⟨by decide,by decide⟩,⟨by decide,by decide⟩,Zv (.inr rfl) rfl (.s _) rfl⟩
theorem Zzb:PCon UY 198 [I 0,I 10] (· = .s (Xt 0)):=by
 have tr: ∀(h:Heap) (K:KT),(Zc UY (UY.loc 198) 100 (flat (Za Tryz.f198)) ⟨I 0::I 10::List.replicate 52 .undef,[],h⟩ (VQ [4] K))=(∃s:List UInt8,(PCon UY (201:Nat) [V.i IntKind.i64 0] fun(v:V)=>v=V.s s)∧K Out.ret 54 [V.s s] h):=fun h K=>by kernel_rfl
 exact Zt UK (fn:=Tryz.f198) rfl (tr .empty) rfl ⟨_,Zza,Zv (.inr rfl) rfl (.s _) rfl⟩
theorem Zzc:PCon UY 201 [I 1] (· = .s (Xt 1)):=by
 have tr: ∀(h:Heap) (K:KT),(Zc UY (UY.loc 201) 100 (flat (Za Tryz.f201)) ⟨I 1::List.replicate 14 .undef,[],h⟩ (VQ [2] K))=((((0:Int)<=2∧(2:Int)<=36)∧(((0:Int)<=1∧(1:Int)<=2)∧K Out.ret 15 [V.s (Xt 1)] h))):=fun h K=>by kernel_rfl
 exact Zt UK (fn:=Tryz.f201) rfl (tr .empty) rfl ⟨⟨by decide,by decide⟩,⟨by decide,by decide⟩,Zv (.inr rfl) rfl (.s _) rfl⟩
theorem Zzd:PCon UY 198 [I 1,I 10] (· = .s (Xt 1)):=by
 have tr: ∀(h:Heap) (K:KT),(Zc UY (UY.loc 198) 100 (flat (Za Tryz.f198)) ⟨I 1::I 10::List.replicate 52 .undef,[],h⟩ (VQ [4] K))=(∃s:List UInt8,(PCon UY (201:Nat) [V.i IntKind.i64 1] fun(v:V)=>v=V.s s)∧K Out.ret 54 [V.s s] h):=fun h K=>by kernel_rfl
 exact Zt UK (fn:=Tryz.f198) rfl (tr .empty) rfl ⟨_,Zzc,Zv (.inr rfl) rfl (.s _) rfl⟩
theorem Zze:PCon UY 201 [I 2] (· = .s (Xt 2)):=by
 have tr: ∀(h:Heap) (K:KT),(Zc UY (UY.loc 201) 100 (flat (Za Tryz.f201)) ⟨I 2::List.replicate 14 .undef,[],h⟩ (VQ [2] K))=((((0:Int)<=3∧(3:Int)<=36)∧(((0:Int)<=2∧(2:Int)<=3)∧K Out.ret 15 [V.s (Xt 2)] h))):=fun h K=>by kernel_rfl
 exact Zt UK (fn:=Tryz.f201) rfl (tr .empty) rfl ⟨⟨by decide,by decide⟩,⟨by decide,by decide⟩,Zv (.inr rfl) rfl (.s _) rfl⟩
theorem Zzf:PCon UY 198 [I 2,I 10] (· = .s (Xt 2)):=by
 have tr: ∀(h:Heap) (K:KT),(Zc UY (UY.loc 198) 100 (flat (Za Tryz.f198)) ⟨I 2::I 10::List.replicate 52 .undef,[],h⟩ (VQ [4] K))=(∃s:List UInt8,(PCon UY (201:Nat) [V.i IntKind.i64 2] fun(v:V)=>v=V.s s)∧K Out.ret 54 [V.s s] h):=fun h K=>by kernel_rfl
 exact Zt UK (fn:=Tryz.f198) rfl (tr .empty) rfl ⟨_,Zze,Zv (.inr rfl) rfl (.s _) rfl⟩
theorem Zzg:PCon UY 201 [I 3] (· = .s (Xt 3)):=by
 have tr: ∀(h:Heap) (K:KT),(Zc UY (UY.loc 201) 100 (flat (Za Tryz.f201)) ⟨I 3::List.replicate 14 .undef,[],h⟩ (VQ [2] K))=((((0:Int)<=4∧(4:Int)<=36)∧(((0:Int)<=3∧(3:Int)<=4)∧K Out.ret 15 [V.s (Xt 3)] h))):=fun h K=>by kernel_rfl
 exact Zt UK (fn:=Tryz.f201) rfl (tr .empty) rfl ⟨⟨by decide,by decide⟩,⟨by decide,by decide⟩,Zv (.inr rfl) rfl (.s _) rfl⟩
theorem Zzh:PCon UY 198 [I 3,I 10] (· = .s (Xt 3)):=by
 have tr: ∀(h:Heap) (K:KT),(Zc UY (UY.loc 198) 100 (flat (Za Tryz.f198)) ⟨I 3::I 10::List.replicate 52 .undef,[],h⟩ (VQ [4] K))=(∃s:List UInt8,(PCon UY (201:Nat) [V.i IntKind.i64 3] fun(v:V)=>v=V.s s)∧K Out.ret 54 [V.s s] h):=fun h K=>by kernel_rfl
 exact Zt UK (fn:=Tryz.f198) rfl (tr .empty) rfl ⟨_,Zzg,Zv (.inr rfl) rfl (.s _) rfl⟩
theorem Zzi:PCon UY 201 [I 4] (· = .s (Xt 4)):=by
 have tr: ∀(h:Heap) (K:KT),(Zc UY (UY.loc 201) 100 (flat (Za Tryz.f201)) ⟨I 4::List.replicate 14 .undef,[],h⟩ (VQ [2] K))=((((0:Int)<=5∧(5:Int)<=36)∧(((0:Int)<=4∧(4:Int)<=5)∧K Out.ret 15 [V.s (Xt 4)] h))):=fun h K=>by kernel_rfl
 exact Zt UK (fn:=Tryz.f201) rfl (tr .empty) rfl ⟨⟨by decide,by decide⟩,⟨by decide,by decide⟩,Zv (.inr rfl) rfl (.s _) rfl⟩
theorem Zzj:PCon UY 198 [I 4,I 10] (· = .s (Xt 4)):=by
 have tr: ∀(h:Heap) (K:KT),(Zc UY (UY.loc 198) 100 (flat (Za Tryz.f198)) ⟨I 4::I 10::List.replicate 52 .undef,[],h⟩ (VQ [4] K))=(∃s:List UInt8,(PCon UY (201:Nat) [V.i IntKind.i64 4] fun(v:V)=>v=V.s s)∧K Out.ret 54 [V.s s] h):=fun h K=>by kernel_rfl
 exact Zt UK (fn:=Tryz.f198) rfl (tr .empty) rfl ⟨_,Zzi,Zv (.inr rfl) rfl (.s _) rfl⟩
theorem Zzk:PCon UY 201 [I 5] (· = .s (Xt 5)):=by
 have tr: ∀(h:Heap) (K:KT),(Zc UY (UY.loc 201) 100 (flat (Za Tryz.f201)) ⟨I 5::List.replicate 14 .undef,[],h⟩ (VQ [2] K))=((((0:Int)<=6∧(6:Int)<=36)∧(((0:Int)<=5∧(5:Int)<=6)∧K Out.ret 15 [V.s (Xt 5)] h))):=fun h K=>by kernel_rfl
 exact Zt UK (fn:=Tryz.f201) rfl (tr .empty) rfl ⟨⟨by decide,by decide⟩,⟨by decide,by decide⟩,Zv (.inr rfl) rfl (.s _) rfl⟩
theorem Zzl:PCon UY 198 [I 5,I 10] (· = .s (Xt 5)):=by
 have tr: ∀(h:Heap) (K:KT),(Zc UY (UY.loc 198) 100 (flat (Za Tryz.f198)) ⟨I 5::I 10::List.replicate 52 .undef,[],h⟩ (VQ [4] K))=(∃s:List UInt8,(PCon UY (201:Nat) [V.i IntKind.i64 5] fun(v:V)=>v=V.s s)∧K Out.ret 54 [V.s s] h):=fun h K=>by kernel_rfl
 exact Zt UK (fn:=Tryz.f198) rfl (tr .empty) rfl ⟨_,Zzk,Zv (.inr rfl) rfl (.s _) rfl⟩
theorem Zzm:PCon UY 201 [I 6] (· = .s (Xt 6)):=by
 have tr: ∀(h:Heap) (K:KT),(Zc UY (UY.loc 201) 100 (flat (Za Tryz.f201)) ⟨I 6::List.replicate 14 .undef,[],h⟩ (VQ [2] K))=((((0:Int)<=7∧(7:Int)<=36)∧(((0:Int)<=6∧(6:Int)<=7)∧K Out.ret 15 [V.s (Xt 6)] h))):=fun h K=>by kernel_rfl
 exact Zt UK (fn:=Tryz.f201) rfl (tr .empty) rfl ⟨⟨by decide,by decide⟩,⟨by decide,by decide⟩,Zv (.inr rfl) rfl (.s _) rfl⟩
theorem Zzn:PCon UY 198 [I 6,I 10] (· = .s (Xt 6)):=by
 have tr: ∀(h:Heap) (K:KT),(Zc UY (UY.loc 198) 100 (flat (Za Tryz.f198)) ⟨I 6::I 10::List.replicate 52 .undef,[],h⟩ (VQ [4] K))=(∃s:List UInt8,(PCon UY (201:Nat) [V.i IntKind.i64 6] fun(v:V)=>v=V.s s)∧K Out.ret 54 [V.s s] h):=fun h K=>by kernel_rfl
 exact Zt UK (fn:=Tryz.f198) rfl (tr .empty) rfl ⟨_,Zzm,Zv (.inr rfl) rfl (.s _) rfl⟩
theorem Zzo:PCon UY 201 [I 7] (· = .s (Xt 7)):=by
 have tr: ∀(h:Heap) (K:KT),(Zc UY (UY.loc 201) 100 (flat (Za Tryz.f201)) ⟨I 7::List.replicate 14 .undef,[],h⟩ (VQ [2] K))=((((0:Int)<=8∧(8:Int)<=36)∧(((0:Int)<=7∧(7:Int)<=8)∧K Out.ret 15 [V.s (Xt 7)] h))):=fun h K=>by kernel_rfl
 exact Zt UK (fn:=Tryz.f201) rfl (tr .empty) rfl ⟨⟨by decide,by decide⟩,⟨by decide,by decide⟩,Zv (.inr rfl) rfl (.s _) rfl⟩
theorem Zzp:PCon UY 198 [I 7,I 10] (· = .s (Xt 7)):=by
 have tr: ∀(h:Heap) (K:KT),(Zc UY (UY.loc 198) 100 (flat (Za Tryz.f198)) ⟨I 7::I 10::List.replicate 52 .undef,[],h⟩ (VQ [4] K))=(∃s:List UInt8,(PCon UY (201:Nat) [V.i IntKind.i64 7] fun(v:V)=>v=V.s s)∧K Out.ret 54 [V.s s] h):=fun h K=>by kernel_rfl
 exact Zt UK (fn:=Tryz.f198) rfl (tr .empty) rfl ⟨_,Zzo,Zv (.inr rfl) rfl (.s _) rfl⟩
theorem Zzq:PCon UY 201 [I 8] (· = .s (Xt 8)):=by
 have tr: ∀(h:Heap) (K:KT),(Zc UY (UY.loc 201) 100 (flat (Za Tryz.f201)) ⟨I 8::List.replicate 14 .undef,[],h⟩ (VQ [2] K))=((((0:Int)<=9∧(9:Int)<=36)∧(((0:Int)<=8∧(8:Int)<=9)∧K Out.ret 15 [V.s (Xt 8)] h))):=fun h K=>by kernel_rfl
 exact Zt UK (fn:=Tryz.f201) rfl (tr .empty) rfl ⟨⟨by decide,by decide⟩,⟨by decide,by decide⟩,Zv (.inr rfl) rfl (.s _) rfl⟩
theorem Zzr:PCon UY 198 [I 8,I 10] (· = .s (Xt 8)):=by
 have tr: ∀(h:Heap) (K:KT),(Zc UY (UY.loc 198) 100 (flat (Za Tryz.f198)) ⟨I 8::I 10::List.replicate 52 .undef,[],h⟩ (VQ [4] K))=(∃s:List UInt8,(PCon UY (201:Nat) [V.i IntKind.i64 8] fun(v:V)=>v=V.s s)∧K Out.ret 54 [V.s s] h):=fun h K=>by kernel_rfl
 exact Zt UK (fn:=Tryz.f198) rfl (tr .empty) rfl ⟨_,Zzq,Zv (.inr rfl) rfl (.s _) rfl⟩
theorem ZD0(x:Int)(h:Heap)(K:KT):(Zc UY (UY.loc 178) 100 (flat (Za Tryz.f178)) ⟨I x::List.replicate 4 .undef,[],h⟩ (VQ [2] K))=(∃s:List UInt8,(PCon UY (191:Nat) [V.i IntKind.i64 x] fun(v:V)=>v=V.s s)∧K Out.ret 5 [V.s s] h):=by kernel_rfl
theorem ZD1(x:Int)(h:Heap)(K:KT):(Zc UY (UY.loc 191) 100 (flat (Za Tryz.f191)) ⟨I x::List.replicate 4 .undef,[],h⟩ (VQ [2] K))=(∃s:List UInt8,(PCon UY (198:Nat) [V.i IntKind.i64 x,V.i IntKind.i64 10] fun(v:V)=>v=V.s s)∧K Out.ret 5 [V.s s] h):=by kernel_rfl
theorem Zmz(x:Nat)(hx:x<=8):PCon UY 178 [I x] (· = .s (Xt x)):=by
 have h198:PCon UY 198 [I x,I 10] (· = .s (Xt x)):=by
  match x,hx with
  |0,_=>exact Zzb
  |1,_=>exact Zzd
  |2,_=>exact Zzf
  |3,_=>exact Zzh
  |4,_=>exact Zzj
  |5,_=>exact Zzl
  |6,_=>exact Zzn
  |7,_=>exact Zzp
  |8,_=>exact Zzr
 refine Zt UK (fn:=Tryz.f178) rfl (fun K=>ZD0 (x:Nat) .empty K) rfl ⟨_,?_,Zv (.inr rfl) rfl (.s _) rfl⟩
 exact Zt UK (fn:=Tryz.f191) rfl (fun K=>ZD1 (x:Nat) .empty K) rfl ⟨_,h198,Zv (.inr rfl) rfl (.s _) rfl⟩
abbrev Wc(c:UInt8):V:= .i .u8 (c.toNat:Nat)
def te8:TI:=⟨1,1, .int .u8,[.i .u8 0]⟩

structure Bd(h:Heap)(id:Nat)(bs:List UInt8):Prop where
 ex: ∃(a s:Option (Nat×Nat)) (n:Nat) (c:Option Nat) (k:Nat),h.get id=some (.arr [.p a, .sl s n c k] true)∧(a=none∨a=some (id,0))∧IsL h 1 s n c k (bs.map Wc)∧
  (∀j o,s=some (j,o)->h.tagOf j=some 5∧j≠id)∧(n=0->s=none)
 tag:h.tagOf id=some 182
 lt:id<h.nx

theorem Ql(h:Heap)(i:Nat)(t:Option TypeId)(j:Nat):(h.tagIf i t).tagOf j=match t with|some x=>if i=j then some x else h.tagOf j|none=>h.tagOf j:=by
 cases t<;>rfl
theorem Zax(h:Heap)(i:Nat)(o:Option YObj)(j:Nat):(h.set i o).tagOf j=h.tagOf j:=rfl
theorem Zzs{h:Heap}{xt:TypeId}{x:V}{m:Nat}{new cells:List V}{a:Option (Nat×Nat)}{l:Nat}{c:Option Nat}{kk:Nat}(hsrc:Xz UY ⟨[],[],h⟩ te8 xt x=some (m,new))(hm:m≠0)(hn:new.length=m)(hc:Zk new=true)
  (hl:IsL h 1 a l c kk cells) (htag: ∀j o,a=some (j,o)->h.tagOf j=some 5) (hb:l+m<=2 ^ 30):
  ∃h',Zf UY h 138 xt (.sl a l c kk) x=some (.sl (some (h.nx,0)) (l+m) none 1,h')∧h'.get h.nx=some (.arr (cells++new) true)∧h'.nx=h.nx+1∧h'.tagOf h.nx=some 5∧
   (∀i,i<h.nx->(∀o,a≠some (i,o))->h'.get i=h.get i)∧ ∀i,i<h.nx->h'.tagOf i=h.tagOf i:=by
 have hk:UY.kd 138=some (.slice 5):=by kernel_rfl
 have hte:UY.ty 5=some te8:=by kernel_rfl
 have ht5:UY.tag 5=some 5:=by kernel_rfl
 have hmost:most=1099511627776:=by decide
 rcases hl.2 with ⟨rfl,rfl,rfl⟩|⟨id,rfl,rfl,rfl,hid,hget⟩
 ·refine⟨h.pushT (some 5) (.arr new true),?_,by simp,by simp,?_,fun i hi _=>by rw[qj,if_neg (by omega)],fun i hi=> ?_⟩
  ·have h1:m<=most:=by omega
   have e1:te8.size=1:=rfl
   have e2:te8.bytes=1:=rfl
   simp[Zf,ZR,hk,hte,hsrc,hc,hm,e1,e2,h1,ht5]
  ·show((h.push (.arr new true)).tagIf h.nx (some 5)).tagOf h.nx=some 5
   rw[Ql];simp
  ·show((h.push (.arr new true)).tagIf h.nx (some 5)).tagOf i=h.tagOf i
   rw[Ql];simp only;rw[if_neg (by omega)];rfl
 ·have hlen:=hl.1
  have ht:=htag id 0 rfl
  refine⟨(h.set id none).pushT (some 5) (.arr (cells++new) true),?_,by simp,by simp,?_,fun i hi ha=> ?_,fun i hi=> ?_⟩
  ·have hb1: ¬((l+m)*1>most∨l+m>most):=by omega
   have hne: ¬(0+(l+m)*1<=cells.length):=by omega
   have htk:Zo (l*1) (cells.drop 0)=some cells:=by rw[ql];exact ZA hlen
   have e1:te8.size=1:=rfl
   have e2:te8.bytes=1:=rfl
   have htg:(if(0:Nat)=0∧h.tagOf id=some 5 then some 5 else none)=(some 5:Option TypeId):=by simp[ht]
   simp only[Zf,ZR,hk,hte,hsrc,e1,e2,if_false,hm,ne_eq,not_true_eq_false,hb1,hget,hne,Bool.true_or,if_true,htk,htg]
   rw[if_neg (by simp[hc])]
   simp only[ht,and_self,if_true]
  ·show(((h.set id none).push _).tagIf (h.set id none).nx (some 5)).tagOf h.nx=some 5
   rw[Ql];simp
  ·have hne:i≠id:=fun e=>ha 0 (by rw[e])
   rw[qj,if_neg (by simp;omega),qc,if_neg hne]
  ·show(((h.set id none).push _).tagIf (h.set id none).nx (some 5)).tagOf i=h.tagOf i
   rw[Ql];simp only;rw[if_neg (by simp;omega)];rfl

theorem Zw4{h:Heap}{id:Nat}{bs:List UInt8}(b:Bd h id bs):Con UY 162 [.p (some (id,0))] h fun v h'=>v= .tup []∧Bd h' id bs:=by
 obtain⟨a,s,n,c,k,hg,ha,hL,ht,hz⟩:=b.ex
 refine Zu UK (fn:=Tryz.f162) (ZB UK (loc:=UY.loc 162) 100 [] ?_)
 refine Eq.mpr (Zw1 id h _) ?_
 have hc:Zb h id 0 1=some [.p a]:=by simp[Zb,hg,Zo]
 have hty:(UY.ty 182).isSome=true:=by kernel_rfl
 refine⟨a,hc,hty,Zg (fun hn=> ?_) (fun hn=> ?_)⟩
 ·have cv: ∃(id_1:Nat) (cs:List V) (wr:Bool) (ti:TI),some (id,0)=some (id_1,0)∧h.get id_1=some (YObj.arr cs wr)∧h.tagOf id_1=some 182∧some (⟨2,32,Kd.struct [(0,180),(1,138)],[.p none, .sl none 0 (some 0) 0]⟩:TI)=some ti∧(ti.size=0->False)∧ti.size<=cs.length:=
   ⟨id,_,_,_,rfl,hg,b.tag,rfl,by simp,by simp⟩
  refine⟨cv,cv,h.set id (some (.arr [.p (some (id,0)), .sl s n c k] true)),by simp[Zj,hg,splice],finC (.inl rfl) rfl (.now ⟨rfl,⟨⟨some (id,0),s,n,c,k,by simp, .inr rfl,?_,ht,hz⟩,b.tag,b.lt⟩⟩)⟩
  exact hL.fr (qnq _) fun j hj _=>by rw[qc,if_neg (fun e=>(ht j 0 hj).2 e)]
 ·have ha':a=some (id,0):=by
   rcases ha with rfl|ha
   ·simp at hn
   ·exact ha
  subst ha'
  exact⟨_,hc,hty,⟨(id,0),rfl,rfl,by simp[hg]⟩,finC (.inl rfl) rfl (.now ⟨rfl,b⟩)⟩

theorem Bd.put{h h':Heap}{id:Nat}{bs:List UInt8}{new:List UInt8}{a s}{n:Nat}{c}{k:Nat}(b:Bd h id bs)(hg:h.get id=some (.arr [.p a, .sl s n c k] true))(ha:a=none∨a=some (id,0))
  (hL:IsL h 1 s n c k (bs.map Wc)) (ht: ∀j o,s=some (j,o)->h.tagOf j=some 5∧j≠id) (hnew:new≠ [])
  (h1:h'.get h.nx=some (.arr (bs.map Wc++new.map Wc) true)) (h2:h'.nx=h.nx+1) (h3:h'.tagOf h.nx=some 5) (h4: ∀i,i<h.nx->(∀o,s≠some (i,o))->h'.get i=h.get i) (h5: ∀i,i<h.nx->h'.tagOf i=h.tagOf i):
  ∃h2,Zj h' id 1 [.sl (some (h.nx,0)) (n+new.length) none 1]=some h2∧Bd h2 id (bs++new):=by
 have hgi:h'.get id=some (.arr [.p a, .sl s n c k] true):=by rw[h4 id b.lt (fun o e=>(ht id o e).2 rfl)];exact hg
 have hlt:=b.lt
 refine⟨h'.set id (some (.arr [.p a, .sl (some (h.nx,0)) (n+new.length) none 1] true)),by simp[Zj,hgi,splice],⟨⟨a,some (h.nx,0),n+new.length,none,1,by simp,ha,⟨?_, .inr ⟨h.nx,rfl,rfl,rfl,?_,?_⟩⟩,?_,?_⟩,?_,?_⟩⟩
 ·have:=hL.1
  simp at this ⊢;omega
 ·simp[h2]
 ·rw[qc,if_neg (by omega),h1,List.map_append]
 ·rintro j o e
  cases e
  exact⟨by rw[Zax];exact h3,by omega⟩
 ·intro h0
  have:new.length=0:=by omega
  exact absurd (qg this) hnew
 ·rw[Zax,h5 id b.lt];exact b.tag
 ·rw[Heap.nx_set,h2];omega

theorem Zry{h:Heap}{id:Nat}{bs:List UInt8}(b:Bd h id bs)(c:UInt8)(hl:bs.length<2 ^ 29):Con UY 126 [.p (some (id,0)), .i .u8 (c.toNat:Nat)] h fun v h'=>v= .nilifc∧Bd h' id (bs++ [c]):=by
 refine Zu UK (fn:=Tryz.f126) (ZB UK (loc:=UY.loc 126) 100 [4] ?_)
 refine Eq.mpr (Zw2 id (c.toNat:Nat) h _) ?_
 refine(Zw4 b).mono fun v h1 ⟨e1,b1⟩=>⟨e1,?_⟩
 obtain⟨a,s,n,cc,k,hg,ha,hL,ht,hz⟩:=b1.ex
 have hn:=hL.1
 simp at hn
 have hsrc:Xz UY ⟨[],[],h1⟩ te8 138 (.ts [Wc c] 1 (some 1))=some (1,[Wc c]):=by
  have hk:UY.kd 138=some (.slice 5):=by kernel_rfl
  simp[Xz,hk,QL,XE,te8,Zo]
 obtain⟨h2,q1,q2,q3,q4,q5,q6⟩:=Zzs (cells:=bs.map Wc) hsrc (by omega) rfl rfl hL (fun j o e=>(ht j o e).1) (by omega)
 obtain⟨h3,p1,p2⟩:=b1.put (new:= [c]) hg ha hL ht (by simp) q2 q3 q4 q5 q6
 exact⟨s,n,cc,k,by simp[Zb,hg,Zo],_,_,_,_,h2,q1,h3,p1,finC (.inr rfl) rfl (.now ⟨rfl,p2⟩)⟩

theorem Zm0{h:Heap}{id:Nat}{bs:List UInt8}(b:Bd h id bs)(t:List UInt8)(hl:bs.length+t.length<2 ^ 29):Con UY 146 [.p (some (id,0)), .s t] h fun v h'=>v= .tup [I (t.length:Nat), .nilifc]∧Bd h' id (bs++t):=by
 refine Zu UK (fn:=Tryz.f146) (ZB UK (loc:=UY.loc 146) 100 [4,5] ?_)
 refine Eq.mpr (ZDr id t h _) ?_
 refine(Zw4 b).mono fun v h1 ⟨e1,b1⟩=>⟨e1,?_⟩
 obtain⟨a,s,n,cc,k,hg,ha,hL,ht,hz⟩:=b1.ex
 have hn:=hL.1
 simp at hn
 have hsrc:Xz UY ⟨[],[],h1⟩ te8 9 (.s t)=some (t.length,t.map Wc):=by
  have hk:UY.kd 9=some .str:=by kernel_rfl
  simp[Xz,hk,QL,te8]
 have hall:Zk (t.map Wc)=true:=by
  clear hsrc hl
  induction t with
  |nil=>rfl
  |cons c t ih=>simp only[qz,Zk,ih,Bool.and_true];rfl
 have hc1:Zb h1 id 1 1=some [.sl s n cc k]:=by simp[Zb,hg,Zo]
 by_cases h0:t= []
 ·subst h0
  have hk:UY.kd 138=some (.slice 5):=by kernel_rfl
  have hte:UY.ty 5=some te8:=by kernel_rfl
  have e1:te8.size=1:=rfl
  have happ:Zf UY h1 138 9 (.sl s n cc k) (.s [])=some (.sl s n (if s=none then some 0 else cc) (if s=none then 1 else k),h1):=by
   rcases hL.2 with ⟨rfl,rfl,_⟩|⟨i2,rfl,rfl,rfl,_,_⟩
   ·simp[Zf,ZR,hk,hte,hsrc,e1,Zk]
   ·simp[Zf,ZR,hk,hte,hsrc,e1,Zk]
  refine⟨s,n,cc,k,hc1,_,_,_,_,h1,happ,h1.set id (some (.arr [.p a, .sl s n (if s=none then some 0 else cc) (if s=none then 1 else k)] true)),by simp[Zj,hg,splice],finC (.inr rfl) rfl (.now ⟨rfl,⟨⟨a,s,n,_,_,by simp;exact⟨rfl,rfl⟩,ha,?_,ht,hz⟩,b1.tag,b1.lt⟩⟩)⟩
  rw[qi]
  have hfr:IsL (h1.set id (some (.arr [.p a, .sl s n (if s=none then some 0 else cc) (if s=none then 1 else k)] true))) 1 s n cc k (bs.map Wc):=hL.fr (qnq _) fun j hj _=>by rw[qc,if_neg (fun e=>(ht j 0 hj).2 e)]
  refine⟨hfr.1,?_⟩
  rcases hfr.2 with ⟨rfl,g2,g3⟩|⟨i2,rfl,g3⟩
  ·exact .inl ⟨rfl,g2,g3⟩
  ·exact .inr ⟨i2,rfl,g3⟩
 ·obtain⟨h2,q1,q2,q3,q4,q5,q6⟩:=Zzs (cells:=bs.map Wc) hsrc (by simpa using h0) (by simp) hall hL (fun j o e=>(ht j o e).1) (by omega)
  obtain⟨h3,p1,p2⟩:=b1.put (new:=t) hg ha hL ht h0 q2 q3 q4 q5 q6
  exact⟨s,n,cc,k,hc1,_,_,_,_,h2,q1,h3,p1,finC (.inr rfl) rfl (.now ⟨rfl,p2⟩)⟩

theorem Wd: ∀bs:List UInt8,Qi (bs.map Wc)=some bs
 | []=>rfl
 |c::bs=>by
  rw[qz,Qi,Wd bs]
  simp

theorem Zu0{h:Heap}{id:Nat}{bs:List UInt8}(b:Bd h id bs)(hl:bs.length<2 ^ 30):Con UY 116 [.p (some (id,0))] h fun v _=>v= .s bs:=by
 obtain⟨a,s,n,c,k,hg,ha,hL,ht,hz⟩:=b.ex
 have hn:=hL.1
 simp at hn
 have hc:Zb h id 1 1=some [.sl s n c k]:=by simp[Zb,hg,Zo]
 refine Zu UK (fn:=Tryz.f116) (ZB UK (loc:=UY.loc 116) 100 [2] ?_)
 refine Eq.mpr (Zw0 id h _) ?_
 have hmost:most=1099511627776:=by decide
 rcases hL.2 with ⟨rfl,rfl,h0⟩|⟨i2,rfl,rfl,rfl,g1,g2⟩
 ·have:bs= []:=by simpa using h0
  subst this
  refine⟨_,_,_,_,hc,fun _=>rfl,_,_,_,_,hc,[],h,by simp[strH],finC (.inr rfl) rfl (.now rfl)⟩
 ·have hne:n≠0:=fun e=>by have:=hz e;cases this
  refine⟨_,_,_,_,hc,fun e=>absurd e hne,_,_,_,_,hc,bs,h.set i2 (some (.arr (bs.map Wc) false)),?_,finC (.inr rfl) rfl (.now rfl)⟩
  have hk:UY.kd 5=some (.int .u8):=by kernel_rfl
  have hp:Zcw UY 224 5=true:=by kernel_rfl
  have h5:=(ht i2 0 rfl).1
  simp only[strH,g2,h5,hk]
  rw[if_neg (by omega),if_pos ⟨hp,by simp;omega,by simp;omega⟩,Wd]
  rfl
theorem ZD2{id k s0 s1 s2 s3 kc kn lo hi gn h}(K):CP UY 114 (pre (flat (Za Tryz.f114))) (.p (some (id,0))::.agg (R9 k s0 s1 s2 s3 kc kn none lo hi gn)::Rp 61) h [0,2,3,28,29,30] K=(If (k==(1:Int)) (∃a,(PCon UY 147 [.agg [U s0,U s1,U s2,U s3]] fun v=>v=.s a)∧Con UY 146 [.p (some (id,0)),.s a] h fun(v:V) (h':Heap)=> ∃b,v=.tup [I b,V.nilifc]∧K .normal 63 [.p (some (id,0)),Ud, .lb (R9 k s0 s1 s2 s3 kc kn none lo hi gn),J kc kn none,I (kn:Int),I 0] h'∨ ∃c d,v=.tup [I b,V.ifc c d]∧K .normal 63 [.p (some (id,0)),Ud, .lb (R9 k s0 s1 s2 s3 kc kn none lo hi gn),J kc kn none,I (kn:Int),I 0] h') (If (k==(2:Int)) (Con UY 126 [.p (some (id,0)),.i .u8 94] h fun(v:V) (h':Heap)=>v=V.nilifc∧K .normal 63 [.p (some (id,0)),Ud, .lb (R9 k s0 s1 s2 s3 kc kn none lo hi gn),J kc kn none,I (kn:Int),I 0] h'∨ ∃a b,v=V.ifc a b∧K .normal 63 [.p (some (id,0)),Ud, .lb (R9 k s0 s1 s2 s3 kc kn none lo hi gn),J kc kn none,I (kn:Int),I 0] h') (If (k==(3:Int)) (Con UY 126 [.p (some (id,0)),.i .u8 36] h fun(v:V) (h':Heap)=>v=V.nilifc∧K .normal 63 [.p (some (id,0)),Ud, .lb (R9 k s0 s1 s2 s3 kc kn none lo hi gn),J kc kn none,I (kn:Int),I 0] h'∨ ∃a b,v=V.ifc a b∧K .normal 63 [.p (some (id,0)),Ud, .lb (R9 k s0 s1 s2 s3 kc kn none lo hi gn),J kc kn none,I (kn:Int),I 0] h') (If (k==(7:Int)) (Con UY 126 [.p (some (id,0)),.i .u8 40] h fun(v:V) (h':Heap)=>v=V.nilifc∧K .normal 63 [.p (some (id,0)),Ud, .lb (R9 k s0 s1 s2 s3 kc kn none lo hi gn),J kc kn none,I (kn:Int),I 0] h'∨ ∃a b,v=V.ifc a b∧K .normal 63 [.p (some (id,0)),Ud, .lb (R9 k s0 s1 s2 s3 kc kn none lo hi gn),J kc kn none,I (kn:Int),I 0] h') (K .normal 63 [.p (some (id,0)),Ud, .lb (R9 k s0 s1 s2 s3 kc kn none lo hi gn),J kc kn none,I (kn:Int),I 0] h))))):=by kernel_rfl
theorem ZD3{id k s0 s1 s2 s3 kc kn lo hi gn a h}(K):CP UY 114 (flat (Zx (post (flat (Za Tryz.f114))))) (MZ 63 [0,2,3,28,29,30] [.p (some (id,0)),V.undef,.lb (R9 k s0 s1 s2 s3 kc kn none lo hi gn),J kc kn none,I (kn:Int),I a]) h [0,2,3,28,29,30] K=(If (ltI a kn) ((0<=a∧a<kn)∧ ∃b c d e f g j l m n o,Zo 9 (List.drop (a.toNat*9) kc)=some (R9 b c d e f g j l m n o)∧If (ltI 0 a) (If (k==(5:Int)) (Con UY 126 [.p (some (id,0)),.i .u8 124] h fun(v:V) (h':Heap)=>(v=V.nilifc∧Con UY 114 [.p (some (id,0)),.agg (R9 b c d e f g j l m n o)] h' fun(v:V) (h':Heap)=>v=.tup []∧K .normal 63 [.p (some (id,0)),Ud, .lb (R9 k s0 s1 s2 s3 kc kn none lo hi gn),J kc kn none,I (kn:Int),I (IntKind.i64.wrap (a+(1:Int)))] h')∨ ∃q r,v=V.ifc q r∧Con UY 114 [.p (some (id,0)),.agg (R9 b c d e f g j l m n o)] h' fun(v:V) (h':Heap)=>v=.tup []∧K .normal 63 [.p (some (id,0)),Ud, .lb (R9 k s0 s1 s2 s3 kc kn none lo hi gn),J kc kn none,I (kn:Int),I (IntKind.i64.wrap (a+(1:Int)))] h') (Con UY 114 [.p (some (id,0)),.agg (R9 b c d e f g j l m n o)] h fun(v:V) (h':Heap)=>v=.tup []∧K .normal 63 [.p (some (id,0)),Ud, .lb (R9 k s0 s1 s2 s3 kc kn none lo hi gn),J kc kn none,I (kn:Int),I (IntKind.i64.wrap (a+(1:Int)))] h')) (Con UY 114 [.p (some (id,0)),.agg (R9 b c d e f g j l m n o)] h fun(v:V) (h':Heap)=>v=.tup []∧K .normal 63 [.p (some (id,0)),Ud, .lb (R9 k s0 s1 s2 s3 kc kn none lo hi gn),J kc kn none,I (kn:Int),I (IntKind.i64.wrap (a+(1:Int)))] h')) (K (.exit 1) 63 [.p (some (id,0)),Ud, .lb (R9 k s0 s1 s2 s3 kc kn none lo hi gn),J kc kn none,I (kn:Int),I a] h)):=by kernel_rfl
theorem ZD4{id k s0 s1 s2 s3 kc kn lo hi gn h}(K):CP UY 114 ((post (flat (Za Tryz.f114))).drop 1) (MZ 63 [0,3] [.p (some (id,0)),.lb (R9 k s0 s1 s2 s3 kc kn none lo hi gn)]) h [] K=(If (k==(6:Int)) (∃a,(PCon UY 148 [I lo,I hi] fun v=>v=.s a)∧Con UY 146 [.p (some (id,0)),.s a] h fun(v:V) (h':Heap)=> ∃b,v=.tup [I b,V.nilifc]∧K .normal 63 [] h'∨ ∃c d,v=.tup [I b,V.ifc c d]∧K .normal 63 [] h') (If (k==(7:Int)) (Con UY 126 [.p (some (id,0)),.i .u8 41] h fun(v:V) (h':Heap)=>v=V.nilifc∧K .normal 63 [] h'∨ ∃a b,v=V.ifc a b∧K .normal 63 [] h') (K .normal 63 [] h))):=by kernel_rfl
theorem ZD5{x y h}(K):CP UY 148 (flat (Za Tryz.f148)) (I x::I y::Rp 47) h [4] K=((fun P0=>If (x==(0:Int)) (If (y==(-1:Int)) (K .ret 49 [.s #[(42:UInt8)].toList] h) (If (x==(1:Int)) (If (y==(-1:Int)) (K .ret 49 [.s #[(43:UInt8)].toList] h) (If (x==(0:Int)) (If (y==(1:Int)) (K .ret 49 [.s #[(63:UInt8)].toList] h) P0) P0)) (If (x==(0:Int)) (If (y==(1:Int)) (K .ret 49 [.s #[(63:UInt8)].toList] h) P0) P0))) (If (x==(1:Int)) (If (y==(-1:Int)) (K .ret 49 [.s #[(43:UInt8)].toList] h) (If (x==(0:Int)) (If (y==(1:Int)) (K .ret 49 [.s #[(63:UInt8)].toList] h) P0) P0)) (If (x==(0:Int)) (If (y==(1:Int)) (K .ret 49 [.s #[(63:UInt8)].toList] h) P0) P0))) (If (x==y) (∃a,(PCon UY 178 [I x] fun v=>v=.s a)∧ #[(123:UInt8)].toList.length+a.length<=1152921504606846976∧(#[(123:UInt8)].toList++a).length+ #[(125:UInt8)].toList.length<=1152921504606846976∧K .ret 49 [.s (#[(123:UInt8)].toList++a++ #[(125:UInt8)].toList)] h) (If (y==(-1:Int)) (∃a,(PCon UY 178 [I x] fun v=>v=.s a)∧ #[(123:UInt8)].toList.length+a.length<=1152921504606846976∧(#[(123:UInt8)].toList++a).length+ #[(44:UInt8),(125:UInt8)].toList.length<=1152921504606846976∧K .ret 49 [.s (#[(123:UInt8)].toList++a++ #[(44:UInt8),(125:UInt8)].toList)] h) (∃a,(PCon UY 178 [I x] fun v=>v=.s a)∧ #[(123:UInt8)].toList.length+a.length<=1152921504606846976∧(#[(123:UInt8)].toList++a).length+ #[(44:UInt8)].toList.length<=1152921504606846976∧ ∃b,(PCon UY 178 [I y] fun v=>v=.s b)∧(#[(123:UInt8)].toList++a++ #[(44:UInt8)].toList).length+b.length<=1152921504606846976∧(#[(123:UInt8)].toList++a++ #[(44:UInt8)].toList++b).length+ #[(125:UInt8)].toList.length<=1152921504606846976∧K .ret 49 [.s (#[(123:UInt8)].toList++a++ #[(44:UInt8)].toList++b++ #[(125:UInt8)].toList)] h)))):=by kernel_rfl
theorem ZD6{s0 s1 s2 s3 h}(K):CP UY 147 (pre (flat (Za Tryz.f147))) (.agg [U s0,U s1,U s2,U s3]::Rp 62) h [2,4,38,39,40] K=(∃a b c,(PCon UY 175 [.agg [U s0,U s1,U s2,U s3]] fun v=>v=J a b c)∧If ((↑b:Int)==(0:Int)) (K .ret 63 [.s #[(91:UInt8),(94:UInt8),(0:UInt8),(45:UInt8),(255:UInt8),(93:UInt8)].toList,Ud,Ud,Ud,Ud] h) (∃d e f g,(PCon UY 176 [.agg [U 0,U 0,U 0,U 0]] fun(v:V)=>v=.agg [U d,U e,U f,U g])∧If (s0==d&&(s1==e&&(s2==f&&(s3==g&&true)))) (K .ret 63 [.s #[(46:UInt8)].toList,Ud,Ud,Ud,Ud] h) ((fun P0=>If ((↑b:Int)==(1:Int)) (((0:Int)<=(0:Int)∧(0:Int)<(b:Int))∧ ∃j,Zo 1 a=some [.i .u8 j]∧((0:Int)<=(0:Int)∧(0:Int)<(b:Int))∧ ∃l,Zo 1 (List.drop 1 (List.drop (Int.toNat (0:Int)*(2:Nat)) a))=some [.i .u8 l]∧If (j==l) (((0:Int)<=(0:Int)∧(0:Int)<(b:Int))∧ ∃m,Zo 1 a=some [.i .u8 m]∧ ∃n,(PCon UY 177 [.i .u8 m,.s #[(92:UInt8),(124:UInt8),(40:UInt8),(41:UInt8),(42:UInt8),(43:UInt8),(63:UInt8),(123:UInt8),(46:UInt8),(91:UInt8),(94:UInt8),(36:UInt8)].toList] fun v=>v=.s n)∧K .ret 63 [.s n,Ud,Ud,Ud,Ud] h) P0) P0) (K .normal 63 [.s #[].toList, .s #[(91:UInt8)].toList,J a b c,I (b:Int),I 0] h)))):=by kernel_rfl
theorem ZD7{s4 e b c d a h}(K):CP UY 147 (flat (Zx (post (flat (Za Tryz.f147))))) (MZ 63 [4,38,39,40] [.s s4,J b c e,I d,I a]) h [4,38,39,40] K=(If (ltI a d) ((0<=a∧a<c)∧ ∃f g,Zo 2 (List.drop (a.toNat*2) b)=some [.i .u8 f,.i .u8 g]∧ ∃j,(PCon UY 177 [.i .u8 f,.s #[(93:UInt8),(45:UInt8),(92:UInt8),(94:UInt8)].toList] fun(v:V)=>v=.s j)∧s4.length+j.length<=1152921504606846976∧If (g !=f) (∃l,(PCon UY 177 [.i .u8 g,.s #[(93:UInt8),(45:UInt8),(92:UInt8),(94:UInt8)].toList] fun v=>v=.s l)∧ #[(45:UInt8)].toList.length+l.length<=1152921504606846976∧(s4++j).length+(#[(45:UInt8)].toList++l).length<=1152921504606846976∧K .normal 63 [.s (s4++j++(#[(45:UInt8)].toList++l)),J b c e,I d,I (IntKind.i64.wrap (a+(1:Int)))] h) (K .normal 63 [.s (s4++j),J b c e,I d,I (IntKind.i64.wrap (a+(1:Int)))] h)) (K (.exit 1) 63 [.s s4,J b c e,I d,I a] h)):=by kernel_rfl
theorem ZD8{a h}(K):CP UY 147 ((post (flat (Za Tryz.f147))).drop 1) (MZ 63 [4] [.s a]) h [2] K=(a.length+ #[(93:UInt8)].toList.length<=1152921504606846976∧K .ret 63 [.s (a++ #[(93:UInt8)].toList)] h):=by kernel_rfl
end Go.Y
